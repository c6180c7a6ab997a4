/- What the proofs need in common, laid together (2 of 7): no condition. -/
import Derived.Test.YtdnijgdmohinlaaGreatF1
import Derived.Test.YtdnijgdmohinlaaGreatProg
import Derived.WalkKit
import Derived.WalkSpells
import Derived.WalkLawsBesides
import Derived.BigQuiet
import Derived.Deep.QuietTactic
import Derived.Lib.Hide
import Derived.OpenShut
import GoSem.Core.Utf8
import Derived.Laws.RangeAny
import Derived.Laws.Strings
import Derived.Lib.OthersKept
import Derived.Orders
import Derived.Lib.AppendZerosOnto
import Derived.Lib.Overlaps
import Derived.Lib.SliceRun
import Derived.Maps.OwnSet
import Derived.Maps.RangeWalk
import Derived.Laws.OwnMore
set_option linter.unusedSimpArgs false
set_option linter.unusedVariables false
set_option linter.constructorNameAsVariable false
section
namespace Go.Proofs.YtdnijgdmohinlaaGreat.V
def num (n:Nat):List UInt8:=if n<128 then[UInt8.ofNat n]else UInt8.ofNat (128+n%128)::num (n / 128)
termination_by n
decreasing_by omega
theorem num_small {n:Nat}(h:n<128):num n=[UInt8.ofNat n]:=by rw[num,if_pos h]
theorem num_big {n:Nat}(h:¬n<128):num n=UInt8.ofNat (128+n%128)::num (n / 128):=by rw[num,if_neg h]
theorem num_len:∀(k n:Nat),n<128^(k+1)→(num n).length≤k+1
 | k,n,h=>by
  by_cases h1:n<128
  ·rw[num_small h1];simp
  ·rw[num_big h1]
   cases k with
   | zero=>simp at h;omega
   | succ k =>
    have:=num_len k (n / 128) (by rw[Nat.pow_succ]at h;omega)
    simp;omega
theorem num_len64 {n:Nat}(h:n<18446744073709551616):(num n).length≤10:=num_len 9 n (by omega)
theorem num_pos (n:Nat):1≤(num n).length:=by
 by_cases h1:n<128
 ·rw[num_small h1];simp
 ·rw[num_big h1];simp
def text (s:ByteArray):List UInt8:=num s.size++s.data.toList
abbrev ba (l:List UInt8):ByteArray:=⟨l.toArray⟩
theorem ba_append (l m:List UInt8):ba l++ba m=ba (l++m):=by apply ByteArray.ext;simp
theorem ba_data (s:ByteArray):ba s.data.toList=s:=by cases s;rfl
theorem or128 (n:Nat):bits .or .u8 ((n:Int)%256) 128=((128+n%128:Nat):Int):=by
 have h:∀x:Fin 256,bits .or .u8 ((x:Nat):Int) 128=((128+(x:Nat)%128:Nat):Int):=by decide +kernel
 have:=h ⟨n%256,by omega⟩
 simp only at this
 rw[show((n:Int)%256)=((n%256:Nat):Int)from by omega,this]
 omega
end Go.Proofs.YtdnijgdmohinlaaGreat.V
namespace Go.Proofs.YtdnijgdmohinlaaGreat
open Go.RowKit
abbrev IsB (B b:Nat) (l:List UInt8) (w:World):Prop:=Lib.IsBuilder 376 5 B b (Lib.byteCells l) w
theorem byte_any (B b:Nat) (l:List UInt8) (c:Nat) (hc:c<256) (ci:Int) (hci:ci=c) (w:World) (h:IsB B b l w) (hlen:l.length+1≤140737488355328) (hBw:B≤w.heap.size) :
  Calls Tryz.prog 404 #[.pointer (some ⟨b,0,none⟩),.int .u8 ci] w λe w'=>e=.returned .nilIface∧IsB B b (l++[UInt8.ofNat c]) w'∧Below B w w':=by
 subst hci
 refine(Tryz.Builder_WriteByte B b (Lib.byteCells l) c w h (by rw[Lib.byteCells_length];exact hlen) hBw).mono ?_
 rintro e w' ⟨rfl,h1,h2⟩
 refine⟨rfl,.inr ?_,h2⟩
 have e:Lib.byteCells (l++[UInt8.ofNat c])=Lib.byteCells l++[.int .u8 c]:=by
  rw[Lib.byteCells_append];simp[Lib.byteCells];omega
 rw[e];exact h1
set_option maxHeartbeats 1000000 in
set_option maxRecDepth 100000 in
theorem put_any (B b:Nat) (l:List UInt8) (n:Nat) (hn:n<18446744073709551616) (w:World) (h:IsB B b l w) (hlen:l.length+10≤140737488355328) (hBw:B≤w.heap.size) :
  Calls Tryz.prog 378 #[.pointer (some ⟨b,0,none⟩),.int .u64 n] w λe w'=>e=.returned (.tuple #[])∧IsB B b (l++V.num n) w'∧Below B w w':=by
 have h10:=V.num_len64 hn
 go_enter Tryz.func378,Tryz.ntmps378
 go_wp2_with fail
 go_loopw [1] (λv wr=>∃(k:Nat) (m:List UInt8),v=.int .u64 k∧k<18446744073709551616∧l++V.num n=m++V.num k∧IsB B b m wr∧Below B w wr) (λv _=>(intOf v).toNat)
 case atStart=>exact⟨n,l,rfl,hn,rfl,h,Below.refl _ _⟩
 case round =>
  obtain⟨k,m,rfl,hk,hm,hB,hb⟩:=hrel
  have hml:m.length+1≤140737488355328:=by
   have:=congrArg List.length hm
   have:=V.num_pos k
   simp at *;omega
  have hBr:B≤wr.heap.size:=Nat.le_trans hBw hb.size
  by_cases h1:k<128
  ·have hz:=V.num_small h1
   go_wp2_with fail
   refine(byte_any B b m k (by omega) _ rfl wr hB hml hBr).mono ?_;rintro e w3 ⟨rfl,h3,hb3⟩
   go_wp2
   go_end0
   exact⟨rfl,by rw[hm,hz];exact h3,hb.trans hb3⟩
  ·have ho:=V.or128 k
   have hz:=V.num_big h1
   go_wp2_with fail
   refine(byte_any B b m (128+k%128) (by omega) _ (by omega) wr hB hml hBr).mono ?_;rintro e w3 ⟨rfl,h3,hb3⟩
   go_wp2
   go_roundw
   case rel=>exact⟨k / 128,m++[UInt8.ofNat (128+k%128)],by go_num,by omega,by rw[hm,hz];simp,h3,hb.trans hb3⟩
   case measure=>simp[intOf];omega
end Go.Proofs.YtdnijgdmohinlaaGreat
namespace Go.Proofs.YtdnijgdmohinlaaGreat
open Go.RowKit
theorem ext_alloc' (w:World) (o:Obj):Ev.Ext w (w.alloc o):=(Below.refl _ _).alloc (Nat.le_refl _) _
set_option maxRecDepth 100000 in
theorem each_any (B b:Nat) (l:List UInt8) (n:Nat) (hn:n<18446744073709551616) (w:World) (h:IsB B b l w) (hlen:l.length+10≤140737488355328) (hBw:B≤w.heap.size) :
  Calls Tryz.prog 377 #[.int .u64 n,.pointer (some ⟨b,0,none⟩)] w λe w'=>e=.returned (.tuple #[])∧IsB B b (l++V.num n) w'∧Below B w w':=by
 go_enter Tryz.func377,Tryz.ntmps377
 go_wp2_with fail
 refine(put_any B b l n hn w h hlen hBw).mono ?_;rintro e w1 ⟨rfl,h1,hb1⟩
 go_wp2
 go_end0
 exact⟨rfl,h1,hb1⟩
def NumRow (ns:List Nat) (a:Option Addr) (w:World):Prop:=∀(i n:Nat),ns[i]?=some n→n<18446744073709551616∧∃b o,a=some ⟨b,o,none⟩∧w.cell? ⟨b,o+i,none⟩=some (.int .u64 n)
theorem flat_len (ns:List Nat) (h:∀n∈ns,n<18446744073709551616):(ns.flatMap V.num).length≤10*ns.length:=by
 induction ns with
 | nil=>simp
 | cons n r ih =>
  have h1:=V.num_len64 (h n List.mem_cons_self)
  have h2:=ih λm hm=>h m (List.mem_cons_of_mem _ hm)
  rw[List.flatMap_cons,List.length_append,List.length_cons]
  omega
set_option maxHeartbeats 1000000 in
set_option maxRecDepth 100000 in
theorem join_any (a:Option Addr) (cap:Nat) (ns:List Nat) (hl:ns.length≤1000) (w:World) (h:NumRow ns a w) :
  Calls Tryz.prog 355 #[.slice a ns.length cap] w λe w'=>e=.returned (.string (V.ba (ns.flatMap V.num)))∧Ev.Ext w w':=by
 have hfl:=flat_len
 go_enter Tryz.func355,Tryz.ntmps355
 go_wp2_with fail
 go_loopw [6,10] (λ_ i wr=>∃(k:Nat),i=.int .i64 k∧k≤ns.length∧IsB w.heap.size w.heap.size ((ns.take k).flatMap V.num) wr∧Ev.Ext w wr) (λ_ i _=>ns.length - (intOf i).toNat)
 case atStart=>exact⟨0,rfl,by omega,Lib.fresh_isBuilder _ _ w,ext_alloc' _ _⟩
 case round =>
  obtain⟨k,rfl,hk,hB,he⟩:=hrel
  by_cases h1:k<ns.length
  ·obtain⟨hn,b,o,rfl,c0⟩:=h k ns[k] (by simp[h1])
   have c0:=cell_later he c0
   have e1:(ns.take (k+1)).flatMap V.num=(ns.take k).flatMap V.num++V.num ns[k]:=by rw[List.take_succ_eq_append_getElem h1,List.flatMap_append];simp
   have hlk:((ns.take k).flatMap V.num).length+10≤140737488355328:=by
    have:=flat_len (ns.take k) λn hn=>by
     obtain⟨j,hj,rfl⟩:=List.getElem_of_mem (List.mem_of_mem_take hn)
     exact(h j ns[j] (by simp[hj])).1
    rw[List.length_take]at this;omega
   have HE:=Lib.hid e1
   clear e1
   go_wp2_with fail
   refine(each_any _ _ _ _ hn wr hB hlk he.size).mono ?_;rintro e w3 ⟨rfl,h3,hb3⟩
   go_wp2
   go_roundw
   case rel=>exact⟨k+1,by go_num,by omega,by rw[HE.out];exact h3,Below.trans he hb3⟩
   case measure=>simp[intOf];omega
  ·obtain rfl:k=ns.length:=by omega
   rw[List.take_length]at hB
   go_wp2_with fail
   refine(Tryz.Builder_String_any _ _ _ _ hB he.size).mono ?_;rintro e w3 ⟨rfl,hb3⟩
   go_wp2
   go_ret
   exact⟨rfl,Below.trans he hb3⟩
end Go.Proofs.YtdnijgdmohinlaaGreat
namespace Go.Proofs.YtdnijgdmohinlaaGreat
open Go.RowKit R
set_option maxRecDepth 100000 in
theorem number_any (n:Nat) (hn:n<18446744073709551616) (w:World) :
  Calls Tryz.prog 304 #[.int .u64 n] w λe w'=>e=.returned (.string (V.ba (V.num n)))∧Ev.Ext w w':=by
 go_enter Tryz.func304,Tryz.ntmps304
 go_wp2_with fail
 refine(join_any (some ⟨w.heap.size,0,none⟩) 1 [n] (by simp) _ ?_).mono ?_
 ·intro i m hm
  cases i with
  | zero=>simp at hm;subst hm;exact⟨hn,_,_,rfl,by simp⟩
  | succ i=>simp at hm
 rintro e w3 ⟨rfl,hb3⟩
 go_wp2
 go_ret
 exact⟨by simp,(ext_alloc' _ _).trans hb3⟩
set_option maxRecDepth 100000 in
theorem text_any (s:ByteArray) (hs:s.size≤1000000) (w:World) :
  Calls Tryz.prog 303 #[.string s] w λe w'=>e=.returned (.string (V.ba (V.text s)))∧Ev.Ext w w':=by
 have h10:=V.num_len64 (n:=s.size) (by omega)
 go_enter Tryz.func303,Tryz.ntmps303
 go_wp2_with fail
 refine(number_any s.size (by omega) _).mono ?_;rintro e w3 ⟨rfl,hb3⟩
 go_wp2
 go_ret
 exact⟨by unfold V.text;rw[←V.ba_append,V.ba_data];rfl,hb3⟩
theorem conv1' (wr:World) (x:Int):(convert 45 9 (.slice (some ⟨wr.heap.size,0,none⟩) 1 1)).run Tryz.prog (wr.alloc (.cells #[.int .u8 x] 5))=.ok (.string ⟨[UInt8.ofNat x.toNat].toArray⟩) (wr.alloc (.cells #[.int .u8 x] 5)) :=
 run_convert_bytes_arg (P:=Tryz.prog) (w:=wr.alloc (.cells #[.int .u8 x] 5)) 45 5 Tryz.underlying45 Tryz.underlying5 wr.heap.size 0 1 1 [x] rfl (λi hi=>by
  obtain rfl:i=0:=by omega
  simp) 9 Tryz.underlying9
theorem conv_row {w:World}{b:Nat}{x:Int}{T:TypeId}(h:w.heap[b]?=some (.cells #[.int .u8 x] T)):(convert 45 9 (.slice (some ⟨b,0,none⟩) 1 1)).run Tryz.prog w=.ok (.string ⟨[UInt8.ofNat x.toNat].toArray⟩) w :=
 run_convert_bytes_arg (P:=Tryz.prog) (w:=w) 45 5 Tryz.underlying45 Tryz.underlying5 b 0 1 1 [x] rfl (λi hi=>by
  obtain rfl:i=0:=by omega
  simp[World.cell?,h]) 9 Tryz.underlying9
set_option maxRecDepth 100000 in
theorem rnumber_any:∀(n:Nat) (hn:n<18446744073709551616) (w:World),
  Calls Tryz.prog 283 #[.int .u64 n] w λe w'=>e=.returned (.string (V.ba (V.num n)))∧Ev.Ext w w':=by
 intro n
 induction n using Nat.strongRecOn with
 | _ n ih =>
 intro hn w
 by_cases h1:n<128
 ·have hz:=V.num_small h1
  have hcv:=λx=>conv1' w x
  go_enter Tryz.func283,Tryz.ntmps283
  go_wp2_with fail
  go_ret
  exact⟨by rw[hz];simp,ext_alloc' _ _⟩
 ·have hz:=V.num_big h1
  have h10:=V.num_len64 (n:=n / 128) (by omega)
  have hno:¬9223372036854775807<1+(V.num (n / 128)).length:=by omega
  obtain⟨q,hq⟩:∃q,IntKind.u64.wrap ((n:Int) / 128)=q:=⟨_,rfl⟩
  have hrec:=ih (n / 128) (by omega) (by omega)
  rw[show((n / 128:Nat):Int)=q from by rw[←hq];simp only[IntKind.wrap_u64];omega]at hrec
  have HREC:=Lib.hid hrec
  clear hrec
  obtain⟨c,hc⟩:∃c,IntKind.u8.wrap (IntKind.u64.wrap (128+(n:Int).tmod 128))=c:=⟨_,rfl⟩
  have hcn:c=((128+n%128:Nat):Int):=by
   rw[←hc,Int.tmod_eq_emod_of_nonneg (by omega)]
   simp only[IntKind.wrap_u8,IntKind.wrap_u64]
   omega
  have HC:=Lib.hid hcn
  clear hcn
  go_enter Tryz.func283,Tryz.ntmps283
  go_wp2_with fail
  refine Ev.wp_region (Ev.Ext _) (Ev.Ext) (by kernel_rfl) (by kernel_rfl) Ev.Ext.refl (λ_ _ h k=>k.trans h) (Ev.Ext.refl _).tick ?_
  repeat
   first
   | (first|(refine Ev.walk_rel (λv _=>v=.string ⟨[UInt8.ofNat c.toNat].toArray⟩) (λ_ _ _ _ h=>h) ?_ ?_;(intro u wx hcx hfx;(try simp at hfx);obtain⟨b',f4,f5,f6⟩:=hfx;have f7:_=some (Obj.cells #[.int .u8 c] 5 _):=f6;go_simp;intro K hK;rw[conv_row f6];exact hK _ _ (Ev.Ext.refl _) rfl))|(refine Ev.walk_rel (NewRow w.heap.size #[.int .u8 c] 5 1) NewRow.stable ?_ ?_;(intro u wx hcx hfx;(try simp at hfx);go_simp;intro K hK;refine hK _ _ ?_ ⟨_,rfl,hcx.size,heap_alloc_new _ _⟩;exact(Below.refl _ _).alloc (Nat.le_refl _) _)))
   | (
    apply Ev.walk_eq
    ·intro u wx hcx hfx
     have hk:=hcx
     try simp at hfx
     try go_simp
     first
      | rfl
      | (
       intro K hK
       try go_simp
       first
        | (refine hK _ ?_;first|exact Ev.Ext.refl _|assumption)
        | (first|(go_at_call 283;refine(HREC.out _).mono ?_;rintro e wy ⟨rfl,hby⟩;exact⟨_,rfl,hK _ hby⟩))))
   | (fail)
   try simp only[List.nil_append]
   try simp only[List.cons_append]
  intro u wx hcx hfx
  simp at hfx
  simp only[Ev.putU,Act.put,List.setIfInBounds_toArray,List.set_cons_zero,List.set_cons_succ]
  obtain⟨_,_,_,_,_,_,_,_,_,e2⟩:=hfx
  simp only[e2]
  go_wp2
  go_ret
  exact⟨by rw[hz,HC.out];congr 1,hcx⟩
end Go.Proofs.YtdnijgdmohinlaaGreat
namespace Go.Proofs.YtdnijgdmohinlaaGreat
open Go.RowKit R
namespace V
def stampB (n s:Int):Bool:=decide (1≤n)&&(decide (n≤1099511627776)&&(decide (0≤s)&&decide (s<6)))
def stamp (n s:Int):List UInt8:=if stampB n s then num n.toNat++num s.toNat else[]
theorem stampB_iff {n s:Int}:stampB n s=true↔1≤n∧n≤1099511627776∧0≤s∧s<6:=by simp[stampB]
end V
set_option maxRecDepth 100000 in
theorem stcheck_any (n s:Int) (w:World) :
  Calls Tryz.prog 298 #[.agg #[.int .i64 n,.int .i64 s]] w λe w'=>e=.returned (.bool (V.stampB n s))∧Ev.Ext w w':=by
 go_enter Tryz.func298,Tryz.ntmps298
 go_wp2
 all_goals (go_ret;exact⟨by first|(simp_all [V.stampB];done)|(simp_all [V.stampB];omega),ext_alloc' _ _⟩)
set_option maxRecDepth 100000 in
set_option maxHeartbeats 1000000 in
theorem stbytes_any (n s:Int) (w:World) :
  Calls Tryz.prog 305 #[.agg #[.int .i64 n,.int .i64 s]] w λe w'=>e=.returned (.string (V.ba (V.stamp n s)))∧Ev.Ext w w':=by
 cases hb:V.stampB n s
 ·have hc:=stcheck_any n s
  rw[hb]at hc
  have HC:=Lib.hid hc
  clear hc
  have hz:V.stamp n s=[]:=by simp[V.stamp,hb]
  go_enter Tryz.func305,Tryz.ntmps305
  go_wp2_with fail
  refine(HC.out _).mono ?_;rintro e w3 ⟨rfl,hb3⟩
  go_wp2
  go_ret
  exact⟨by rw[hz];rfl,(ext_alloc' _ _).trans hb3⟩
 ·have hc:=stcheck_any n s
  rw[hb]at hc
  have HC:=Lib.hid hc
  clear hc
  obtain⟨a1,a2,a3,a4⟩:=V.stampB_iff.1 hb
  have hz:V.stamp n s=V.num n.toNat++V.num s.toNat:=by simp[V.stamp,hb]
  obtain⟨n',rfl⟩:∃n':Nat,n=n':=⟨n.toNat,by omega⟩
  obtain⟨s',rfl⟩:∃s':Nat,s=s':=⟨s.toNat,by omega⟩
  have HZ:=Lib.hid hz
  clear hz hb
  go_enter Tryz.func305,Tryz.ntmps305
  go_wp2_with fail
  refine(HC.out _).mono ?_;rintro e w3 ⟨rfl,hb3⟩
  have c0:w3.cell? ⟨w.heap.size,0,none⟩=some (.int .i64 n'):=cell_later hb3 (by simp)
  have c1:w3.cell? ⟨w.heap.size,1,none⟩=some (.int .i64 s'):=cell_later hb3 (by simp)
  go_wp2_with fail
  refine(join_any (some ⟨w3.heap.size,0,none⟩) 2 [n',s'] (by simp) _ ?_).mono ?_
  ·intro i m hm
   match i with
   | 0=>simp at hm;subst hm;exact⟨by omega,_,_,rfl,by simp⟩
   | 1=>simp at hm;subst hm;exact⟨by omega,_,_,rfl,by simp⟩
   | (i+2)=>simp at hm
  rintro e w4 ⟨rfl,hb4⟩
  go_wp2
  go_ret
  exact⟨by rw[HZ.out];simp,((ext_alloc' _ _).trans hb3).trans ((ext_alloc' _ _).trans hb4)⟩
end Go.Proofs.YtdnijgdmohinlaaGreat
end
section
namespace Go.Proofs.YtdnijgdmohinlaaGreat
open Go.RowKit A R
theorem A.ba_sz (l:List UInt8):(V.ba l).size=l.length:=by simp[ByteArray.size]
theorem A.Pu_catB {st:ASt}{o:Oper}{t yt:TypeId}{x y:Operand}{l m:List UInt8}(ho:o.op=.binOp .add t x y yt) (hx:st.ev x=.d (.v (.string (V.ba l)))) (hy:st.ev y=.d (.v (.string (V.ba m)))) (hI:l.length+m.length≤maxI):Pu Tryz.prog st o (.d (.v (.string (V.ba (l++m))))):=by
 rw[←V.ba_append]
 exact Pu_cat ho hx hy (by rw[A.ba_sz,A.ba_sz];exact hI)
theorem A.ofv {f:FuncId}{aa:List AV}{r:Value}(hf:∀(vs:Array Value) (w:World),(callFunc f vs).run Tryz.prog w=.ok (.enter f vs) w) (hr:vok r)
  (h:∀(M:Nat→Prop) (w:World) (vs:List Value),AllRep M w aa vs→Calls Tryz.prog f vs.toArray w λe w'=>e=.returned r∧Ev.Ext w w'):ACall Tryz.prog f aa (.v r) :=
 ⟨hf,λM w vs _ ha=>(h M w vs ha).mono λe w' ⟨h1,h2⟩=>⟨r,h1,h2,.v r hr⟩⟩
theorem A.all1 {M:Nat→Prop}{w:World}{x:Value}{vs:List Value}(h:AllRep M w [.v x] vs):vs=[x]∧vok x:=by
 obtain⟨h1,h2⟩:=h
 match vs,h1,h2 with
 | [y],_,h2 =>
  have:=h2 0 _ _ rfl rfl
  cases this with
  | v _ h=>exact⟨rfl,h⟩
theorem rnumber_a (n:Nat) (hn:n<18446744073709551616):ACall Tryz.prog 283 [uv n] (tv (V.ba (V.num n))):=A.ofv (λ_ _=>by kernel_rfl) (by have:=V.num_len64 hn;simp[vok,A.ba_sz,A.maxI];omega) λM w vs ha=>by
 obtain⟨rfl,_⟩:=A.all1 ha
 exact rnumber_any n hn w
set_option maxRecDepth 100000 in
theorem rtext_a (s:ByteArray) (hs:s.size≤1000000):ACall Tryz.prog 282 [tv s] (tv (V.ba (V.text s))):=by
 refine AC_1 Tryz.func282 Tryz.ntmps282 Tryz.results282 λhok M0 w0 hnl=>?_
 have hl:=V.num_len64 (n:=s.size) (by omega)
 refine Aw_sr ?_
 refine Al_mr ?_
 refine Al_ns ?_
 refine Al_ml ?_
 refine Al_p (Pu_lenS rfl Tryz.underlying9 rfl) ?_
 refine Al_p (Pu_conv rfl Tryz.underlying3 Tryz.underlying271 rfl (λhv=>u64_nat (by omega) (by simp only[vok,A.inI]at hv;omega))) ?_
 refine Al_p (Pu_call (rnumber_a s.size (by omega)) rfl ⟨Sub.rfl,trivial⟩) ?_
 refine Al_ml ?_
 refine Al_p (Pu_cat rfl rfl rfl (by simp only[A.ba_sz,List.length_append,A.maxI];omega)) ?_
 refine Al_mr ?_
 refine Al_nil ?_
 exact Aw_ret (Sub.str (by unfold V.text;rw[←V.ba_append,V.ba_data]))
theorem number_a (n:Nat) (hn:n<18446744073709551616):ACall Tryz.prog 304 [uv n] (tv (V.ba (V.num n))):=A.ofv (λ_ _=>by kernel_rfl) (by have:=V.num_len64 hn;simp[vok,A.ba_sz,A.maxI];omega) λM w vs ha=>by
 obtain⟨rfl,_⟩:=A.all1 ha
 exact number_any n hn w
theorem text_a (s:ByteArray) (hs:s.size≤1000000):ACall Tryz.prog 303 [tv s] (tv (V.ba (V.text s))):=A.ofv (λ_ _=>by kernel_rfl) (by have:=V.num_len64 (n:=s.size) (by omega);simp[vok,A.ba_sz,A.maxI,V.text];omega) λM w vs ha=>by
 obtain⟨rfl,_⟩:=A.all1 ha
 exact text_any s hs w
theorem A.rowv {M:Nat→Prop}{w:World}{us:List Value}{y:Value}(h:Rep M w (.row (us.map .v)) y):y=.agg us.toArray:=by
 cases h with
 | row cs ws hl h1 hrr =>
  have:ws=us:=by
   apply List.ext_getElem (by simpa using hl)
   intro i h3 h4
   have h5:=hrr i (.v us[i]) ws[i] (by simp[h4]) (by simp[h3])
   generalize ws[i]=p at h5 ⊢
   cases h5;rfl
  rw[this]
theorem A.all1r {M:Nat→Prop}{w:World}{us:List Value}{vs:List Value}(h:AllRep M w [.row (us.map .v)] vs):vs=[.agg us.toArray]:=by
 obtain⟨h1,h2⟩:=h
 match vs,h1,h2 with
 | [y],_,h2 =>
  have:=A.rowv (h2 0 _ _ rfl rfl)
  rw[this]
class A.RowT (α:Type) [GoT α] where
 row:α→List AV
 back:∀{M:Nat→Prop}{w:World}{cs:List Value}{x:α},Cells M w (row x) cs→GoT.rep (λb=>¬M b) w cs x
class A.RowI (α:Type) [GoT α] extends A.RowT α where
 into:∀{K M:Nat→Prop}{w:World}{cs:List Value}{x:α},GoT.rep K w cs x→(∀b,K b→¬M b)→Cells M w (row x) cs
open A.RowT
theorem A.sl_of {α:Type}[GoT α] [RowT α] {M:Nat→Prop}{w:World}{v:Value}{xs:List α}(h:Rep M w (.sl (GoT.n α) (xs.map row)) v):Sl (λb=>¬M b) w v xs:=by
 generalize hr:xs.map row=rows at h
 cases h with
 | nil n a c =>
  have:xs=[]:=by simpa using hr
  subst this
  exact⟨a,c,rfl,by simp,λh=>(h rfl).elim⟩
 | sl n rows b o cap f hl hcap hn hc hrr =>
  subst hr
  refine⟨_,cap,by simp,by simpa using hl,λhne=>⟨b,o,rfl,?_,λi x hx=>?_⟩⟩
  ·cases xs with
   | nil=>exact(hne rfl).elim
   | cons x r =>
    have h1:=hn 0 (row x) rfl
    have hp:=GoT.pos (α:=α)
    cases hrow:row x with
    | nil=>rw[hrow]at h1;simp at h1;omega
    | cons a t=>exact(hc 0 (row x) 0 a rfl (by rw[hrow];rfl)).1
  ·have h0:(xs.map row)[i]?=some (row x):=by rw[List.getElem?_map,hx];rfl
   have hlen:=hn i (row x) h0
   refine⟨(List.range (GoT.n α)).map (f i),RowT.back ⟨by simp[hlen],λj a y ha hy=>?_⟩,λj c hj=>?_⟩
   ·have hj:j<GoT.n α:=by rw[←hlen];exact(List.getElem?_eq_some_iff.1 ha).1
    rw[List.getElem?_map,List.getElem?_range hj]at hy
    simp only[Option.map_some,Option.some.injEq]at hy
    subst hy
    exact⟨hrr i _ j a h0 ha,(hc i _ j a h0 ha).2.2⟩
   ·have hj':j<GoT.n α:=by
     have:=(List.getElem?_eq_some_iff.1 hj).1
     simpa using this
    rw[List.getElem?_map,List.getElem?_range hj']at hj
    simp only[Option.map_some,Option.some.injEq]at hj
    subst hj
    have ha:(row x)[j]?=some ((row x)[j]'(by omega)):=by simp[hlen,hj']
    exact(hc i _ j _ h0 ha).2.1
theorem A.cells1 {M:Nat→Prop}{w:World}{a:AV}{x:Value}(h:Rep M w a x) (h1:x.oneCell'=true):Cells M w [a] [x]:=⟨rfl,λj b y h2 h3=>by
 cases j with
 | zero=>simp at h2 h3;subst h2 h3;exact⟨h,h1⟩
 | succ j=>simp at h2⟩
theorem A.cellsc {M:Nat→Prop}{w:World}{a:AV}{x:Value}{aa:List AV}{xs:List Value}(h:Rep M w a x) (h1:x.oneCell'=true) (hc:Cells M w aa xs):Cells M w (a::aa) (x::xs):=by
 have:=(cells1 h h1).append hc
 exact this
theorem A.uncons {M:Nat→Prop}{w:World}{a:AV}{aa:List AV}{cs:List Value}(h:Cells M w (a::aa) cs):∃x xs,cs=x::xs∧Rep M w a x∧x.oneCell'=true∧Cells M w aa xs:=by
 obtain⟨h1,h2⟩:=h
 match cs,h1,h2 with
 | x::xs,h1,h2=>exact⟨x,xs,rfl,(h2 0 a x rfl rfl).1,(h2 0 a x rfl rfl).2,by simpa using h1,λj b y h3 h4=>h2 (j+1) b y (by simpa using h3) (by simpa using h4)⟩
theorem A.uncons0 {M:Nat→Prop}{w:World}{cs:List Value}(h:Cells M w [] cs):cs=[]:=List.eq_nil_of_length_eq_zero h.1
theorem A.repv {M:Nat→Prop}{w:World}{x y:Value}(h:Rep M w (.v x) y):y=x∧vok x:=by
 cases h with
 | v _ h=>exact⟨rfl,h⟩
instance:RowI ByteArray where
 row s:=[tv s]
 into h _:=by
  obtain⟨rfl,h2⟩:=h
  exact cells1 (.v _ h2) rfl
 back h:=by
  obtain⟨x,xs,rfl,h1,h2,h3⟩:=uncons h
  obtain rfl:=uncons0 h3
  obtain⟨rfl,h4⟩:=repv h1
  exact⟨rfl,h4⟩
instance:RowI Int where
 row s:=[iv s]
 into h _:=by
  obtain⟨rfl,h2⟩:=h
  exact cells1 (.v _ h2) rfl
 back h:=by
  obtain⟨x,xs,rfl,h1,h2,h3⟩:=uncons h
  obtain rfl:=uncons0 h3
  obtain⟨rfl,h4⟩:=repv h1
  exact⟨rfl,h4⟩
theorem A.allc {M:Nat→Prop}{w:World}{a:AV}{aa:List AV}{vs:List Value}(h:AllRep M w (a::aa) vs):∃x xs,vs=x::xs∧Rep M w a x∧AllRep M w aa xs:=by
 obtain⟨h1,h2⟩:=h
 match vs,h1,h2 with
 | x::xs,h1,h2=>exact⟨x,xs,rfl,h2 0 a x rfl rfl,by simpa using h1,λj b y h3 h4=>h2 (j+1) b y (by simpa using h3) (by simpa using h4)⟩
theorem A.all0 {M:Nat→Prop}{w:World}{vs:List Value}(h:AllRep M w [] vs):vs=[]:=List.eq_nil_of_length_eq_zero h.1
end Go.Proofs.YtdnijgdmohinlaaGreat
end
section
namespace Go.Proofs.YtdnijgdmohinlaaGreat.A
open Go Go.ChangeShapes Go.WideShapes Go.ChangeAt Go.RowKit Go.Joins Go.Deep R
inductive Shape where
 | i64|str|boo|unit
 | pair (a b:Shape)
 | stru (s:Shape)
 | sl (n:Nat) (s:Shape)
 | ar (k n:Nat) (s:Shape)
def Fits:Shape→List AV→Prop
 | .i64,aa=>∃x,aa=[iv x]
 | .str,aa=>∃s,aa=[tv s]
 | .boo,aa=>∃b,aa=[bv b]
 | .unit,aa=>aa=[]
 | .pair a b,aa=>∃l m,aa=l++m∧Fits a l∧Fits b m
 | .stru s,aa=>Fits s aa
 | .sl n s,aa=>∃rows:List (List AV),aa=[.sl n rows]∧∀r∈rows,Fits s r
 | .ar k _ s,aa=>∃rows:List (List AV),rows.length=k∧aa=rows.flatten∧∀r∈rows,Fits s r
def okG (P:Program):Shape→(TypeId→Prop)×(List Field→Nat→Nat→Prop)
 | .i64=>(λt=>P.underlying t=some (.int .i64),λ_ _ _=>False)
 | .str=>(λt=>P.underlying t=some .string,λ_ _ _=>False)
 | .boo=>(λt=>P.underlying t=some .bool,λ_ _ _=>False)
 | .unit=>(λ_=>False,λfs off tot=>fs=[]∧off=tot)
 | .pair a b=>(λ_=>False,λfs off tot=>∃f r k,fs=f::r∧f.offset=off∧P.cellsOf f.type=k∧(okG P a).1 f.type∧(okG P b).2 r (off+k) tot)
 | .stru s=>(λt=>∃fs,P.underlying t=some (.struct fs)∧(okG P s).2 fs.toList 0 (P.cellsOf t),λ_ _ _=>False)
 | .sl n s=>(λt=>∃e,P.underlying t=some (.slice e)∧P.cellsOf e=n∧0<n∧(okG P s).1 e,λ_ _ _=>False)
 | .ar k n s=>(λt=>∃e,P.underlying t=some (.array k e)∧P.cellsOf e=n∧P.cellsOf t=k*n∧(okG P s).1 e,λ_ _ _=>False)
section
variable {H:Type}{enc:TypeId×Value→H}{P:Program}{W:World}{base:Nat}{spare:Nat→Bool}{held:Bool}
abbrev NoM:Nat→Prop:=λ_=>False
theorem cell1 {a:AV}{x:Value}(h:Rep NoM W a x) (h1:x.oneCell'=true):Cells NoM W [a] [x]:=⟨rfl,λj b y h2 h3=>by
 cases j with
 | zero=>simp at h2 h3;subst h2 h3;exact⟨h,h1⟩
 | succ j=>simp at h2⟩
theorem fits_sl {n:Nat}{s:Shape}{t e:TypeId}{fuel:Nat}{cs:List Value}{x:DataW H×List MemPlace}(ht:P.underlying t=some (.slice e)) (hn:P.cellsOf e=n) (hpos:0<n)
  (elem:∀(m:Nat) (cs:List Value) (y:DataW H×List MemPlace),DataW.trod enc P W base spare held m e cs=some y→∃aa,Fits s aa∧Cells NoM W aa cs)
  (h:DataW.trod enc P W base spare held fuel t cs=some x):∃rows:List (List AV),(∀r∈rows,Fits s r)∧Cells NoM W [.sl n rows] cs:=by
 rcases open_slice ht h with⟨hcs,_⟩|⟨a,len,cap,m,k,D,Pl,hcs,hb,hl,hm,hmm,_,hx⟩
 ·subst hcs
  exact⟨[],(λr hr=>by cases hr),cell1 (.nil _ _ _) rfl⟩
 ·subst hcs
  have hlm:len≤m:=by rw[hmm];split<;>omega
  have hel:∀i,i<len→∃(aa:List AV) (cs:List Value),Fits s aa∧Cells NoM W aa cs∧W.cells? base (a.add (i*n)) n=some cs:=λi hi=>by
   obtain⟨cs',h1,h2⟩:=hx i (by omega)
   rw[hn]at h1
   obtain⟨aa,ha,hc⟩:=elem k cs' _ h2
   exact⟨aa,cs',ha,hc,h1⟩
  have hcl:∀i,i<len→∀cs,W.cells? base (a.add (i*n)) n=some cs→cs.length=n∧∀j c,cs[j]?=some c→W.cell? ((a.add (i*n)).add j)=some c:=λi hi cs h1=>by
   obtain⟨_,h2,h3⟩:=World.cells?_some h1
   exact⟨h2,λj c hj=>by rw[h3 j (by rw[←h2];exact(List.getElem?_eq_some_iff.1 hj).1)];exact hj⟩
  by_cases h0:len=0
  ·subst h0
   exact⟨[],(λr hr=>by cases hr),cell1 (.nil _ _ _) rfl⟩
  ·obtain⟨b,o,sp⟩:=a
   have hsp:sp=none:=by
    obtain⟨aa,cs,_,hc,h1⟩:=hel 0 (by omega)
    obtain⟨h2,h3⟩:=hcl 0 (by omega) cs h1
    cases cs with
    | nil=>simp at h2;omega
    | cons c t =>
     have:=h3 0 c rfl
     have e0:((⟨b,o,sp⟩:Addr).add (0*n)).add 0=⟨b,o,sp⟩:=by simp[Addr.add]
     rw[e0]at this
     exact World.cell?_spot this
   subst hsp
   let rows:List (List AV):=(List.range len).map λi=>if h:i<len then Classical.choose (hel i h)else[]
   have hrow:∀(i:Nat) (r:List AV),rows[i]?=some r→∃h:i<len,r=Classical.choose (hel i h):=λi r hr=>by
    simp only[rows,List.getElem?_map]at hr
    obtain⟨k,h1,h2⟩:=Option.map_eq_some_iff.1 hr
    have hi:i<len:=by
     have:=(List.getElem?_eq_some_iff.1 h1).1
     simpa using this
    rw[List.getElem?_range hi]at h1
    cases h1
    rw[dif_pos hi]at h2
    exact⟨hi,h2.symm⟩
   let f:Nat→Nat→Value:=λi j=>if h:i<len then(Classical.choose (Classical.choose_spec (hel i h))).getD j undef else undef
   have hf:∀(i:Nat) (r:List AV) (j:Nat) (a':AV),rows[i]?=some r→r[j]?=some a'→W.cell? ⟨b,o+i*n+j,none⟩=some (f i j)∧(f i j).oneCell'=true∧Rep NoM W a' (f i j):=λi r j a' hr ha=>by
    obtain⟨hi,rfl⟩:=hrow i r hr
    obtain⟨k1,k2,k3⟩:=Classical.choose_spec (Classical.choose_spec (hel i hi))
    obtain⟨k4,k5⟩:=hcl i hi _ k3
    have hj:j<(Classical.choose (Classical.choose_spec (hel i hi))).length:=by rw[k2.1];exact(List.getElem?_eq_some_iff.1 ha).1
    have e:f i j=(Classical.choose (Classical.choose_spec (hel i hi))).getD j undef:=by show(if h:i<len then _ else _)=_;rw[dif_pos hi]
    have e2:(Classical.choose (Classical.choose_spec (hel i hi)))[j]?=some (f i j):=by
     rw[e,List.getD_eq_getElem?_getD,List.getElem?_eq_getElem hj]
     rfl
    have k6:=k5 j _ e2
    rw[add_addr,add_addr]at k6
    exact⟨k6,(k2.2 j a' _ ha e2).2,(k2.2 j a' _ ha e2).1⟩
   have hlen:rows.length=len:=by simp[rows]
   refine⟨rows,λr hr=>?_,?_⟩
   ·obtain⟨i,hi,rfl⟩:=List.getElem_of_mem hr
    obtain⟨h1,h2⟩:=hrow i rows[i] (by simp[hi])
    rw[h2]
    exact(Classical.choose_spec (Classical.choose_spec (hel i h1))).1
   ·have:=Rep.sl (M:=NoM) (w:=W) n rows b o cap f (by rw[hlen];unfold maxLen at hm;unfold A.maxI;omega) (by omega) (λi r hr=>by
     obtain⟨hi,rfl⟩:=hrow i r hr
     obtain⟨k1,k2,k3⟩:=Classical.choose_spec (Classical.choose_spec (hel i hi))
     rw[←k2.1]
     exact(hcl i hi _ k3).1) (λi r j a' hr ha=>⟨λh=>h,(hf i r j a' hr ha).1,(hf i r j a' hr ha).2.1⟩) (λi r j a' hr ha=>(hf i r j a' hr ha).2.2)
    rw[hlen]at this
    exact cell1 this rfl
theorem fits:∀(sh:Shape),(∀(t:TypeId) (fuel:Nat) (cs:List Value) (x:DataW H×List MemPlace),(okG P sh).1 t→DataW.trod enc P W base spare held fuel t cs=some x→∃aa,Fits sh aa∧Cells NoM W aa cs) ∧
  (∀(fs:List Field) (off tot n:Nat) (cs:List Value),(okG P sh).2 fs off tot→cs.length=tot→(∀(f:Field),f∈fs→∃x,DataW.trod enc P W base spare held n f.type ((cs.drop f.offset).take (P.cellsOf f.type))=some x)→∃aa,Fits sh aa∧Cells NoM W aa (cs.drop off))
 | .i64=>⟨λt fuel cs x ht h=>by
   obtain⟨n,rfl,_,hw⟩:=DataW.trod_int ht h
   refine⟨_,⟨n,rfl⟩,cell1 (.v _ ?_) rfl⟩
   simp[Lit.wf,IntKind.min,IntKind.max,IntKind.signed,IntKind.bits]at hw
   exact⟨by omega,by omega⟩,λ_ _ _ _ _ h=>h.elim⟩
 | .str=>⟨λt fuel cs x ht h=>by
   obtain⟨s,rfl,_,hw⟩:=DataW.trod_string ht h
   exact⟨_,⟨s,rfl⟩,cell1 (.v _ (by unfold maxLen at hw;show s.size≤maxI;omega)) rfl⟩,λ_ _ _ _ _ h=>h.elim⟩
 | .boo=>⟨λt fuel cs x ht h=>by
   obtain⟨b,rfl,_⟩:=DataW.trod_bool ht h
   exact⟨_,⟨b,rfl⟩,cell1 (.v _ trivial) rfl⟩,λ_ _ _ _ _ h=>h.elim⟩
 | .unit=>⟨λ_ _ _ _ h=>h.elim,λfs off tot n cs h hl _=>by
   obtain⟨_,rfl⟩:=h
   exact⟨[],rfl,by rw[List.drop_eq_nil_of_le (by omega)];exact⟨rfl,λj a x h=>by simp at h⟩⟩⟩
 | .pair a b=>⟨λ_ _ _ _ h=>h.elim,λfs off tot n cs h hl hel=>by
   obtain⟨f,r,k,rfl,rfl,rfl,h1,h2⟩:=h
   obtain⟨x,hx⟩:=hel f (by simp)
   obtain⟨l,hl1,hl2⟩:=(fits a).1 f.type n _ x h1 hx
   obtain⟨m,hm1,hm2⟩:=(fits b).2 r _ tot n cs h2 hl (λf hf=>hel f (by simp[hf]))
   refine⟨l++m,⟨l,m,rfl,hl1,hm1⟩,?_⟩
   have e:cs.drop f.offset=(cs.drop f.offset).take (P.cellsOf f.type)++cs.drop (f.offset+P.cellsOf f.type):=by
    rw[←List.drop_drop,List.take_append_drop]
   rw[e]
   exact hl2.append hm2⟩
 | .stru s=>⟨λt fuel cs x ht h=>by
   obtain⟨fs,h1,h2⟩:=ht
   obtain⟨xs,n,_,_,hl,hsz,hel⟩:=DataW.trod_struct h1 h
   obtain⟨aa,h3,h4⟩:=(fits s).2 fs.toList 0 _ n cs h2 hl (λf hf=>by
    obtain⟨i,hi,rfl⟩:=List.getElem_of_mem hf
    have hi':i<fs.size:=by simpa using hi
    have:=hel i fs[i] (by simp[hi'])
    have hx:i<xs.length:=by omega
    exact⟨xs[i],by simpa [hx]using this⟩)
   exact⟨aa,h3,by simpa using h4⟩,λ_ _ _ _ _ h=>h.elim⟩
 | .sl n s=>⟨λt fuel cs x ht h=>by
   obtain⟨e,h1,h2,h3,h4⟩:=ht
   obtain⟨rows,h5,h6⟩:=fits_sl (s:=s) h1 h2 h3 (λm cs y hy=>(fits s).1 e m cs y h4 hy) h
   exact⟨_,⟨rows,rfl,h5⟩,h6⟩,λ_ _ _ _ _ h=>h.elim⟩
 | .ar k n s=>⟨λt fuel cs x ht h=>by
   obtain⟨e,h1,h2,h3,h4⟩:=ht
   obtain⟨xs,m,_,_,hl,hsz,hel⟩:=DataW.trod_array h1 h
   rw[h2]at hel
   rw[h3]at hl
   have key:∀j,j≤k→∃rows:List (List AV),rows.length=j∧(∀r∈rows,Fits s r)∧Cells NoM W rows.flatten (cs.take (j*n)):=by
    intro j
    induction j with
    | zero=>intro _;exact⟨[],rfl,(λr hr=>by cases hr),by rw[Nat.zero_mul];exact⟨rfl,λj a x h=>by simp at h⟩⟩
    | succ j ih =>
     intro hj
     obtain⟨rows,r1,r2,r3⟩:=ih (by omega)
     have hx:j<xs.length:=by omega
     have hj2:=hel j (by omega)
     rw[List.getElem?_eq_getElem hx]at hj2
     obtain⟨aa,a1,a2⟩:=(fits s).1 e m _ _ h4 hj2
     refine⟨rows++[aa],by simp[r1],λr hr=>?_,?_⟩
     ·rcases List.mem_append.1 hr with h|h
      ·exact r2 r h
      ·rw[List.mem_singleton.1 h];exact a1
     ·rw[List.flatten_append,show[aa].flatten=aa from by simp,Nat.add_mul,Nat.one_mul,List.take_add]
      exact r3.append a2
   obtain⟨rows,r1,r2,r3⟩:=key k (Nat.le_refl _)
   rw[←hl,List.take_length]at r3
   exact⟨_,⟨rows,r1,rfl,r2⟩,r3⟩,λ_ _ _ _ _ h=>h.elim⟩
end
end Go.Proofs.YtdnijgdmohinlaaGreat.A
end
section
namespace Go.Proofs.YtdnijgdmohinlaaGreat
open Go.ChangeShapes Go.WideShapes Go.ChangeAt Go.RowKit A
open Go.ChangeMaps (open_string shut_string)
theorem A.rows_map {α:Type}{f:α→List AV}:∀{rows:List (List AV)},(∀r∈rows,∃x,r=f x)→∃l:List α,rows=l.map f
 | [],_=>⟨[],rfl⟩
 | r::rest,h=>by
  obtain⟨x,rfl⟩:=h r (by simp)
  obtain⟨l,rfl⟩:=A.rows_map (rows:=rest) λr hr=>h r (by simp[hr])
  exact⟨x::l,rfl⟩
theorem A.law {f:FuncId}{aa:List AV}{vs:List Value}{W:World}(h:ACall Tryz.prog f aa (bv true)) (hr:AllRep NoM W aa vs):Calls Tryz.prog f vs.toArray W λe W'=>e=.returned (.bool true)∧Ev.Ext W W' :=
 (h.2 NoM W vs (λb hb=>hb.elim) hr).mono λe w' ⟨v,h1,h2,h3⟩=>by
  cases h3
  exact⟨h1,h2⟩
theorem A.allcons {W:World}{a:AV}{aa:List AV}{v:Value}{vs:List Value}(h:Rep NoM W a v) (hr:AllRep NoM W aa vs):AllRep NoM W (a::aa) (v::vs):=⟨by simp[hr.1],λj b x h1 h2=>by
 cases j with
 | zero=>simp at h1 h2;subst h1 h2;exact h
 | succ j=>exact hr.2 j b x (by simpa using h1) (by simpa using h2)⟩
theorem A.allnil {W:World}:AllRep NoM W [] []:=⟨rfl,λj b x h1 h2=>by simp at h1⟩
section
variable {H:Type}{enc:TypeId×Value→H}{W:World}{base:Nat}{spare:Nat→Bool}{held:Bool}{v:Value}{d:DataW H}{p:List MemPlace}
set_option maxRecDepth 100000 in
theorem A.open_slice {t n:Nat}{s:Shape}{e:TypeId}(ht:Tryz.prog.underlying t=some (.slice e)) (hk:(okG Tryz.prog (.sl n s)).1 t) (hv:Value.okWide Tryz.prog W .any base t v) (h:DataW.Trod enc Tryz.prog W 0 spare held t v d p):∃rows:List (List AV),(∀r∈rows,Fits s r)∧Rep NoM W (.sl n rows) v:=by
 obtain⟨a,len,cap,rfl⟩:=okWide_slice ht hv
 obtain⟨fuel,hf⟩:=h
 obtain⟨aa,⟨rows,rfl,h1⟩,h2⟩:=(fits (.sl n s)).1 t fuel _ _ hk (by simpa [Value.cells]using hf)
 exact⟨rows,h1,(h2.2 0 _ _ rfl rfl).1⟩
set_option maxRecDepth 100000 in
theorem A.open_struct {t:Nat}{s:Shape}{fs:Array Field}(ht:Tryz.prog.underlying t=some (.struct fs)) (hk:(okG Tryz.prog s).1 t) (hv:Value.okWide Tryz.prog W .any base t v) (h:DataW.Trod enc Tryz.prog W 0 spare held t v d p):∃r:List AV,Fits s r∧Rep NoM W (.row r) v:=by
 obtain⟨cs,rfl,_⟩:=okWide_struct ht hv
 obtain⟨fuel,hf⟩:=h
 obtain⟨aa,h1,h2⟩:=(fits s).1 t fuel _ _ hk (by simpa [Value.cells]using hf)
 have:=h2.row
 exact⟨aa,h1,by simpa using this⟩
set_option maxRecDepth 100000 in
theorem A.open_i64 {t:TypeId}(ht:Tryz.prog.underlying t=some (.int .i64)) (hv:Value.okWide Tryz.prog W .any base t v) (h:DataW.Trod enc Tryz.prog W 0 spare held t v d p):∃z:Int,Rep NoM W (iv z) v:=by
 obtain⟨n,rfl,_,_,hn⟩:=open_int ht hv h
 refine⟨n,.v _ ?_⟩
 simp[Lit.wf,IntKind.min,IntKind.max,IntKind.signed,IntKind.bits]at hn
 exact⟨by omega,by omega⟩
end
theorem int_fits {r:List AV}(h:Fits .i64 r):∃x:Int,r=[iv x]:=h
theorem ints_fits {r:List AV}(h:Fits (.sl 1 .i64) r):∃l:List Int,r=[.sl 1 (l.map λx=>[iv x])]:=by
 obtain⟨rows,rfl,hr⟩:=h
 obtain⟨l,rfl⟩:=A.rows_map (f:=λx:Int=>[iv x]) λr h=>int_fits (hr r h)
 exact⟨l,rfl⟩
end Go.Proofs.YtdnijgdmohinlaaGreat
end
section
namespace Go.Proofs.YtdnijgdmohinlaaGreat.K
open Go
structure Hid' (a b:Int):Prop where
 out:a=b
def bt (s:ByteArray) (i:Nat):Nat:=(s.get! i).toNat
theorem bt_lt (s:ByteArray) (i:Nat):bt s i<256:=(s.get! i).toNat_lt
theorem get_bt (s:ByteArray) (i:Nat) (h:i<s.size):(s[i]'h).toNat=bt s i:=by
 unfold bt;rw[←get_at s i h];rfl
def okAt (s:ByteArray) (i:Nat):Bool:=!((Utf8.decode s i).1==65533&&(Utf8.decode s i).2==1)
def wd (s:ByteArray) (i:Nat):Nat:=(Utf8.decode s i).2
def rn (s:ByteArray) (i:Nat):Nat:=(Utf8.decode s i).1
def longN (b:Nat):Nat:=if b<128 then 1 else if 194≤b∧b≤223 then 2 else if 224≤b∧b≤239 then 3 else if 240≤b∧b≤244 then 4 else 0
def contN (b:Nat):Bool:=decide (128≤b∧b≤191)
def exc (a b:Nat):Bool:=(a==224&&decide (b<160))||(a==237&&decide (159<b))||(a==240&&decide (b<144))||(a==244&&decide (143<b))
def refOk (s:ByteArray) (i:Nat):Bool :=
 longN (bt s i) !=0&&decide (longN (bt s i)≤s.size - i)&&(decide (longN (bt s i)≤1)||contN (bt s (i+1)))&&(decide (longN (bt s i)≤2)||contN (bt s (i+2)))&&(decide (longN (bt s i)≤3)||contN (bt s (i+3)))&&!(exc (bt s i) (bt s (i+1)))
def dec (b0 b1 b2 b3:Nat) (c1 c2 c3:Bool):Nat×Nat :=
 if b0<0x80 then(b0,1)
 else if b0 / 32==6&&(c1&&b1 / 64==2)then
  if (b0%32)*64+b1%64≥0x80 then((b0%32)*64+b1%64,2)else(65533,1)
 else if b0 / 16==14&&(c1&&b1 / 64==2)&&(c2&&b2 / 64==2)then
  if (b0%16)*4096+(b1%64)*64+b2%64≥0x800&&Utf8.valid ((b0%16)*4096+(b1%64)*64+b2%64:Nat)then((b0%16)*4096+(b1%64)*64+b2%64,3)else(65533,1)
 else if b0 / 8==30&&(c1&&b1 / 64==2)&&(c2&&b2 / 64==2)&&(c3&&b3 / 64==2)then
  if (b0%8)*262144+(b1%64)*4096+(b2%64)*64+b3%64≥0x10000&&Utf8.valid ((b0%8)*262144+(b1%64)*4096+(b2%64)*64+b3%64:Nat)then((b0%8)*262144+(b1%64)*4096+(b2%64)*64+b3%64,4)else(65533,1)
 else(65533,1)
theorem decode_bt (s:ByteArray) (i:Nat):Utf8.decode s i=dec (bt s i) (bt s (i+1)) (bt s (i+2)) (bt s (i+3)) (i+1<s.size) (i+2<s.size) (i+3<s.size):=rfl
theorem valid_iff (n:Nat):Utf8.valid (n:Int)=true↔n<55296∨(57344≤n∧n≤1114111):=by
 simp only[Utf8.valid,Bool.or_eq_true,Bool.and_eq_true,decide_eq_true_eq];omega
theorem ref_ok (s:ByteArray) (i:Nat) (h:i<s.size):refOk s i=okAt s i∧(okAt s i=true→longN (bt s i)=wd s i):=by
 have h0:=bt_lt s i;have h1:=bt_lt s (i+1);have h2:=bt_lt s (i+2);have h3:=bt_lt s (i+3)
 have key:(refOk s i=true↔okAt s i=true)∧(okAt s i=true→longN (bt s i)=wd s i):=by
  simp only[okAt,wd,refOk,exc,contN,decode_bt]
  simp only[Bool.and_eq_true,Bool.or_eq_true,Bool.not_eq_true',Bool.or_eq_false_iff,Bool.and_eq_false_iff,bne_iff_ne,decide_eq_true_eq,beq_eq_false_iff_ne,decide_eq_false_iff_not]
  generalize bt s i=a at *
  generalize bt s (i+1)=b at *
  generalize bt s (i+2)=c at *
  generalize bt s (i+3)=d at *
  unfold longN dec
  simp only[Bool.and_eq_true,beq_iff_eq,decide_eq_true_eq,ge_iff_le,valid_iff]
  repeat' split
  all_goals simp
  all_goals (try omega)
 exact⟨by rw[Bool.eq_iff_iff];exact key.1,key.2⟩
end Go.Proofs.YtdnijgdmohinlaaGreat.K
namespace Go.Proofs.YtdnijgdmohinlaaGreat.K
open Go
theorem wd_pos (s:ByteArray) (i:Nat) (h:i<s.size):1≤wd s i:=by
 unfold wd
 by_cases ha:(s[i]'h).toNat<128
 ·rw[decode_ascii s i h ha];exact Nat.le_refl _
 ·exact(decode_high s i h (by omega)).2
def runesF (s:ByteArray):Nat→Nat→Option Nat
 | 0,_=>some 0
 | f+1,i=>if i<s.size then(if okAt s i then(runesF s f (i+wd s i)).map (·+1)else none)else some 0
def runes (s:ByteArray):Int:=match runesF s s.size 0 with|some n=>n|none=> -1
theorem runesF_end (s:ByteArray) (f i:Nat) (h:¬i<s.size):runesF s f i=some 0:=by cases f<;>simp[runesF,h]
theorem runesF_bad (s:ByteArray) (f i:Nat) (h:i<s.size) (hf:s.size≤i+f) (ho:okAt s i=false):runesF s f i=none:=by
 cases f with
 | zero=>omega
 | succ f=>simp[runesF,h,ho]
theorem runesF_ok (s:ByteArray) (f i:Nat) (h:i<s.size) (hf:s.size≤i+f) (ho:okAt s i=true):∃g,s.size≤i+wd s i+g∧runesF s f i=(runesF s g (i+wd s i)).map (·+1):=by
 cases f with
 | zero=>omega
 | succ f=>exact⟨f,by have:=wd_pos s i h;omega,by simp[runesF,h,ho]⟩
def At (s:ByteArray) (i n:Nat):Prop:=∃f,s.size≤i+f∧runesF s s.size 0=(runesF s f i).map (·+n)
theorem At.start (s:ByteArray):At s 0 0:=⟨s.size,by omega,by simp⟩
theorem At.next {s:ByteArray}{i n:Nat}(h:At s i n) (hi:i<s.size) (ho:okAt s i=true):At s (i+wd s i) (n+1):=by
 obtain⟨f,h1,h2⟩:=h
 obtain⟨g,h3,h4⟩:=runesF_ok s f i hi h1 ho
 refine⟨g,h3,?_⟩
 rw[h2,h4,Option.map_map]
 congr 1;funext x;simp;omega
theorem At.bad {s:ByteArray}{i n:Nat}(h:At s i n) (hi:i<s.size) (ho:okAt s i=false):runes s= -1:=by
 obtain⟨f,h1,h2⟩:=h
 unfold runes
 rw[h2,runesF_bad s f i hi h1 ho];rfl
theorem At.done {s:ByteArray}{i n:Nat}(h:At s i n) (hi:¬i<s.size):runes s=n:=by
 obtain⟨f,h1,h2⟩:=h
 unfold runes
 rw[h2,runesF_end s f i hi];simp
theorem decode_fffd (s:ByteArray) (i:Nat) (h:i<s.size) :
  (okAt s i=true→rn s i=65533→bt s i=239∧3≤s.size - i∧bt s (i+1)=191∧bt s (i+2)=189) ∧
  (okAt s i=false→rn s i=65533∧¬(bt s i=239∧3≤s.size - i∧bt s (i+1)=191∧bt s (i+2)=189)):=by
 have h0:=bt_lt s i;have h1:=bt_lt s (i+1);have h2:=bt_lt s (i+2);have h3:=bt_lt s (i+3)
 simp only[okAt,rn,decode_bt]
 simp only[Bool.not_eq_true',Bool.not_eq_false',Bool.and_eq_true,Bool.and_eq_false_iff,beq_iff_eq,beq_eq_false_iff_ne]
 generalize bt s i=a at *
 generalize bt s (i+1)=b at *
 generalize bt s (i+2)=c at *
 generalize bt s (i+3)=d at *
 unfold dec
 simp only[Bool.and_eq_true,beq_iff_eq,decide_eq_true_eq,ge_iff_le,valid_iff]
 repeat' split
 all_goals simp
 all_goals (try omega)
theorem rn_bytes (s:ByteArray) (i:Nat) (h:i<s.size) (ho:okAt s i=true) :
  i+wd s i≤s.size∧(33≤rn s i↔∀t,i≤t→t<i+wd s i→33≤bt s t):=by
 have h0:=bt_lt s i;have h1:=bt_lt s (i+1);have h2:=bt_lt s (i+2);have h3:=bt_lt s (i+3)
 have hq:i+wd s i≤s.size∧wd s i≤4∧(wd s i≤1→rn s i=bt s i∧wd s i=1)∧(2≤wd s i→33≤rn s i∧33≤bt s i∧33≤bt s (i+1))∧(3≤wd s i→33≤bt s (i+2))∧(4≤wd s i→33≤bt s (i+3)):=by
  simp only[okAt,rn,wd,decode_bt]at *
  simp only[Bool.not_eq_true',Bool.and_eq_false_iff,beq_eq_false_iff_ne]at ho
  generalize bt s i=a at *
  generalize bt s (i+1)=b at *
  generalize bt s (i+2)=c at *
  generalize bt s (i+3)=d at *
  generalize hq:dec a b c d _ _ _=q at *
  obtain⟨r,k⟩:=q
  unfold dec at hq
  simp only[Bool.and_eq_true,beq_iff_eq,decide_eq_true_eq,ge_iff_le,valid_iff]at hq
  simp only at ho ⊢
  repeat' split at hq
  all_goals
   simp only[Prod.mk.injEq]at hq
   obtain⟨rfl,rfl⟩:=hq
   omega
 obtain⟨q1,q2,q3,q4,q5,q6⟩:=hq
 refine⟨q1,λhr t t1 t2=>?_,λhall=>?_⟩
 ·rcases Nat.lt_or_ge 1 (wd s i)with hw|hw
  ·have:=q4 hw
   have e:t=i∨t=i+1∨t=i+2∨t=i+3:=by omega
   rcases e with rfl|rfl|rfl|rfl
   ·exact this.2.1
   ·exact this.2.2
   ·exact q5 (by omega)
   ·exact q6 (by omega)
  ·have:=q3 hw
   obtain rfl:t=i:=by omega
   omega
 ·rcases Nat.lt_or_ge 1 (wd s i)with hw|hw
  ·exact(q4 hw).1
  ·have:=q3 hw
   have:=hall i (Nat.le_refl _) (by omega)
   omega
end Go.Proofs.YtdnijgdmohinlaaGreat.K
namespace Go.Proofs.YtdnijgdmohinlaaGreat.K
open Go
theorem get_list (s:ByteArray) (i:Nat) (h:i<s.size):s.get! i=s.data.toList[i]'(by simpa using h):=by
 have:=get_at s i h
 rw[Nat.add_zero]at this
 rw[this];rfl
theorem ext3 (s:ByteArray) (i:Nat) (h:i+3≤s.size):(s.extract i (i+3)).toList=[s.get! i,s.get! (i+1),s.get! (i+2)]:=by
 rw[ByteArray.toList_eq,ByteArray.data_extract,Array.toList_extract,get_list s i (by omega),get_list s (i+1) (by omega),get_list s (i+2) (by omega)]
 simp only[List.extract_eq_take_drop]
 have hl:s.data.toList.length=s.size:=by simp
 apply List.ext_getElem
 ·simp only[List.length_take,List.length_drop,hl,List.length_cons,List.length_nil];omega
 ·intro k h1 h2
  have:k=0∨k=1∨k=2:=by simp at h2;omega
  rcases this with rfl|rfl|rfl<;>simp[List.getElem_drop]
theorem fffd_no (s:ByteArray) (i:Nat) (h:i<s.size) (ho:okAt s i=false) (h1:(((s[i]'h).toNat:Int) !=(((⟨#[239,191,189]⟩:ByteArray)[0]).toNat:Int))=false)
  (h2:(3:Int)≤(s.size:Int) - (i:Int)) (h3:(!(s.extract i (i+3)).toList==[239,191,189])=false):False:=by
 have:=(decode_fffd s i h).2 ho
 refine this.2 ⟨?_,by omega,?_⟩
 ·rw[←get_bt s i h]
  have e:(((⟨#[239,191,189]⟩:ByteArray)[0]).toNat:Int)=239:=rfl
  rw[e,bne_eq_false_iff_eq]at h1
  omega
 ·rw[ext3 s i (by omega)]at h3
  have e:s.get! i=239∧s.get! (i+1)=191∧s.get! (i+2)=189:=by simpa using h3
  unfold bt
  rw[e.2.1,e.2.2]
  exact⟨rfl,rfl⟩
theorem fffd_b (s:ByteArray) (i:Nat) (h:i<s.size) (ho:okAt s i=true) (hr:Hid' ((Utf8.decode s i).1:Int) 65533):(((s[i]'h).toNat:Int) !=(((⟨#[239,191,189]⟩:ByteArray)[0]).toNat:Int))=false∧(3:Int)≤(s.size:Int) - (i:Int)∧(!(s.extract i (i+3)).toList==[239,191,189])=false:=by
 have:=(decode_fffd s i h).1 ho (by have:=hr.out;unfold rn;omega)
 obtain⟨a,b,c,d⟩:=this
 refine⟨?_,by omega,?_⟩
 ·have e:(s[i]'h).toNat=239:=by rw[get_bt s i h,a]
  rw[bne_eq_false_iff_eq,e];rfl
 ·rw[ext3 s i (by omega)]
  have e0:s.get! i=239:=UInt8.toNat_inj.1 a
  have e1:s.get! (i+1)=191:=UInt8.toNat_inj.1 c
  have e2:s.get! (i+2)=189:=UInt8.toNat_inj.1 d
  rw[e0,e1,e2];rfl
def hasB (f t k:ByteArray):Bool:=!(Op.bytesLess k.toList f.toList)&&(t.toList.isEmpty||Op.bytesLess k.toList t.toList)
def allF (s:ByteArray):Nat→Nat→Bool
 | 0,_=>true
 | f+1,i=>if i<s.size then decide (33≤rn s i)&&allF s f (i+wd s i)else true
def lim (s:ByteArray):Bool:=decide (1≤runes s)&&decide (runes s≤8)
def checkB (s:ByteArray):Bool:=lim s&&allF s s.size 0
theorem allF_end (s:ByteArray) (f i:Nat) (h:¬i<s.size):allF s f i=true:=by cases f<;>simp[allF,h]
theorem allF_step (s:ByteArray) (f i:Nat) (h:i<s.size) (hf:s.size≤i+f):∃g,s.size≤i+wd s i+g∧allF s f i=(decide (33≤rn s i)&&allF s g (i+wd s i)):=by
 cases f with
 | zero=>omega
 | succ f=>exact⟨f,by have:=wd_pos s i h;omega,by simp[allF,h]⟩
def CAt (s:ByteArray) (i:Nat) (r:Bool):Prop:=∃f,s.size≤i+f∧checkB s=(r&&allF s f i)
theorem CAt.start (s:ByteArray):CAt s 0 (lim s):=⟨s.size,by omega,rfl⟩
theorem CAt.next {s:ByteArray}{i:Nat}(h:CAt s i true) (hi:i<s.size):CAt s (i+wd s i) (decide (33≤rn s i)):=by
 obtain⟨f,h1,h2⟩:=h
 obtain⟨g,h3,h4⟩:=allF_step s f i hi h1
 exact⟨g,h3,by rw[h2,h4];simp⟩
theorem CAt.no {s:ByteArray}{i:Nat}(h:CAt s i false):checkB s=false:=by
 obtain⟨f,h1,h2⟩:=h
 simpa using h2
theorem CAt.done {s:ByteArray}{i:Nat}{r:Bool}(h:CAt s i r) (hi:¬i<s.size):checkB s=r:=by
 obtain⟨f,h1,h2⟩:=h
 rw[h2,allF_end s f i hi];simp
def bytesOk (s:ByteArray):Bool:=s.data.toList.all (λc=>decide (33≤c.toNat))
def rcheckB (s:ByteArray):Bool:=bytesOk s&&lim s
def longI (n:Int):Int:=if n<128 then 1 else if 194≤n∧n≤223 then 2 else if 224≤n∧n≤239 then 3 else if 240≤n∧n≤244 then 4 else 0
theorem longI_eq (b:Nat):longI (b:Int)=(longN b:Int):=by
 unfold longI longN
 repeat' split
 all_goals first|rfl|omega
theorem longI_big {K n:Int}(h:Hid' K (longI n)) (h0:¬K=0) (h1:224≤n):3≤K:=by
 have:=h.out
 unfold longI at this
 (repeat' split at this)<;>omega
theorem longI_le {K n:Int}(h:Hid' K (longI n)):0≤K∧K≤4:=by
 have:=h.out
 unfold longI at this
 (repeat' split at this)<;>omega
theorem longN_le (b:Nat):longN b≤4:=by
 unfold longN
 repeat' split
 all_goals omega
def Conts (s:ByteArray) (i j:Nat):Prop:=∀t,1≤t→t<j→contN (bt s (i+t))=true
theorem Conts.start (s:ByteArray) (i:Nat):Conts s i 1:=λt h1 h2=>by omega
theorem Conts.next {s:ByteArray}{i j:Nat}(h:Conts s i j) (hj:contN (bt s (i+j))=true):Conts s i (j+1):=λt h1 h2=>by
 by_cases e:t=j
 ·rw[e];exact hj
 ·exact h t h1 (by omega)
theorem refOk_of {s:ByteArray}{i:Nat}(h0:longN (bt s i)≠0) (h1:longN (bt s i)≤s.size - i) (hc:Conts s i (longN (bt s i))) (he:exc (bt s i) (bt s (i+1))=false):refOk s i=true:=by
 unfold refOk
 simp only[Bool.and_eq_true,bne_iff_ne,ne_eq,decide_eq_true_eq,Bool.or_eq_true,he,Bool.not_false,and_true]
 refine⟨⟨⟨⟨h0,h1⟩,?_⟩,?_⟩,?_⟩
 all_goals first
  | (rcases Nat.lt_or_ge 1 (longN (bt s i))with h|h;exact .inr (hc 1 (by omega) h);exact .inl h)
  | (rcases Nat.lt_or_ge 2 (longN (bt s i))with h|h;exact .inr (hc 2 (by omega) h);exact .inl h)
  | (rcases Nat.lt_or_ge 3 (longN (bt s i))with h|h;exact .inr (hc 3 (by omega) h);exact .inl h)
theorem refOk_spec {s:ByteArray}{i:Nat}(h:refOk s i=true):longN (bt s i)≠0∧longN (bt s i)≤s.size - i∧Conts s i (longN (bt s i))∧exc (bt s i) (bt s (i+1))=false:=by
 unfold refOk at h
 simp only[Bool.and_eq_true,bne_iff_ne,ne_eq,decide_eq_true_eq,Bool.or_eq_true,Bool.not_eq_true']at h
 obtain⟨⟨⟨⟨⟨h0,h1⟩,h2⟩,h3⟩,h4⟩,h5⟩:=h
 refine⟨h0,h1,λt t1 t2=>?_,h5⟩
 have:=longN_le (bt s i)
 have:t=1∨t=2∨t=3:=by omega
 rcases this with rfl|rfl|rfl
 ·exact h2.resolve_left (by omega)
 ·exact h3.resolve_left (by omega)
 ·exact h4.resolve_left (by omega)
theorem At.rbad {s:ByteArray}{i n:Nat}(h:At s i n) (hi:i<s.size) (hn:refOk s i=false):runes s= -1:=h.bad hi (by rw[←(ref_ok s i hi).1];exact hn)
theorem At.rlong0 {s:ByteArray}{i n:Nat}(h:At s i n) (hi:i<s.size) {K:Int}(hK:Hid' K (longI (s[i]'hi).toNat)) (h0:K=0∨(s.size:Int) - i<K):runes s= -1:=h.rbad hi (by
 rw[hK.out]at h0
 rw[get_bt s i hi]at h0
 cases hr:refOk s i with
 | false=>rfl
 | true =>
  obtain⟨a,b,_⟩:=refOk_spec hr
  rw[longI_eq]at h0
  omega)
theorem At.rcont {s:ByteArray}{i n j:Nat}(h:At s i n) (hi:i<s.size) (h1:1≤j) {K:Int}(hK:Hid' K (longI (s[i]'hi).toNat)) (hj:(j:Int)<K) (h2:i+j<s.size) (hb:(((s[i+j]'h2).toNat:Nat):Int)<128∨(191:Int)<((s[i+j]'h2).toNat:Nat)):runes s= -1:=h.rbad hi (by
 rw[hK.out,get_bt s i hi]at hj
 rw[get_bt s (i+j) h2]at hb
 cases hr:refOk s i with
 | false=>rfl
 | true =>
  obtain⟨a,b,c,_⟩:=refOk_spec hr
  rw[longI_eq]at hj
  have:=c j h1 (by omega)
  unfold contN at this
  simp only[decide_eq_true_eq]at this
  omega)
theorem At.rexc {s:ByteArray}{i n:Nat}(h:At s i n) (hi:i<s.size) (he:exc (bt s i) (bt s (i+1))=true):runes s= -1:=h.rbad hi (by
 cases hr:refOk s i with
 | false=>rfl
 | true=>rw[(refOk_spec hr).2.2.2]at he;cases he)
theorem At.rnext {s:ByteArray}{i n:Nat}{K:Int}(h:At s i n) (hi:i<s.size) (hK':Hid' K (longI (s[i]'hi).toNat)) (h0:¬K=0) (h1:K≤(s.size:Int) - i) (hc:Conts s i K.toNat) (he:exc (bt s i) (bt s (i+1))=false):At s (i+K.toNat) (n+1):=by
 have hK:=hK'.out
 rw[get_bt s i hi,longI_eq]at hK
 obtain rfl:K=_:=hK
 rw[Int.toNat_natCast]at hc ⊢
 have hr:refOk s i=true:=refOk_of (by omega) (by omega) hc he
 have ho:=(ref_ok s i hi)
 rw[ho.1]at hr
 rw[ho.2 hr]
 exact h.next hi hr
def BOk (s:ByteArray) (i:Nat):Prop:=∀t,t<i→33≤bt s t
theorem BOk.start (s:ByteArray):BOk s 0:=λt h=>by omega
theorem BOk.next {s:ByteArray}{i:Nat}(h:BOk s i) (hi:33≤bt s i):BOk s (i+1):=λt ht=>by
 by_cases e:t=i
 ·rw[e];exact hi
 ·exact h t (by omega)
theorem bytesOk_iff (s:ByteArray):bytesOk s=true↔BOk s s.size:=by
 unfold bytesOk BOk
 rw[List.all_eq_true]
 constructor
 ·intro h t ht
  have:=h _ (List.getElem_mem (l:=s.data.toList) (n:=t) (by simpa using ht))
  rw[←get_list s t ht]at this
  simpa [bt]using this
 ·intro h x hx
  obtain⟨t,ht,rfl⟩:=List.getElem_of_mem hx
  have h':t<s.size:=by simpa using ht
  have:=h t h'
  rw[←get_list s t h']
  simpa [bt]using this
theorem BOk.yes {s:ByteArray}(h:BOk s s.size):rcheckB s=lim s:=by
 unfold rcheckB;rw[(bytesOk_iff s).2 h];simp
theorem rcheck_no {s:ByteArray}{i:Nat}(h:i<s.size) (hb:bt s i<33):rcheckB s=false:=by
 unfold rcheckB
 have:bytesOk s=false:=by
  cases hb':bytesOk s with
  | false=>rfl
  | true=>have:=(bytesOk_iff s).1 hb' i h;omega
 rw[this];rfl
theorem allF_iff (s:ByteArray):∀(f i:Nat),s.size≤i+f→runesF s f i≠none→(allF s f i=true↔∀t,i≤t→t<s.size→33≤bt s t)
 | 0,i,hf,_=>by simp only[allF,true_iff];intro t h1 h2;omega
 | f+1,i,hf,hn=>by
  by_cases hi:i<s.size
  ·cases ho:okAt s i with
   | false=>simp[runesF,hi,ho]at hn
   | true =>
    have hr:=rn_bytes s i hi ho
    have hw:=wd_pos s i hi
    have ih:=allF_iff s f (i+wd s i) (by omega) (by simp[runesF,hi,ho]at hn;exact hn)
    simp only[allF,hi,if_true,Bool.and_eq_true,decide_eq_true_eq,ih,hr.2]
    constructor
    ·rintro⟨a,b⟩ t t1 t2
     rcases Nat.lt_or_ge t (i+wd s i)with h|h
     ·exact a t t1 h
     ·exact b t h t2
    ·intro h
     exact⟨λt t1 t2=>h t t1 (by omega),λt t1 t2=>h t (by omega) t2⟩
  ·simp only[allF,hi,if_false,true_iff];intro t h1 h2;omega
theorem check_eq (s:ByteArray):checkB s=rcheckB s:=by
 unfold checkB rcheckB
 cases hl:lim s with
 | false=>simp
 | true =>
  have hn:runesF s s.size 0≠none:=by
   intro h
   unfold lim runes at hl
   rw[h]at hl
   simp at hl
  have:=allF_iff s s.size 0 (by omega) hn
  rw[Bool.true_and,Bool.and_true,Bool.eq_iff_iff,this,bytesOk_iff]
  exact⟨λh t ht=>h t (Nat.zero_le _) ht,λh t _ ht=>h t ht⟩
def mayB (s:ByteArray):Bool:=s.toList.isEmpty||checkB s
def goodB (f t:ByteArray):Bool:=mayB f&&mayB t&&(t.toList.isEmpty||Op.bytesLess f.toList t.toList)
theorem bl_irrefl:∀a:List UInt8,Op.bytesLess a a=false
 | []=>rfl
 | x::r=>by simp[Op.bytesLess,bl_irrefl r]
theorem bl_trans:∀a b c:List UInt8,Op.bytesLess a b=true→Op.bytesLess b c=true→Op.bytesLess a c=true
 | [],[],_,h,_=>by simp[Op.bytesLess]at h
 | [],_::_,[],_,h=>by simp[Op.bytesLess]at h
 | [],_::_,_::_,_,_=>by simp[Op.bytesLess]
 | _::_,[],_,h,_=>by simp[Op.bytesLess]at h
 | _::_,_::_,[],_,h=>by simp[Op.bytesLess]at h
 | x::a,y::b,z::c,h1,h2=>by
  have ih:=bl_trans a b c
  simp only[Op.bytesLess,Bool.or_eq_true,Bool.and_eq_true,decide_eq_true_eq,beq_iff_eq]at *
  rcases h1 with h1|⟨rfl,h1⟩<;>rcases h2 with h2|⟨rfl,h2⟩
  ·exact .inl (UInt8.lt_trans h1 h2)
  ·exact .inl h1
  ·exact .inl h2
  ·exact .inr ⟨rfl,ih h1 h2⟩
theorem bl_tri:∀a b:List UInt8,Op.bytesLess a b=false→Op.bytesLess b a=false→a=b
 | [],[],_,_=>rfl
 | [],_::_,h,_=>by simp[Op.bytesLess]at h
 | _::_,[],_,h=>by simp[Op.bytesLess]at h
 | x::a,y::b,h1,h2=>by
  have ih:=bl_tri a b
  simp only[Op.bytesLess,Bool.or_eq_false_iff,Bool.and_eq_false_iff,decide_eq_false_iff_not,beq_eq_false_iff_ne]at h1 h2
  have e:x=y:=UInt8.le_antisymm (UInt8.not_lt.1 h2.1) (UInt8.not_lt.1 h1.1)
  subst e
  rw[ih (h1.2.resolve_left (λh=>h rfl)) (h2.2.resolve_left (λh=>h rfl))]
end Go.Proofs.YtdnijgdmohinlaaGreat.K
namespace Go.Proofs.YtdnijgdmohinlaaGreat.K
open Go
theorem less_nil (a:List UInt8):Op.bytesLess a []=false:=by cases a<;>rfl
theorem empty_list:(⟨#[]⟩:ByteArray).toList=[]:=by decide +kernel
end Go.Proofs.YtdnijgdmohinlaaGreat.K
end
section
namespace Go.Proofs.YtdnijgdmohinlaaGreat
open Go.RowKit
theorem ret_bool {a b:Bool}(h:a=b):Ending.returned (.bool a)=.returned (.bool b):=by rw[h]
set_option maxHeartbeats 400000 in
theorem runes_any (s:ByteArray) (hs:s.size≤9223372036854775807) (w:World) :
  Calls Tryz.prog 311 #[.string s] w λe w'=>e=.returned (.int .i64 (K.runes s))∧Below w.heap.size w w':=by
 go_enter Tryz.func311,Tryz.ntmps311
 go_wp2
 go_loopw [2,3] (λr n wr=>∃(pos k:Nat),wr.heap[w.heap.size]?=some (.stringIter s pos)∧Below w.heap.size w wr∧r=.int .i64 0∧n=.int .i64 k∧k≤pos∧K.At s pos k) (λ_ _ wr=>s.size - wr.iterPos w.heap.size)
 case atStart=>exact⟨0,0,World.iter_heap w s 0,(Below.refl _ _).alloc (Nat.le_refl _) _,rfl,rfl,Nat.le_refl _,K.At.start s⟩
 case round =>
  obtain⟨pos,k,hit,hb,rfl,rfl,hk,hat⟩:=hrel
  by_cases hp:pos<s.size
  ·have hnx:∀ty,(Instr.next (.pointer (some ⟨w.heap.size,0,none⟩)) true ty).run Tryz.prog wr=_:=λty=>Lib.run_next_any_at wr w.heap.size s pos ty hit hp
   have hw0:=K.wd_pos s pos hp
   have hit2:=Lib.iterAt_heap wr w.heap.size s pos (pos+(Utf8.decode s pos).2) hit
   have hb2:=Lib.below_iterAt hb (k:=w.heap.size) (Nat.le_refl _) s (pos+(Utf8.decode s pos).2)
   unfold K.wd at hw0
   have hm:∀nq,s.size - ((wr.iterAt w.heap.size s (pos+(Utf8.decode s pos).2)).drewN nq).iterPos w.heap.size<s.size - wr.iterPos w.heap.size:=λnq=>by
    have e1:wr.iterPos w.heap.size=pos:=by simp[World.iterPos,hit]
    have e2:((wr.iterAt w.heap.size s (pos+(Utf8.decode s pos).2)).drewN nq).iterPos w.heap.size=pos+(Utf8.decode s pos).2:=by simp[World.iterPos,hit2]
    rw[e1,e2];omega
   have HM:=Lib.hid hm
   clear hm
   go_wp2
   by_cases hr:(((Utf8.decode s pos).1:Nat):Int)=65533
   ·have hr1:((((Utf8.decode s pos).1:Nat):Int)==65533)=true:=by rw[hr];rfl
    have HR:K.Hid' _ _:=⟨hr⟩
    clear hr
    cases hok:K.okAt s pos
    ·go_quiet (fail)
     go_wp2
     ·go_ret
      rw[hat.bad hp hok];exact⟨rfl,below_drewN hb2 _⟩
     ·go_ret
      rw[hat.bad hp hok];exact⟨rfl,below_drewN hb2 _⟩
     ·exact(K.fffd_no s pos hp hok (by assumption) (by assumption) (by rename_i h;exact h.2)).elim
     ·go_ret
      rw[hat.bad hp hok];exact⟨rfl,below_drewN hb2 _⟩
    ·have⟨f1,f2,f3⟩:=K.fffd_b s pos hp hok HR
     have f4:¬(s.size:Int) - (pos:Int)<3:=by omega
     go_quiet (fail)
     go_wp2
     exact⟨⟨pos+(Utf8.decode s pos).2,k+1,hit2,below_drewN hb2 _,rfl,by go_num,by omega,hat.next hp hok⟩,HM.out _⟩
   ·have hr1:((((Utf8.decode s pos).1:Nat):Int)==65533)=false:=by simpa using hr
    have hok:K.okAt s pos=true:=by
     cases ho:K.okAt s pos with
     | true=>rfl
     | false=>exact absurd (by have:=((K.decode_fffd s pos hp).2 ho).1;unfold K.rn at this;omega) hr
    clear hr
    go_quiet (fail)
    go_wp2
    exact⟨⟨pos+(Utf8.decode s pos).2,k+1,hit2,below_drewN hb2 _,rfl,by go_num,by omega,hat.next hp hok⟩,HM.out _⟩
  ·have hnx:∀ty,(Instr.next (.pointer (some ⟨w.heap.size,0,none⟩)) true ty).run Tryz.prog wr=_:=λty=>Lib.run_next_end_at wr w.heap.size s pos ty hit hp
   go_wp2
   go_ret
   rw[hat.done hp];exact⟨rfl,hb⟩
set_option maxHeartbeats 400000 in
theorem has_any (f t k:ByteArray) (w:World) :
  Calls Tryz.prog 181 #[.agg #[.string f,.string t],.string k] w λe w'=>e=.returned (.bool (K.hasB f t k))∧Below w.heap.size w w':=by
 go_enter Tryz.func181,Tryz.ntmps181
 go_wp2
 all_goals (go_ret;exact⟨by simp_all [K.hasB],(Below.refl _ _).alloc (Nat.le_refl _) _⟩)
set_option maxHeartbeats 400000 in
theorem rhas_any (f t k:ByteArray) (w:World) :
  Calls Tryz.prog 137 #[.agg #[.string f,.string t],.string k] w λe w'=>e=.returned (.bool (K.hasB f t k))∧Below w.heap.size w w':=by
 go_enter Tryz.func137,Tryz.ntmps137
 go_wp2
 all_goals (go_ret;exact⟨by simp_all [K.hasB],(Below.refl _ _).alloc (Nat.le_refl _) _⟩)
set_option maxHeartbeats 400000 in
theorem check_any (s:ByteArray) (hs:s.size≤9223372036854775807) (w:World) :
  Calls Tryz.prog 238 #[.string s] w λe w'=>e=.returned (.bool (K.checkB s))∧Below w.heap.size w w':=by
 by_cases h1:1≤K.runes s
 all_goals
  have hl0:K.lim s=decide (K.runes s≤8)∨¬1≤K.runes s:=by simp[K.lim,h1]
  have hl1:K.lim s=false∨1≤K.runes s:=by simp[K.lim,h1]
  have HL0:=Lib.hid hl0
  have HL1:=Lib.hid hl1
  clear hl0 hl1
  go_enter Tryz.func238,Tryz.ntmps238
  go_wp2
  go_step3
  go_wp2_with (go_at_call 311;refine(runes_any _ hs _).mono ?_;rintro e w1 ⟨rfl,hb1⟩)
  go_step3
  go_wp2
  go_loopw [4] (λr wr=>∃(pos:Nat) (b:Bool),wr.heap[w1.heap.size]?=some (.stringIter s pos)∧Below w.heap.size w wr∧r=.bool b∧K.CAt s pos b) (λ_ wr=>s.size - wr.iterPos w1.heap.size)
  case atStart =>
   refine⟨0,_,World.iter_heap w1 s 0,hb1.trans ((Below.refl _ _).alloc hb1.size _),rfl,?_⟩
   have:=K.CAt.start s
   first
    | (rw[(HL0.out).resolve_right (by simpa using h1)]at this;exact this)
    | (rw[(HL1.out).resolve_right (by omega)]at this;exact this)
  case round =>
   obtain⟨pos,b,hit,hb,rfl,hat⟩:=hrel
   by_cases hp:pos<s.size
   ·have hnx:∀ty,(Instr.next (.pointer (some ⟨w1.heap.size,0,none⟩)) true ty).run Tryz.prog wr=_:=λty=>Lib.run_next_any_at wr w1.heap.size s pos ty hit hp
    have hw0:=K.wd_pos s pos hp
    have hit2:=Lib.iterAt_heap wr w1.heap.size s pos (pos+(Utf8.decode s pos).2) hit
    have hb2:=Lib.below_iterAt hb (k:=w1.heap.size) hb1.size s (pos+(Utf8.decode s pos).2)
    have hm:s.size - (wr.iterAt w1.heap.size s (pos+(Utf8.decode s pos).2)).iterPos w1.heap.size<s.size - wr.iterPos w1.heap.size:=by
     unfold K.wd at hw0
     have e1:wr.iterPos w1.heap.size=pos:=by simp[World.iterPos,hit]
     have e2:(wr.iterAt w1.heap.size s (pos+(Utf8.decode s pos).2)).iterPos w1.heap.size=pos+(Utf8.decode s pos).2:=by simp[World.iterPos,hit2]
     rw[e1,e2];omega
    have HM:=Lib.hid hm
    clear hm hw0
    cases b
    ·go_wp2
     rw[Exit.noGoto_ret]
     go_ret
     rw[hat.no]
     exact⟨rfl,hb2⟩
    ·go_wp2
     have hn:=hat.next hp
     have e:decide ((33:Int)≤((Utf8.decode s pos).1:Int))=decide (33≤K.rn s pos):=by
      unfold K.rn;rw[decide_eq_decide];omega
     exact⟨⟨pos+(Utf8.decode s pos).2,_,hit2,hb2,rfl,by rw[e];exact hn⟩,HM.out⟩
   ·have hnx:∀ty,(Instr.next (.pointer (some ⟨w1.heap.size,0,none⟩)) true ty).run Tryz.prog wr=_:=λty=>Lib.run_next_end_at wr w1.heap.size s pos ty hit hp
    go_wp2
    rw[Exit.noGoto_ret]
    go_ret
    rw[hat.done hp]
    exact⟨rfl,hb⟩
end Go.Proofs.YtdnijgdmohinlaaGreat
namespace Go.Proofs.YtdnijgdmohinlaaGreat
open Go.RowKit
set_option maxHeartbeats 400000 in
theorem long_any (n:Int) (h0:0≤n) (h1:n<256) (w:World) :
  Calls Tryz.prog 286 #[.int .u8 n] w λe w'=>∃k,e=.returned (.int .i64 k)∧K.Hid' k (K.longI n)∧w=w':=by
 go_enter Tryz.func286,Tryz.ntmps286
 go_wp2
 all_goals (go_ret;refine⟨_,rfl,⟨?_⟩,rfl⟩;unfold K.longI;(repeat' split)<;>first|rfl|omega)
set_option maxHeartbeats 1000000 in
set_option maxRecDepth 100000 in
theorem rruns_any (s:ByteArray) (hs:s.size≤9223372036854775807) (w:World) :
  Calls Tryz.prog 197 #[.string s] w λe w'=>e=.returned (.int .i64 (K.runes s))∧w=w':=by
 go_enter Tryz.func197,Tryz.ntmps197
 go_wp2
 go_loop [2,3,4] (λr n p=>∃(pos k:Nat),r=.int .i64 0∧n=.int .i64 k∧p=.int .i64 pos∧k≤pos∧pos≤s.size∧K.At s pos k) (λ_ _ p=>s.size - (intOf p).toNat)
 case atStart=>exact⟨0,0,rfl,rfl,rfl,Nat.le_refl _,Nat.zero_le _,K.At.start s⟩
 case round =>
  obtain⟨pos,k,rfl,rfl,rfl,hk,hps,hat⟩:=hrel
  by_cases hp:pos<s.size
  ·have hb:=(s[pos]'hp).toNat_lt
   go_wp2_with fail
   refine(long_any _ (by omega) (by omega) _).mono ?_
   rintro e w' ⟨kk,rfl,HK,rfl⟩
   obtain⟨hk0,hk4⟩:=K.longI_le HK
   by_cases hz:kk=0
   ·have hz1:(kk==0)=true:=by rw[hz];rfl
    have HZ:=Lib.hid hz
    clear hz
    go_wp2
    go_ret
    rw[hat.rlong0 hp HK (.inl HZ.out)]
    exact⟨rfl,rfl⟩
   have hz1:(kk==0)=false:=by simpa using hz
   by_cases hgt:(s.size:Int) - pos<kk
   ·go_wp2
    go_ret
    rw[hat.rlong0 hp HK (.inr (by assumption))]
    exact⟨rfl,rfl⟩
   have hgt1:decide ((s.size:Int) - pos<kk)=false:=by simpa using hgt
   have hne:1≤kk:=by omega
   have hle:kk≤(s.size:Int) - pos:=by omega
   clear hz
   go_wp2
   go_loop [2,6] (λr i=>r=.int .i64 0∧∃j:Nat,i=.int .i64 j∧1≤j∧(j:Int)≤kk∧K.Conts s pos j) (λ_ i=>5 - (intOf i).toNat)
   case atStart=>exact⟨rfl,1,rfl,by omega,by omega,K.Conts.start s pos⟩
   case round =>
    obtain⟨rfl,j,rfl,hj1,hj2,hc⟩:=hrel
    by_cases hjl:(j:Int)<kk
    ·have hjp:pos+j<s.size:=by omega
     go_wp2
     ·go_ret
      rw[hat.rcont hp hj1 HK hjl hjp (by assumption)]
      exact⟨rfl,rfl⟩
     ·go_round
      case rel=>exact⟨rfl,j+1,by go_num,by omega,by omega,hc.next (by rw[←K.get_bt s _ hjp];unfold K.contN;simp;omega)⟩
      case measure=>simp[intOf];omega
     ·go_ret
      rw[hat.rcont hp hj1 HK hjl hjp (.inl (by assumption))]
      exact⟨rfl,rfl⟩
    ·obtain rfl:kk=j:=by omega
     by_cases h224:224≤((s[pos]'hp).toNat:Int)
     ·have hp1:pos+1<s.size:=by have:=K.longI_big HK (by omega) h224;omega
      have hb1:=(s[pos+1]'hp1).toNat_lt
      go_wp2
      all_goals first
       | (go_ret;rw[hat.rexc hp (by rw[←K.get_bt s _ hp,←K.get_bt s _ hp1];unfold K.exc;simp;omega)];exact⟨rfl,rfl⟩)
       | (
        go_round
        case rel=>exact⟨pos+j,k+1,rfl,by go_num,by go_num,by omega,by omega,hat.rnext hp HK (by omega) hle hc (by rw[←K.get_bt s _ hp,←K.get_bt s _ hp1];unfold K.exc;simp;omega)⟩
        case measure=>simp[intOf];omega)
     ·go_wp2
      go_round
      case rel=>exact⟨pos+j,k+1,rfl,by go_num,by go_num,by omega,by omega,hat.rnext hp HK (by omega) hle hc (by rw[←K.get_bt s _ hp];unfold K.exc;simp;omega)⟩
      case measure=>simp[intOf];omega
  ·have:¬(pos:Int)<s.size:=by omega
   go_wp2
   go_ret
   rw[hat.done hp]
   exact⟨rfl,rfl⟩
end Go.Proofs.YtdnijgdmohinlaaGreat
namespace Go.Proofs.YtdnijgdmohinlaaGreat
open Go.RowKit
set_option maxHeartbeats 400000 in
theorem rcheck_any (s:ByteArray) (hs:s.size≤9223372036854775807) (w:World) :
  Calls Tryz.prog 118 #[.string s] w λe w'=>e=.returned (.bool (K.checkB s))∧w=w':=by
 rw[K.check_eq]
 by_cases h1:1≤K.runes s
 all_goals
  have hl0:K.lim s=decide (K.runes s≤8)∨¬1≤K.runes s:=by simp[K.lim,h1]
  have hl1:K.lim s=false∨1≤K.runes s:=by simp[K.lim,h1]
  have HL0:=Lib.hid hl0
  have HL1:=Lib.hid hl1
  clear hl0 hl1
  go_enter Tryz.func118,Tryz.ntmps118
  go_wp2_with (go_at_call 197;refine(rruns_any _ hs _).mono ?_;rintro e w' ⟨rfl,rfl⟩)
  go_loop [4] (λi=>∃j:Nat,i=.int .i64 j∧j≤s.size∧K.BOk s j) (λi=>s.size - (intOf i).toNat)
  case atStart=>exact⟨0,rfl,Nat.zero_le _,K.BOk.start s⟩
  case round =>
   obtain⟨j,rfl,hj,hok⟩:=hrel
   by_cases hjs:j<s.size
   ·by_cases hc:((s[j]'hjs).toNat:Int)<33
    ·go_wp2
     go_ret
     rw[K.rcheck_no hjs (by rw[←K.get_bt s j hjs];omega)]
     exact⟨rfl,rfl⟩
    ·go_wp2
     go_round
     case rel=>exact⟨j+1,by go_num,by omega,hok.next (by rw[←K.get_bt s j hjs];omega)⟩
     case measure=>simp[intOf];omega
   ·obtain rfl:j=s.size:=by omega
    go_wp2
    go_ret
    rw[hok.yes]
    first
     | (rw[(HL0.out).resolve_right (by omega)];exact⟨rfl,rfl⟩)
     | (rw[(HL1.out).resolve_right (by omega)];exact⟨rfl,rfl⟩)
theorem two_cells {w w1:World}{x y:Value}{T:TypeId}(hb:Below (w.alloc (.cells #[x,y] T)).heap.size (w.alloc (.cells #[x,y] T)) w1) :
  w1.cell? ⟨w.heap.size,0,none⟩=some x∧w1.cell? ⟨w.heap.size,1,none⟩=some y :=
 ⟨cell_later hb (by simp),cell_later hb (by simp)⟩
theorem two_later {w w1:World}{x y:Value}{b:Nat}(hb:Below w.heap.size w w1) (h:w.cell? ⟨b,0,none⟩=some x∧w.cell? ⟨b,1,none⟩=some y) :
  w1.cell? ⟨b,0,none⟩=some x∧w1.cell? ⟨b,1,none⟩=some y :=
 ⟨cell_later hb h.1,cell_later hb h.2⟩
theorem below_box {w w1:World}{o:Obj}(hb:Below (w.alloc o).heap.size (w.alloc o) w1):Below w.heap.size w w1 :=
 ((Below.refl _ _).alloc (Nat.le_refl _) _).trans (hb.mono (by simp))
theorem below_two {w w1 w2:World}(hb:Below w.heap.size w w1) (hb2:Below w1.heap.size w1 w2):Below w.heap.size w w2:=hb.trans (hb2.mono hb.size)
set_option maxHeartbeats 400000 in
theorem may_any (s:ByteArray) (hs:s.size≤9223372036854775807) (w:World) :
  Calls Tryz.prog 293 #[.string s] w λe w'=>e=.returned (.bool (K.mayB s))∧Below w.heap.size w w':=by
 go_enter Tryz.func293,Tryz.ntmps293
 go_wp2_with (go_at_call 238;refine(check_any _ hs _).mono ?_;rintro e w1 ⟨rfl,hb1⟩)
 ·go_ret
  exact⟨ret_bool (by simp_all [K.mayB]),Below.refl _ _⟩
 ·go_ret
  exact⟨ret_bool (by simp_all [K.mayB]),by assumption⟩
set_option maxHeartbeats 400000 in
theorem good_any (f t:ByteArray) (hf:f.size≤9223372036854775807) (ht:t.size≤9223372036854775807) (w:World) :
  Calls Tryz.prog 214 #[.agg #[.string f,.string t]] w λe w'=>e=.returned (.bool (K.goodB f t))∧Below w.heap.size w w':=by
 go_enter Tryz.func214,Tryz.ntmps214
 go_wp2_with fail
 refine(may_any _ hf _).mono ?_;rintro e w1 ⟨rfl,hb1⟩
 have hc1:=two_cells hb1
 obtain⟨c0,c1⟩:=hc1
 go_wp2_with (go_at_call 293;refine(may_any _ ht _).mono ?_;rintro e w2 ⟨rfl,hb2⟩;obtain⟨d0,d1⟩:=two_later hb2 ⟨c0,c1⟩)
 all_goals (go_ret;first|exact⟨ret_bool (by simp_all [K.goodB]),below_box hb1⟩|exact⟨ret_bool (by simp_all [K.goodB]),below_two (below_box hb1) (by assumption)⟩)
set_option maxHeartbeats 400000 in
theorem rgood_any (f t:ByteArray) (hf:f.size≤9223372036854775807) (ht:t.size≤9223372036854775807) (w:World) :
  Calls Tryz.prog 273 #[.agg #[.string f,.string t]] w λe w'=>e=.returned (.bool (K.goodB f t))∧Below w.heap.size w w':=by
 go_enter Tryz.func273,Tryz.ntmps273
 go_wp2_with fail
 refine(rcheck_any _ hf _).mono ?_;rintro e w1 ⟨rfl,rfl⟩
 go_wp2_with fail
 refine(rcheck_any _ ht _).mono ?_;rintro e w1 ⟨rfl,rfl⟩
 go_wp2
 all_goals (go_ret;exact⟨ret_bool (by simp_all [K.goodB,K.mayB]),(Below.refl _ _).alloc (Nat.le_refl _) _⟩)
end Go.Proofs.YtdnijgdmohinlaaGreat
end
section
namespace Go.Proofs.YtdnijgdmohinlaaGreat
open Go.RowKit R
structure Rng where
 f:ByteArray
 t:ByteArray
instance:GoT Rng where
 n:=2
 pos:=by decide
 rep _ _ cs r:=cs=[.string r.f,.string r.t]∧r.f.size≤9223372036854775807∧r.t.size≤9223372036854775807
 len h:=by rw[h.1];rfl
 one h c hc:=by rw[h.1]at hc;simp at hc;rcases hc with rfl|rfl<;>rfl
 mono _ h:=h
theorem rng_cells {K:Blocks}{w:World}{a:Option Addr}{len cap:Nat}{l:List Rng}(h:Sl K w (.slice a len cap) l) :
  len=l.length∧∀(i:Nat) (x:Rng),l[i]?=some x→∃b o,a=some ⟨b,o,none⟩∧K b∧x.f.size≤9223372036854775807∧x.t.size≤9223372036854775807∧w.cell? ⟨b,o+i*2,none⟩=some (.string x.f)∧w.cell? ⟨b,o+i*2+1,none⟩=some (.string x.t):=by
 obtain⟨hl,h⟩:=h.get
 refine⟨hl,λi x hx=>?_⟩
 obtain⟨b,o,cs,ha,hb,⟨rfl,h1,h2⟩,hat⟩:=h i x hx
 exact⟨b,o,ha,hb,h1,h2,hat 0 _ rfl,hat 1 _ rfl⟩
end Go.Proofs.YtdnijgdmohinlaaGreat
namespace Go.Proofs.YtdnijgdmohinlaaGreat
open Go.RowKit R
def idxF {α:Type}(p:α→Bool) (l:List α):Int:=match l.findIdx? p with|some i=>i|none=> -1
def NoneTo {α:Type}(p:α→Bool) (l:List α) (k:Nat):Prop:=∀(i:Nat) (x:α),i<k→l[i]?=some x→p x=false
theorem NoneTo.zero {α:Type}(p:α→Bool) (l:List α):NoneTo p l 0:=λi x h=>by omega
theorem NoneTo.next {α:Type}{p:α→Bool}{l:List α}{k:Nat}(h:NoneTo p l k) {x:α}(hx:l[k]?=some x) (hp:p x=false):NoneTo p l (k+1):=λi y hi hy=>by
 by_cases e:i=k
 ·subst e;rw[hx]at hy;cases hy;exact hp
 ·exact h i y (by omega) hy
theorem NoneTo.found {α:Type}{p:α→Bool}{l:List α}{k:Nat}(h:NoneTo p l k) {x:α}(hx:l[k]?=some x) (hp:p x=true):idxF p l=k:=by
 have hlt:k<l.length:=(List.getElem?_eq_some_iff.1 hx).1
 have:l.findIdx? p=some k:=by
  rw[List.findIdx?_eq_some_iff_getElem]
  refine⟨hlt,?_,λj hj=>?_⟩
  ·have:=(List.getElem?_eq_some_iff.1 hx).2;rw[this];exact hp
  ·rw[h j _ hj (List.getElem?_eq_getElem (by omega))];simp
 unfold idxF;rw[this]
theorem NoneTo.all {α:Type}{p:α→Bool}{l:List α}(h:NoneTo p l l.length):idxF p l= -1:=by
 have:l.findIdx? p=none:=by
  rw[List.findIdx?_eq_none_iff]
  intro x hx
  obtain⟨i,hi,rfl⟩:=List.getElem_of_mem hx
  exact h i _ hi (List.getElem?_eq_getElem hi)
 unfold idxF;rw[this]
set_option maxHeartbeats 1000000 in
theorem indexR_any (v:Value) (l:List Rng) (K:Blocks) (w:World) (h:Sl K w v l) (F:Nat) (caps:Array Value) (hF:∀(args:Array Value) (wy:World),(callFunc F args).run Tryz.prog wy=.ok (.enter F args) wy) (p:Rng→Bool)
  (hp:∀(x:Rng) (wy:World),x∈l→Ev.Ext w wy→Calls Tryz.prog F (#[.agg #[.string x.f,.string x.t]]++caps) wy λe w'=>e=.returned (.bool (p x))∧Ev.Ext wy w') :
  Calls Tryz.prog 221 #[v,.func (.func F) #[] caps] w λe w'=>e=.returned (.int .i64 (idxF p l))∧Ev.Ext w w':=by
 obtain⟨a,cap,rfl⟩:=h.form
 have hlen:=h.len_le
 have HP:=Lib.hid hp
 clear hp
 go_enter Tryz.func221,Tryz.ntmps221
 go_wp2_with fail
 go_loopw [4,8] (λr i wr=>∃(k:Nat),r=.int .i64 0∧i=.int .i64 k∧k≤l.length∧Ev.Ext w wr∧NoneTo p l k) (λ_ i _=>l.length - (intOf i).toNat)
 case atStart=>exact⟨0,rfl,rfl,by omega,Ev.Ext.refl _,NoneTo.zero p l⟩
 case round =>
  obtain⟨k,rfl,rfl,hk,hext,hno⟩:=hrel
  by_cases h1:k<l.length
  ·have hx:l[k]?=some l[k]:=by simp[h1]
   obtain⟨b,o,rfl,hKb,hs0,hs1,c0,c1⟩:=(rng_cells h).2 k l[k] hx
   have c0:=cell_later hext c0
   have c1:=cell_later hext c1
   have hc:=HP.out l[k] wr (List.getElem_mem h1) hext
   cases hpx:p l[k]
   ·rw[hpx]at hc
    have HX:=Lib.hid hx
    have HX2:=Lib.hid hpx
    clear hx hpx
    go_wp2_with fail
    refine hc.mono ?_;rintro e w3 ⟨rfl,hb3⟩
    clear hc
    go_wp2
    go_roundw
    case rel=>exact⟨k+1,rfl,by go_num,by omega,hext.trans hb3,hno.next HX.out HX2.out⟩
    case measure=>simp[intOf];omega
   ·rw[hpx]at hc
    have HX:=Lib.hid hx
    have HX2:=Lib.hid hpx
    clear hx hpx
    go_wp2_with fail
    refine hc.mono ?_;rintro e w3 ⟨rfl,hb3⟩
    clear hc
    go_wp2
    go_ret
    rw[hno.found HX.out HX2.out]
    exact⟨rfl,hext.trans hb3⟩
  ·obtain rfl:k=l.length:=by omega
   go_wp2
   go_ret
   rw[hno.all]
   exact⟨rfl,hext⟩
def findR (l:List Rng) (key:ByteArray):Int:=idxF (λr=>K.hasB r.f r.t key) l
set_option maxHeartbeats 1000000 in
theorem find1_any (x:Rng) (key:ByteArray) (b:Nat) (w:World) (hk:w.cell? ⟨b,0,none⟩=some (.string key)) :
  Calls Tryz.prog 222 #[.agg #[.string x.f,.string x.t],.pointer (some ⟨b,0,none⟩)] w λe w'=>e=.returned (.bool (K.hasB x.f x.t key))∧Ev.Ext w w':=by
 go_enter Tryz.func222,Tryz.ntmps222
 have hb:=World.block_lt_of_cell? w _ hk
 have hk2:(w.alloc (.cells #[.string x.f,.string x.t] 56)).cell? ⟨b,0,none⟩=some (.string key):=cell_later ((Below.refl _ _).alloc (Nat.le_refl _) _) hk
 go_wp2_with (go_at_call 181;refine(has_any _ _ _ _).mono ?_;rintro e w3 ⟨rfl,hb3⟩)
 go_ret
 exact⟨rfl,below_box hb3⟩
set_option maxHeartbeats 1000000 in
theorem find_any (v:Value) (l:List Rng) (key:ByteArray) (Kb:Blocks) (w:World) (h:Sl Kb w v l) :
  Calls Tryz.prog 146 #[v,.string key] w λe w'=>e=.returned (.int .i64 (findR l key))∧Ev.Ext w w':=by
 have he:Ev.Ext w (w.alloc (.cells #[.string key] 9)):=(Below.refl _ _).alloc (Nat.le_refl _) _
 go_enter Tryz.func146,Tryz.ntmps146
 go_wp2_with fail
 refine(indexR_any v l Kb _ (h.ext he) 222 #[.pointer (some ⟨w.heap.size,0,none⟩)] (λ_ _=>by kernel_rfl) (λr=>K.hasB r.f r.t key) (λx wy _ hy=>find1_any x key _ wy (cell_later (v:=.string key) hy (by simp)))).mono ?_
 rintro e w3 ⟨rfl,hb3⟩
 go_wp2
 go_ret
 exact⟨rfl,he.trans hb3⟩
end Go.Proofs.YtdnijgdmohinlaaGreat
namespace Go.Proofs.YtdnijgdmohinlaaGreat
open Go.RowKit R
def wholeF:ByteArray→Bool→List Rng→Bool
 | at',_,[]=>at'.toList.isEmpty
 | at',fst,r::l=>K.goodB r.f r.t&&(r.f.toList==at'.toList&&((fst||!at'.toList.isEmpty)&&wholeF r.t false l))
def whole (l:List Rng):Bool:=!l.isEmpty&&wholeF ⟨#[]⟩ true l
def WhAt (l:List Rng) (k:Nat) (at':ByteArray):Prop:=whole l=(!l.isEmpty&&wholeF at' (k==0) (l.drop k))
theorem WhAt.start (l:List Rng):WhAt l 0 ⟨#[]⟩:=rfl
theorem WhAt.step {l:List Rng}{k:Nat}{at':ByteArray}(h:WhAt l k at') (hk:k<l.length) :
  whole l=(K.goodB l[k].f l[k].t&&(l[k].f.toList==at'.toList&&(((k==0)||!at'.toList.isEmpty)&&(!l.isEmpty&&wholeF l[k].t false (l.drop (k+1)))))):=by
 unfold WhAt at h
 rw[h,List.drop_eq_getElem_cons hk,wholeF]
 cases l.isEmpty<;>cases K.goodB l[k].f l[k].t<;>cases(l[k].f.toList==at'.toList)<;>simp
theorem WhAt.next {l:List Rng}{k:Nat}{at':ByteArray}(h:WhAt l k at') (hk:k<l.length) (hg:K.goodB l[k].f l[k].t=true) (he:(l[k].f.toList==at'.toList)=true) (hf:((k==0)||!at'.toList.isEmpty)=true):WhAt l (k+1) l[k].t:=by
 have:=h.step hk
 rw[hg,he,hf]at this
 simpa [WhAt]using this
theorem WhAt.no {l:List Rng}{k:Nat}{at':ByteArray}(h:WhAt l k at') (hk:k<l.length) (hg:K.goodB l[k].f l[k].t=false∨(l[k].f.toList==at'.toList)=false∨((k==0)||!at'.toList.isEmpty)=false):whole l=false:=by
 have:=h.step hk
 rcases hg with hg|hg|hg<;>rw[hg]at this<;>simpa using this
theorem WhAt.done {l:List Rng}{at':ByteArray}(h:WhAt l l.length at'):whole l=(!l.isEmpty&&at'.toList.isEmpty):=by
 unfold WhAt at h
 rw[h,List.drop_length,wholeF]
set_option maxHeartbeats 1000000 in
theorem whole_any (v:Value) (l:List Rng) (Kb:Blocks) (w:World) (h:Sl Kb w v l) :
  Calls Tryz.prog 142 #[v] w λe w'=>e=.returned (.bool (whole l))∧Ev.Ext w w':=by
 obtain⟨a,cap,rfl⟩:=h.form
 have hlen:=h.len_le
 go_enter Tryz.func142,Tryz.ntmps142
 go_wp2_with fail
 go_loopw [2,3,8] (λr s i wr=>∃(k:Nat) (at':ByteArray),r=.bool false∧s=.string at'∧i=.int .i64 k∧k≤l.length∧Ev.Ext w wr∧WhAt l k at') (λ_ _ i _=>l.length - (intOf i).toNat)
 case atStart=>exact⟨0,⟨#[]⟩,rfl,rfl,rfl,by omega,Ev.Ext.refl _,WhAt.start l⟩
 case round =>
  obtain⟨k,at',rfl,rfl,rfl,hk,hext,hat⟩:=hrel
  by_cases h1:k<l.length
  ·obtain⟨b,o,rfl,hKb,hs0,hs1,c0,c1⟩:=(rng_cells h).2 k l[k] (by simp[h1])
   have c0:=cell_later hext c0
   have c1:=cell_later hext c1
   go_wp2_with fail
   refine(good_any _ _ hs0 hs1 _).mono ?_;rintro e w3 ⟨rfl,hb3⟩
   obtain⟨d0,d1⟩:=two_cells hb3
   have hext3:=hext.trans (below_box hb3)
   clear hb3
   cases hg:K.goodB l[k].f l[k].t
   ·go_wp2
    go_ret
    rw[hat.no h1 (.inl hg)]
    exact⟨rfl,hext3⟩
   cases he:(l[k].f.toList==at'.toList)
   ·go_wp2
    go_ret
    rw[hat.no h1 (.inr (.inl he))]
    exact⟨rfl,hext3⟩
   cases hf:((k==0)||!at'.toList.isEmpty)
   ·have h0:0<k∧at'.toList.isEmpty=true:=by simp at hf;exact⟨by omega,by simpa using hf.2⟩
    obtain⟨h0,h0'⟩:=h0
    have HF:=Lib.hid hf
    clear hf
    go_wp2
    go_ret
    rw[hat.no h1 (.inr (.inr HF.out))]
    exact⟨rfl,hext3⟩
   ·have hn:=hat.next h1 hg he hf
    have HN:=Lib.hid hn
    clear hn
    by_cases h0:k=0
    ·subst h0
     clear hf
     go_wp2
     go_roundw
     case rel=>exact⟨0+1,_,rfl,rfl,by go_num,by omega,hext3,HN.out⟩
     case measure=>simp[intOf];omega
    ·have hp:0<k:=by omega
     have h0':at'.toList.isEmpty=false:=by simpa [h0]using hf
     clear hf h0
     go_wp2
     go_roundw
     case rel=>exact⟨k+1,_,rfl,rfl,by go_num,by omega,hext3,HN.out⟩
     case measure=>simp[intOf];omega
  ·obtain rfl:k=l.length:=by omega
   have hd:=hat.done
   by_cases h0:l.length=0
   ·have he:l.isEmpty=true:=by simpa using h0
    rw[he]at hd
    have HD:=Lib.hid hd
    have h00:¬(0:Int)<l.length:=by omega
    clear hd he h0
    go_wp2
    go_ret
    rw[HD.out]
    exact⟨by simp,hext⟩
   ·have he:l.isEmpty=false:=by simpa using h0
    rw[he]at hd
    have HD:=Lib.hid hd
    have h00:(0:Int)<l.length:=by omega
    clear hd he h0
    go_wp2
    all_goals (go_ret;rw[HD.out];exact⟨by simp_all,hext⟩)
end Go.Proofs.YtdnijgdmohinlaaGreat
end
section
namespace Go.Proofs.YtdnijgdmohinlaaGreat
open Go.RowKit A
def Rng.row (r:Rng):List AV:=[tv r.f,tv r.t]
structure SRow where
 ranges:List Rng
 owners:List Int
 parents:List Int
def SRow.row (c:SRow):List AV:=[.sl 2 (c.ranges.map Rng.row),.sl 1 (c.owners.map λx=>[iv x]),.sl 1 (c.parents.map λx=>[iv x])]
structure SOp where
 kind:Int
 client:Int
 site:Int
 to':Int
 at':Int
 how:Int
 key:ByteArray
 value:ByteArray
 keys:List ByteArray
 c:SRow
def SOp.row (o:SOp):List AV:=[iv o.kind,iv o.client,iv o.site,iv o.to',iv o.at',iv o.how,tv o.key,tv o.value,.sl 1 (o.keys.map λs=>[tv s]),.sl 2 (o.c.ranges.map Rng.row),.sl 1 (o.c.owners.map λx=>[iv x]),.sl 1 (o.c.parents.map λx=>[iv x])]
namespace S
end S
def S.find {α:Type}(p:α→Bool) (l:List α):Int:=if l.any p then(l.findIdx p:Int)else -1
theorem S.find_at {α:Type}{p:α→Bool}{l:List α}{k:Nat}(hk:k<l.length) (h:p l[k]=true) (hb:∀j (h:j<l.length),j<k→p l[j]=false):(k:Int)=S.find p l:=by
 unfold S.find
 rw[if_pos (List.any_eq_true.2 ⟨_,List.getElem_mem hk,h⟩)]
 have e:l.findIdx p=k:=by
  rw[List.findIdx_eq hk]
  exact⟨h,λj hj=>hb j (by omega) hj⟩
 rw[e]
theorem S.find_no {α:Type}{p:α→Bool}{l:List α}(hb:∀j (h:j<l.length),j<l.length→p l[j]=false):(-1:Int)=S.find p l:=by
 unfold S.find
 rw[if_neg]
 intro h
 obtain⟨x,hx,hp⟩:=List.any_eq_true.1 h
 obtain⟨i,hi,rfl⟩:=List.getElem_of_mem hx
 rw[hb i hi hi]at hp;cases hp
theorem S.find_any {α:Type}{p:α→Bool}{l:List α}:decide (0≤S.find p l)=l.any p:=by
 unfold S.find
 cases h:l.any p
 ·simp
 ·simp
set_option maxRecDepth 100000 in
theorem indexI_a (l:List Int) (f:FuncId) (caps:List AV) (p:Int→Bool) (hf:∀x,ACall Tryz.prog f ([iv x]++caps) (bv (p x))):ACall Tryz.prog 295 [.sl 1 (l.map λx=>[iv x]),.fn f caps] (iv (S.find p l)):=by
 refine AC_1 Tryz.func295 Tryz.ntmps295 Tryz.results295 λhok M0 w0 hnl=>?_
 have hlen:=(hok _ (List.mem_cons_self ..)).len
 rw[List.length_map]at hlen
 refine Aw_sr ?_
 refine Al_mr ?_
 refine Al_nil (Aw_seq (Aw_sr ?_))
 refine Al_ml ?_
 refine Al_p (Pu_ln Tryz.underlying22) ?_
 refine Al_ml ?_
 refine Al_nil (Aw_block ?_)
 refine Aw_loopk (ι:=Nat) [0,1,7] [] (λk=>[(8,.d (iv k))]) (λk=>[]) (λk=>k≤l.length∧∀j (h:j<l.length),j<k→p l[j]=false) (λk=>l.length - k) (0) (⟨Nat.zero_le _,by intros;omega⟩) ⟨Sub.rfl,trivial⟩ trivial ?_
 rintro k ⟨hk0,hk2⟩
 refine Aw_sr ?_
 refine Al_p Pu_cp ?_
 refine Al_nil (Aw_seq ?_)
 refine Aw_cond rfl (λh9=>?_) (λh9=>?_)
 ·(try simp only[A.cd_]at h9)
  have hk:k<l.length:=by omega
  refine Aw_skip (Aw_seq (Aw_block (Aw_sr ?_)))
  refine Al_ml ?_
  refine Al_mr ?_
  refine Al_ns ?_
  refine Al_ml ?_
  refine Al_ml ?_
  refine Al_ml ?_
  refine Al_p (Pu_index rfl Tryz.underlying22 Tryz.sizeOf3 rfl rfl (rfl) (mapget hk)) ?_
  refine Al_p (Pu_l1 Tryz.isAgg3) ?_
  refine Al_p (Pu_callv (aa:=[iv l[k]]) (caps:=caps) (hf l[k]) rfl rfl ⟨Sub.rfl,trivial⟩) ?_
  refine Al_nil ?_
  refine Aw_cond rfl (λh16=>?_) (λh16=>?_)
  ·skip
   refine Aw_sr ?_
   refine Al_ml ?_
   refine Al_mr ?_
   refine Al_nil ?_
   exact Aw_ret (Sub.num (S.find_at hk h16 hk2))
  ·skip
   have h16':p l[k]=false:=h16
   refine Aw_skip (Aw_region ?_)
   refine Al_p Pu_ad ?_
   refine Al_ml ?_
   refine Al_nil ?_
   exact⟨k+1,⟨by omega,λj hj hjk=>by
    by_cases e:j=k
    ·subst e;exact h16'
    ·exact hk2 j hj (by omega)⟩,by omega,Le.ov ⟨Sub.num (by omega),trivial⟩ ⟨Sub.rfl,Sub.rfl,Sub.rfl,trivial⟩ trivial trivial⟩
 ·(try simp only[A.cd_]at h9)
  obtain rfl:k=l.length:=by omega
  refine Aw_exit (Aw_sr ?_)
  refine Al_mr ?_
  refine Al_nil ?_
  exact Aw_ret (Sub.num (S.find_no hk2))
set_option maxRecDepth 100000 in
theorem containsI_a (l:List Int) (f:FuncId) (caps:List AV) (p:Int→Bool) (hf:∀x,ACall Tryz.prog f ([iv x]++caps) (bv (p x))):ACall Tryz.prog 224 [.sl 1 (l.map λx=>[iv x]),.fn f caps] (bv (l.any p)):=by
 refine AC_1 Tryz.func224 Tryz.ntmps224 Tryz.results224 λhok M0 w0 hnl=>?_
 refine Aw_sr ?_
 refine Al_mr ?_
 refine Al_ns ?_
 refine Al_ml ?_
 refine Al_ml ?_
 refine Al_p (Pu_call (indexI_a l f caps p hf) rfl ⟨Sub.rfl,Sub.rfl,trivial⟩) ?_
 refine Al_p Pu_cp ?_
 refine Al_mr ?_
 refine Al_nil ?_
 exact Aw_ret (Sub.bool S.find_any)
end Go.Proofs.YtdnijgdmohinlaaGreat
end
section
namespace Go.Proofs.YtdnijgdmohinlaaGreat
open Go.RowKit R
set_option maxHeartbeats 1000000 in
theorem rfind_any (v:Value) (l:List Rng) (key:ByteArray) (Kb:Blocks) (w:World) (h:Sl Kb w v l) :
  Calls Tryz.prog 102 #[v,.string key] w λe w'=>e=.returned (.int .i64 (findR l key))∧Ev.Ext w w':=by
 obtain⟨a,cap,rfl⟩:=h.form
 have hlen:=h.len_le
 go_enter Tryz.func102,Tryz.ntmps102
 go_wp2_with fail
 go_loopw [4,5] (λr i wr=>∃(k:Nat),r=.int .i64 0∧i=.int .i64 k∧k≤l.length∧Ev.Ext w wr∧NoneTo (λr=>K.hasB r.f r.t key) l k) (λ_ i _=>l.length - (intOf i).toNat)
 case atStart=>exact⟨0,rfl,rfl,by omega,Ev.Ext.refl _,NoneTo.zero _ l⟩
 case round =>
  obtain⟨k,rfl,rfl,hk,hext,hno⟩:=hrel
  by_cases h1:k<l.length
  ·have hx:l[k]?=some l[k]:=by simp[h1]
   obtain⟨b,o,rfl,hKb,hs0,hs1,c0,c1⟩:=(rng_cells h).2 k l[k] hx
   have c0:=cell_later hext c0
   have c1:=cell_later hext c1
   have HX:=Lib.hid hx
   clear hx
   cases hpx:K.hasB l[k].f l[k].t key
   all_goals
    have HP:=Lib.hid hpx
    go_wp2_with (go_at_call 137;refine(rhas_any _ _ _ _).mono ?_;rintro e w3 ⟨rfl,hb3⟩)
   ·go_roundw
    case rel=>exact⟨k+1,rfl,by go_num,by omega,hext.trans (by assumption),hno.next HX.out HP.out⟩
    case measure=>simp[intOf];omega
   ·go_ret
    have:=hno.found HX.out HP.out
    unfold findR
    rw[this]
    exact⟨rfl,hext.trans (by assumption)⟩
  ·obtain rfl:k=l.length:=by omega
   go_wp2
   go_ret
   have:=hno.all
   unfold findR
   rw[this]
   exact⟨rfl,hext⟩
def pv (l:List Rng) (k:Nat):ByteArray:=if k=0 then⟨#[]⟩else(l.getD (k - 1) ⟨⟨#[]⟩,⟨#[]⟩⟩).t
theorem pv_next {l:List Rng}{k:Nat}(h:k<l.length):pv l (k+1)=l[k].t:=by simp[pv,h,List.getD]
set_option maxHeartbeats 2000000 in
set_option maxRecDepth 100000 in
theorem rwhole_any (v:Value) (l:List Rng) (Kb:Blocks) (w:World) (h:Sl Kb w v l) :
  Calls Tryz.prog 184 #[v] w λe w'=>e=.returned (.bool (whole l))∧Ev.Ext w w':=by
 obtain⟨a,cap,rfl⟩:=h.form
 have hlen:=h.len_le
 go_enter Tryz.func184,Tryz.ntmps184
 go_wp2_with fail
 go_loopw [2,3] (λr i wr=>∃(k:Nat),r=.bool false∧i=.int .i64 k∧k≤l.length∧Ev.Ext w wr∧WhAt l k (pv l k)) (λ_ i _=>l.length - (intOf i).toNat)
 case atStart=>exact⟨0,rfl,rfl,by omega,Ev.Ext.refl _,WhAt.start l⟩
 case round =>
  obtain⟨k,rfl,rfl,hk,hext,hat⟩:=hrel
  by_cases h1:k<l.length
  ·obtain⟨b,o,rfl,hKb,hs0,hs1,c0,c1⟩:=(rng_cells h).2 k l[k] (by simp[h1])
   have c0:=cell_later hext c0
   have c1:=cell_later hext c1
   go_wp2_with fail
   refine(rgood_any _ _ hs0 hs1 _).mono ?_;rintro e w3 ⟨rfl,hb3⟩
   have c0:=cell_later hb3 c0
   have c1:=cell_later hb3 c1
   have hext3:=hext.trans hb3
   clear hb3 hext
   cases hg:K.goodB l[k].f l[k].t
   ·go_wp2
    go_quiet (fail)
    go_wp2
    go_ret
    rw[hat.no h1 (.inl hg)]
    exact⟨rfl,below_drewN hext3 _⟩
   by_cases h0:k=0
   ·have hkz:((k:Int)==0)=true:=by simp[h0]
    have hkp:¬(0:Int)<k:=by omega
    have hkd:decide (0<k)=false:=by simp;omega
    have epv:pv l k=⟨#[]⟩:=by simp[pv,h0]
    have hk0:(k==0)=true:=by simp[h0]
    have H0:=Lib.hid h0
    have HP:=Lib.hid epv
    have HK:=Lib.hid hk0
    clear h0 epv hk0
    cases he:l[k].f.toList.isEmpty
    ·have hn:=hat.no h1 (.inr (.inl (by rw[HP.out,K.empty_list];cases hl:l[k].f.toList with|nil=>rw[hl]at he;cases he|cons=>rfl)))
     have HN:=Lib.hid hn
     clear hn
     go_wp2
     go_quiet (fail)
     go_wp2
     go_ret
     rw[HN.out]
     exact⟨rfl,below_drewN hext3 _⟩
    ·have hn:=hat.next h1 hg (by rw[HP.out,K.empty_list];cases hl:l[k].f.toList with|nil=>rfl|cons=>rw[hl]at he;cases he) (by rw[HK.out];rfl)
     rw[←pv_next h1]at hn
     have HN:=Lib.hid hn
     clear hn
     go_wp2
     go_quiet (fail)
     go_wp2
     exact⟨⟨k+1,rfl,by go_num,by omega,below_drewN hext3 _,HN.out⟩,by simp[intOf];omega⟩
   ·have hp:0<k:=by omega
    have hpi:(0:Int)<k:=by omega
    have hkz:((k:Int)==0)=false:=by simp;omega
    have hk0:(k==0)=false:=by simp[h0]
    have HK:=Lib.hid hk0
    have hk1:k - 1<l.length:=by omega
    obtain⟨b',o',hb',_,_,_,g0,g1⟩:=(rng_cells h).2 (k - 1) l[k - 1] (by simp[hk1])
    simp only[Option.some.injEq,Addr.mk.injEq,and_true]at hb'
    obtain⟨rfl,rfl⟩:=hb'
    have g1:=cell_later hext3 g1
    have epv:pv l k=l[k - 1].t:=by have:=pv_next (l:=l) (k:=k - 1) hk1;rwa [show k - 1+1=k from by omega]at this
    have HP:=Lib.hid epv
    clear epv hk0 h0 g0
    cases he:(l[k].f.toList==l[k - 1].t.toList)
    ·have hn:=hat.no h1 (.inr (.inl (by rw[HP.out];exact he)))
     have HN:=Lib.hid hn
     clear hn
     go_wp2
     go_quiet (fail)
     go_wp2
     go_ret
     rw[HN.out]
     exact⟨rfl,below_drewN hext3 _⟩
    ·cases hz:l[k].f.toList.isEmpty
     ·have hn:=hat.next h1 hg (by rw[HP.out];exact he) (by rw[HP.out,HK.out,←(beq_iff_eq.1 he),hz];rfl)
      rw[←pv_next h1]at hn
      have HN:=Lib.hid hn
      clear hn
      go_wp2
      go_quiet (fail)
      go_wp2
      exact⟨⟨k+1,rfl,by go_num,by omega,below_drewN hext3 _,HN.out⟩,by simp[intOf];omega⟩
     ·have hn:=hat.no h1 (.inr (.inr (by rw[HP.out,HK.out,←(beq_iff_eq.1 he),hz];rfl)))
      have HN:=Lib.hid hn
      clear hn
      go_wp2
      go_quiet (fail)
      go_wp2
      go_ret
      rw[HN.out]
      exact⟨rfl,below_drewN hext3 _⟩
  ·obtain rfl:k=l.length:=by omega
   have hd:=hat.done
   by_cases h0:l.length=0
   ·have he:l.isEmpty=true:=by simpa using h0
    rw[he]at hd
    have HD:=Lib.hid hd
    have h00:¬(0:Int)<l.length:=by omega
    clear hd he h0
    go_wp2
    go_ret
    rw[HD.out]
    exact⟨by simp,hext⟩
   ·have hk1:l.length - 1<l.length:=by omega
    obtain⟨b,o,rfl,_,_,_,g0,g1⟩:=(rng_cells h).2 (l.length - 1) l[l.length - 1] (by simp[hk1])
    have g1:=cell_later hext g1
    have epv:pv l l.length=l[l.length - 1].t:=by have:=pv_next (l:=l) (k:=l.length - 1) hk1;rwa [show l.length - 1+1=l.length from by omega]at this
    have he:l.isEmpty=false:=by simpa using h0
    rw[he,epv]at hd
    have HD:=Lib.hid hd
    have h00:(0:Int)<l.length:=by omega
    clear hd he h0 epv g0
    go_wp2
    all_goals (go_ret;rw[HD.out];exact⟨by simp_all,hext⟩)
end Go.Proofs.YtdnijgdmohinlaaGreat
end
section
namespace Go.Proofs.YtdnijgdmohinlaaGreat
open Go.RowKit A R
open A.RowT
instance:RowI Rng where
 row:=Rng.row
 into h _:=by
  obtain⟨rfl,h2,h3⟩:=h
  exact cellsc (.v _ h2) rfl (cells1 (.v _ h3) rfl)
 back h:=by
  obtain⟨x1,xs1,rfl,h1_1,h2_1,g1⟩:=uncons h
  obtain⟨rfl,k1⟩:=repv h1_1
  obtain⟨x2,xs2,rfl,h1_2,h2_2,g2⟩:=uncons g1
  obtain⟨rfl,k2⟩:=repv h1_2
  obtain rfl:=uncons0 g2
  exact⟨rfl,k1,k2⟩
theorem whole_a (l:List Rng):ACall Tryz.prog 142 [.sl 2 (l.map Rng.row)] (bv (whole l)):=A.ofv (λ_ _=>by kernel_rfl) trivial λM w vs ha=>by
 obtain⟨x,xs,rfl,h1,h2⟩:=allc ha
 obtain rfl:=all0 h2
 exact whole_any x l _ w (sl_of (α:=Rng) h1)
theorem rwhole_a (l:List Rng):ACall Tryz.prog 184 [.sl 2 (l.map Rng.row)] (bv (whole l)):=A.ofv (λ_ _=>by kernel_rfl) trivial λM w vs ha=>by
 obtain⟨x,xs,rfl,h1,h2⟩:=allc ha
 obtain rfl:=all0 h2
 exact rwhole_any x l _ w (sl_of (α:=Rng) h1)
namespace S
def shape (c:SRow):Bool:=!(decide (c.parents.length<1)||decide (6<c.parents.length)||decide (8<c.ranges.length)||!decide (c.owners.length=c.ranges.length)||!whole c.ranges)
def badO (n:Nat) (x:Int):Bool:=decide (x<1)||decide (2^n≤x)
end S
theorem shr_pos (x:Int) (n:Nat) (h:¬x<1):(!decide (x / 2^n=0))=decide ((2:Int)^n≤x):=by
 have hp:(0:Int)<2^n:=Int.pow_pos (by omega)
 by_cases h2:(2:Int)^n≤x
 ·have:1≤x / 2^n:=(Int.le_ediv_iff_mul_le hp).2 (by omega)
  have h3:¬x / 2^n=0:=by omega
  simp[h2,h3]
 ·have:x / 2^n=0:=Int.ediv_eq_zero_of_lt (by omega) (by omega)
  simp[h2,this]
theorem div_in {x:Int}(n:Nat) (h:A.inI x):A.inI (x / 2^(n:Int).toNat):=by
 rw[Int.toNat_natCast]
 have hp:(0:Int)<2^n:=Int.pow_pos (by omega)
 simp only[A.inI]at *
 have h1: -9223372036854775808≤x / 2^n:=by
  rw[Int.le_ediv_iff_mul_le hp]
  have:(-9223372036854775808:Int)*2^n≤ -9223372036854775808*1:=Int.mul_le_mul_of_nonpos_left (by omega) (by omega)
  omega
 have h2:x / 2^n≤9223372036854775807:=by
  by_cases h0:0≤x
  ·have:=Int.ediv_le_self (2^n) h0
   omega
  ·have:x / 2^n<0:=Int.ediv_neg_of_neg_of_pos (by omega) hp
   omega
 omega
theorem S.shape_z (c:SRow):(decide ((c.parents.length:Int)<1)||decide (6<(c.parents.length:Int))||decide (8<(c.ranges.length:Int))||!decide ((c.owners.length:Int)=c.ranges.length)||!whole c.ranges)=!S.shape c:=by
 have d1:decide ((c.parents.length:Int)<1)=decide (c.parents.length<1):=decide_eq_decide.2 (by omega)
 have d2:decide (6<(c.parents.length:Int))=decide (6<c.parents.length):=decide_eq_decide.2 (by omega)
 have d3:decide (8<(c.ranges.length:Int))=decide (8<c.ranges.length):=decide_eq_decide.2 (by omega)
 have d4:decide ((c.owners.length:Int)=c.ranges.length)=decide (c.owners.length=c.ranges.length):=decide_eq_decide.2 (by omega)
 rw[d1,d2,d3,d4,S.shape,Bool.not_not]
theorem S.shape_facts {c:SRow}(h:S.shape c=true):1≤c.parents.length∧c.parents.length≤6∧c.ranges.length≤8∧c.owners.length=c.ranges.length∧whole c.ranges=true:=by
 simp only[S.shape,Bool.not_eq_true',Bool.or_eq_false_iff,decide_eq_false_iff_not,Bool.not_eq_false',decide_eq_true_eq]at h
 obtain⟨⟨⟨⟨h1,h2⟩,h3⟩,h4⟩,h5⟩:=h
 exact⟨by omega,by omega,by omega,h4,h5⟩
namespace S
theorem shape_z2 (c:SRow):(!whole c.ranges||decide (8<(c.ranges.length:Int))||!decide ((c.owners.length:Int)=c.ranges.length)||decide ((c.parents.length:Int)<1)||decide (6<(c.parents.length:Int)))=!S.shape c:=by
 rw[←S.shape_z]
 cases whole c.ranges<;>cases decide (8<(c.ranges.length:Int))<;>cases decide ((c.owners.length:Int)=c.ranges.length)<;>cases decide ((c.parents.length:Int)<1)<;>cases decide (6<(c.parents.length:Int))<;>rfl
theorem any_at {α:Type}{p:α→Bool}{l:List α}{k:Nat}(hk:k<l.length) (h:p l[k]=true):l.any p=true:=List.any_eq_true.2 ⟨_,List.getElem_mem hk,h⟩
theorem any_snoc {α:Type}{p:α→Bool}{l:List α}{k:Nat}(hk:k<l.length) (h:(l.take k).any p=false) (h2:p l[k]=false):(l.take (k+1)).any p=false:=by
 rw[List.take_succ_eq_append_getElem hk,List.any_append,h];simp[h2]
end S
end Go.Proofs.YtdnijgdmohinlaaGreat
end
section
namespace Go.Proofs.YtdnijgdmohinlaaGreat.A
open Go Go.RowKit
abbrev Nm:=Nat→Nat→Nat×Nat
abbrev pull (r:Nm) (ρ:Rho):Rho:=λk g=>ρ (r k g).1 (r k g).2
def CV.ren (r:Nm):CV→CV
 | .d a=>.d a
 | .bx k g off=>.bx (r k g).1 (r k g).2 off
 | .ow k g=>.ow (r k g).1 (r k g).2
 | .eq v=>.eq v
def SV.ren (r:Nm):SV→SV
 | .any=>.any
 | .d a=>.d a
 | .bx k g off=>.bx (r k g).1 (r k g).2 off
 | .ow k g=>.ow (r k g).1 (r k g).2
 | .ifb p s=>.ifb p (s.ren r)
 | .fnb f a b=>.fnb f (a.map (CV.ren r)) (b.map (CV.ren r))
 | .tp l=>.tp (l.map (CV.ren r))
 | .ag l=>.ag (l.map (CV.ren r))
 | .psl l=>.psl (l.map (CV.ren r))
 | .pc c=>.pc (c.ren r)
 | .ows k g n lo hi=>.ows (r k g).1 (r k g).2 n lo hi
 | .slc n rows=>.slc n rows
 | .eq v=>.eq v
def OP.ren (r:Nm) (I:OP):OP:=⟨I.F,λM w ρ h=>I.I M w (pull r ρ) h,λk hk h=>I.mono k hk h,λhr h=>I.rho (λk g x hx=>hr _ _ _ hx) h,λh=>I.lt h⟩
def AO.ren (r:Nm):AO→AO
 | .box T cs=>.box T (cs.map (SV.ren r))
 | .arr T n rows=>.arr T n rows
 | .op I=>.op (I.ren r)
section
variable {M:Nat→Prop}{w:World}{ρ:Rho}{r:Nm}
theorem CRep.ren {c:CV}{x:Value}:CRep M w ρ (c.ren r) x↔CRep M w (pull r ρ) c x:=by cases c<;>rfl
theorem CReps.ren {l:List CV}{vs:List Value}:CReps M w ρ (l.map (CV.ren r)) vs↔CReps M w (pull r ρ) l vs:=by
 unfold CReps
 rw[List.length_map]
 refine and_congr_right λ_=>⟨λh j c x h1 h2=>CRep.ren.1 (h j _ x (by rw[List.getElem?_map,h1];rfl) h2),λh j c x h1 h2=>?_⟩
 rw[List.getElem?_map]at h1
 obtain⟨c',h3,rfl⟩:=Option.map_eq_some_iff.1 h1
 exact CRep.ren.2 (h j c' x h3 h2)
theorem SRep.ren {s:SV}{x:Value}:SRep M w ρ (s.ren r) x↔SRep M w (pull r ρ) s x:=by
 induction s with
 | any=>rfl
 | d a=>rfl
 | bx k g off=>rfl
 | ow k g=>rfl
 | ifb p s ih=>exact and_congr (imp_congr_right λ_=>ih) Iff.rfl
 | fnb f a b=>exact exists_congr λus=>exists_congr λvs=>and_congr_right λ_=>and_congr CReps.ren CReps.ren
 | tp l=>exact exists_congr λvs=>and_congr_right λ_=>CReps.ren
 | ag l=>exact exists_congr λvs=>and_congr_right λ_=>and_congr_right λ_=>CReps.ren
 | psl l =>
  unfold SV.ren SRep
  rw[List.length_map]
  refine exists_congr λb=>exists_congr λo=>exists_congr λcap=>and_congr_right λ_=>and_congr_right λ_=>and_congr_right λ_=>⟨λh j c h1=>?_,λh j c h1=>?_⟩
  ·obtain⟨h2,v,h3,h4,h5⟩:=h j (c.ren r) (by rw[List.getElem?_map,h1];rfl)
   exact⟨h2,v,h3,h4,CRep.ren.1 h5⟩
  ·rw[List.getElem?_map]at h1
   obtain⟨c',h6,rfl⟩:=Option.map_eq_some_iff.1 h1
   obtain⟨h2,v,h3,h4,h5⟩:=h j c' h6
   exact⟨h2,v,h3,h4,CRep.ren.2 h5⟩
 | pc c=>exact exists_congr λb=>exists_congr λo=>exists_congr λv=>and_congr_right λ_=>and_congr_right λ_=>and_congr_right λ_=>and_congr_right λ_=>CRep.ren
 | ows k g n lo hi=>rfl
 | slc n rows=>rfl
 | eq v=>rfl
theorem ORep.ren {B:Base}{h:Value}{o:AO}:ORep B M w ρ h (o.ren r)↔ORep B M w (pull r ρ) h o:=by
 cases o with
 | box T cs =>
  unfold AO.ren ORep
  refine exists_congr λb=>exists_congr λvs=>and_congr_right λ_=>and_congr_right λ_=>and_congr_right λ_=>?_
  rw[List.length_map]
  refine and_congr_right λ_=>⟨λh j s x h1 h2=>?_,λh j s x h1 h2=>?_⟩
  ·obtain⟨h3,h4⟩:=h j (s.ren r) x (by rw[List.getElem?_map,h1];rfl) h2
   exact⟨SRep.ren.1 h3,h4⟩
  ·rw[List.getElem?_map]at h1
   obtain⟨s',h6,rfl⟩:=Option.map_eq_some_iff.1 h1
   obtain⟨h3,h4⟩:=h j s' x h6 h2
   exact⟨SRep.ren.2 h3,h4⟩
 | arr T n rows=>rfl
 | op I=>rfl
theorem fpO.ren {o:AO}{h:Value}{b:Nat}:fpO (o.ren r) h b↔fpO o h b:=by cases o<;>rfl
theorem ORep.base {B B':Base}{h:Value}{o:AO}(ho:ORep B M w ρ h o) (hb:∀b,fpO o h b→B'.w.heap.size≤b∨B'.l b):ORep B' M w ρ h o:=by
 cases o with
 | box T cs =>
  obtain⟨b,vs,rfl,h1,h2⟩:=ho
  exact⟨b,vs,rfl,hb b rfl,h2⟩
 | arr T n rows =>
  obtain⟨vals,h1,h2,h3,h4,_⟩:=ho
  exact⟨vals,h1,h2,h3,h4,hb⟩
 | op I=>exact⟨hb,ho.2⟩
end
abbrev Obs:=List (Nat×AO)
def Objs (B:Base) (M:Nat→Prop) (w:World) (ρ:Rho) (obs:Obs):Prop:=∀p∈obs,∃h,ρ p.1 0=some h∧ORep B M w ρ h p.2
def fps (ρ:Rho) (obs:Obs) (b:Nat):Prop:=∃p∈obs,∃h,ρ p.1 0=some h∧fpO p.2 h b
def Apart (ρ:Rho) (obs:Obs):Prop:=∀p∈obs,∀q∈obs,∀h h' b,ρ p.1 0=some h→ρ q.1 0=some h'→fpO p.2 h b→fpO q.2 h' b→p.1=q.1
def ARep (M:Nat→Prop) (w:World) (ρ:Rho) (ss:List SV) (vs:List Value):Prop:=vs.length=ss.length∧∀(j:Nat) (s:SV) (x:Value),ss[j]?=some s→vs[j]?=some x→SRep M w ρ s x
def GOut (M:Nat→Prop) (w:World) (ρ:Rho) (obs:Obs) (w':World) (obs':Obs) (res:SV) (v:Value):Prop :=
 ∃ρ':Rho,Bnd ρ'∧(∀p∈obs,ρ' p.1 0=ρ p.1 0)∧Objs ⟨w,fps ρ obs,[],λ_ _=>none⟩ (λb=>M b∨fps ρ' obs' b) w' ρ' obs'∧Apart ρ' obs'∧SRep (λb=>M b∨fps ρ' obs' b) w' ρ' res v
def GPost (M:Nat→Prop) (w:World) (ρ:Rho) (obs:Obs) (w':World) (e:Ending):Option (Obs×SV)→Prop
 | none=>∃pv,e=.panicked [{v:=.iface pv (.agg #[]),recovered:=false}]
 | some (obs',res)=>∃v,e=.returned v∧GOut M w ρ obs w' obs' res v
def GCall (P:Program) (f:FuncId) (ins:List SV) (obs:Obs) (R:Option (Obs×SV)):Prop :=
 (∀(vs:Array Value) (w:World),(callFunc f vs).run P w=.ok (.enter f vs) w) ∧
 ∀(M:Nat→Prop) (w:World) (ρ:Rho) (vs:List Value),(∀b,M b→b<w.heap.size)→Bnd ρ→ARep M w ρ ins vs→Objs ⟨w,λ_=>True,[],λ_ _=>none⟩ M w ρ obs→(∀b,fps ρ obs b→M b)→Apart ρ obs →
  Calls P f vs.toArray w λe w'=>ExtL ⟨w,fps ρ obs,[],λ_ _=>none⟩ w'∧GPost M w ρ obs w' e R
abbrev Pm:=List (Nat×Nat×Nat)
def lookR:Pm→Nat→Option (Nat×Nat)
 | [],_=>none
 | (c,k,g)::r,i=>bif Nat.beq i c then some (k,g)else lookR r i
def nmOf (pm:Pm):Nm:=λk g=>bif Nat.beq g 0 then(match lookR pm k with|some x=>x|none=>(k,g))else(k,g)
def nm2 (pm:Pm) (nw:List (Nat×Nat)) (G:Nat):Nm:=λk g=>bif Nat.beq g 0 then(match lookR pm k with|some x=>x|none=>(match lookR (nw.map λp=>(p.1,p.2,G)) k with|some x=>x|none=>(k,G+1+g)))else(k,G+1+g)
def ASt.drops (st:ASt):Pm→ASt
 | []=>st
 | (_,k,_)::r=>(st.drop k).drops r
def ASt.puts (st:ASt):List (Nat×Nat×AO)→ASt
 | []=>st
 | (k,g,o)::r=>(st.put k g o).puts r
def PreO (st:ASt) (r:Nm):Obs→Prop
 | []=>True
 | p::l=>st.ob (r p.1 0).1=some ((r p.1 0).2,p.2.ren r)∧PreO st r l
theorem PreO.get {st:ASt}{r:Nm}:∀{obs:Obs},PreO st r obs→∀p∈obs,st.ob (r p.1 0).1=some ((r p.1 0).2,p.2.ren r)
 | [],_,p,hp=>by cases hp
 | q::l,h,p,hp=>by
  rcases List.mem_cons.1 hp with rfl|hp
  ·exact h.1
  ·exact h.2.get p hp
def ArgsS (st:ASt):List Operand→List SV→Prop
 | [],[]=>True
 | x::xs,s::ss=>Sub (st.ev x) s∧ArgsS st xs ss
 | _,_=>False
theorem ArgsS.rep {st:ASt}{M:Nat→Prop}{w:World}{ρ:Rho}{a:Act}:∀{xs:List Operand}{ss:List SV},ArgsS st xs ss→(∀x∈xs,SRep M w ρ (st.ev x) (a.eval x))→ARep M w ρ ss (xs.map a.eval)
 | [],[],_,_=>⟨rfl,λj a x h=>by simp at h⟩
 | x::xs,b::aa,h,hs=>by
  have ih:=ArgsS.rep (a:=a) h.2 λy hy=>hs y (by simp[hy])
  refine⟨by simp[ih.1],λj c y h1 h2=>?_⟩
  cases j with
  | zero =>
   simp at h1 h2
   subst h1 h2
   exact h.1 _ _ _ _ (hs x (by simp))
  | succ j=>exact ih.2 j c y (by simpa using h1) (by simpa using h2)
 | [],_::_,h,_=>h.elim
 | _::_,[],h,_=>h.elim
def nodupB:List Nat→Bool
 | []=>true
 | x::r=>r.all (λy=>!Nat.beq x y)&&nodupB r
theorem nodupB.inj {α:Type}{f:α→Nat}:∀{l:List α},nodupB (l.map f)=true→∀p∈l,∀q∈l,f p=f q→p=q
 | [],_,p,hp,_,_,_=>by cases hp
 | x::l,h,p,hp,q,hq,e=>by
  simp only[List.map_cons,nodupB,Bool.and_eq_true,List.all_eq_true]at h
  have hne:∀y∈l,f x≠f y:=λy hy e'=>by
   have:=h.1 (f y) (List.mem_map.2 ⟨y,hy,rfl⟩)
   rw[e']at this
   simp at this
  rcases List.mem_cons.1 hp with e1|hp2
  ·rcases List.mem_cons.1 hq with e2|hq2
   ·rw[e1,e2]
   ·exact(hne q hq2 (by rw[←e1];exact e)).elim
  ·rcases List.mem_cons.1 hq with e2|hq2
   ·exact(hne p hp2 (by rw[←e2];exact e.symm)).elim
   ·exact nodupB.inj h.2 p hp2 q hq2 e
def nmB (obs obs':Obs) (pm:Pm) (nw:List (Nat×Nat)):Bool :=
 (obs.all λp=>(lookR pm p.1).isSome)&&nodupB (obs.map (·.1))&&nodupB (obs'.map (·.1))&&nodupB (pm.map (·.1))&&nodupB (pm.map (·.2.1))&&nodupB (nw.map (·.1))&&nodupB (nw.map (·.2)) &&
 (obs'.all λp=>(obs.any λq=>Nat.beq q.1 p.1)||(!(lookR pm p.1).isSome&&(lookR (nw.map λq=>(q.1,q.2,0)) p.1).isSome)) &&
 nodupB (obs'.map λp=>(nm2 pm nw 0 p.1 0).1)&&(pm.all λq=>obs.any λp=>Nat.beq p.1 q.1)
theorem lookR_mem:∀{pm:Pm}{c:Nat}{x:Nat×Nat},lookR pm c=some x→(c,x.1,x.2)∈pm
 | [],_,_,h=>by cases h
 | (c',k,g)::r,c,x,h=>by
  simp only[lookR]at h
  cases hb:Nat.beq c c' with
  | true =>
   rw[hb]at h
   simp only[cond_true,Option.some.injEq]at h
   obtain rfl:=Nat.eq_of_beq_eq_true hb
   subst h
   simp
  | false =>
   rw[hb]at h
   exact List.mem_cons_of_mem _ (lookR_mem h)
theorem drops_ob {k g:Nat}{o:AO}:∀{pm:Pm}{st:ASt},(st.drops pm).ob k=some (g,o)→st.ob k=some (g,o)∧∀p∈pm,p.2.1≠k
 | [],_,h=>⟨h,λp hp=>by cases hp⟩
 | (c,k',g')::r,st,h=>by
  obtain⟨h1,h2⟩:=drops_ob (pm:=r) h
  have h3:(bif Nat.beq k k' then none else st.ob k)=some (g,o):=h1
  cases hb:Nat.beq k k' with
  | true=>rw[hb]at h3;cases h3
  | false =>
   rw[hb]at h3
   refine⟨h3,λp hp e=>?_⟩
   rcases List.mem_cons.1 hp with rfl|hp
   ·simp only at e;subst e;simp at hb
   ·exact h2 p hp e
theorem puts_ob {k g:Nat}{o:AO}:∀{l:List (Nat×Nat×AO)}{st:ASt},(st.puts l).ob k=some (g,o)→(k,g,o)∈l∨st.ob k=some (g,o)
 | [],_,h=>.inr h
 | (k',g',o')::r,st,h=>by
  rcases puts_ob (l:=r) h with h1|h1
  ·exact .inl (List.mem_cons_of_mem _ h1)
  ·have h3:(bif Nat.beq k k' then some (g',o')else st.ob k)=some (g,o):=h1
   cases hb:Nat.beq k k' with
   | true =>
    rw[hb]at h3
    simp only[cond_true,Option.some.injEq,Prod.mk.injEq]at h3
    obtain rfl:=Nat.eq_of_beq_eq_true hb
    obtain⟨rfl,rfl⟩:=h3
    exact .inl (by simp)
   | false=>rw[hb]at h3;exact .inr h3
theorem drops_sl {i:Nat}:∀(pm:Pm) (st:ASt),(st.drops pm).sl i=st.sl i
 | [],_=>rfl
 | (_,k,_)::r,st=>drops_sl r (st.drop k)
theorem puts_sl {i:Nat}:∀(l:List (Nat×Nat×AO)) (st:ASt),(st.puts l).sl i=st.sl i
 | [],_=>rfl
 | (k,g,o)::r,st=>puts_sl r (st.put k g o)
def ASt.aft (st:ASt) (pm:Pm) (obs':Obs) (r:Nm):ASt:=(st.drops pm).puts (obs'.map λp=>((r p.1 0).1,(r p.1 0).2,p.2.ren r))
def invN:List (Nat×Nat)→Nat→Option Nat
 | [],_=>none
 | (c,k)::r,i=>bif Nat.beq i k then some c else invN r i
theorem invN_of:∀{nw:List (Nat×Nat)}{c k:Nat},nodupB (nw.map (·.2))=true→(c,k)∈nw→invN nw k=some c
 | [],_,_,_,h=>by cases h
 | (c',k')::r,c,k,hd,h=>by
  simp only[List.map_cons,nodupB,Bool.and_eq_true,List.all_eq_true]at hd
  simp only[invN]
  rcases List.mem_cons.1 h with e|h2
  ·cases e;simp
  ·have hne:Nat.beq k k'=false:=by
    cases hb:Nat.beq k k' with
    | false=>rfl
    | true =>
     have:=Nat.eq_of_beq_eq_true hb
     subst this
     have:=hd.1 k (List.mem_map.2 ⟨(c,k),h2,rfl⟩)
     simp at this
   rw[hne]
   exact invN_of hd.2 h2
section
variable {P:Program}{N:Nat}{M0:Nat→Prop}{w0:Base}{ops:Array Oper}{Q:Exit→ASt→Prop}{o:Oper}{l:List Oper}{st:ASt}
theorem nmOf_bnd {ρ:Rho}{pm:Pm}(h:Bnd ρ):Bnd (pull (nmOf pm) ρ):=by
 obtain⟨G,hG⟩:=h
 refine⟨G+1,λk g hh=>?_⟩
 cases g with
 | zero=>omega
 | succ g=>have:=hG k (g+1) hh;omega
structure Lent (st:ASt) (ρ:Rho) (obs:Obs) (pm:Pm):Prop where
 pre:PreO st (nmOf pm) obs
 all:∀p∈obs,(lookR pm p.1).isSome=true
theorem Lent.key {ρ:Rho}{obs:Obs}{pm:Pm}(h:Lent st ρ obs pm) {p:Nat×AO}(hp:p∈obs):∃k g,nmOf pm p.1 0=(k,g)∧(p.1,k,g)∈pm∧st.ob k=some (g,p.2.ren (nmOf pm)):=by
 have h1:=h.all p hp
 obtain⟨⟨k,g⟩,hx⟩:=Option.isSome_iff_exists.1 h1
 have e:nmOf pm p.1 0=(k,g):=by simp[nmOf,hx]
 refine⟨k,g,e,lookR_mem hx,?_⟩
 have:=h.pre.get p hp
 rw[e]at this
 exact this
theorem SimR.lent {ρ:Rho}{a:Act}{w:World}(hs:SimR N M0 w0 st ρ a w) {obs:Obs}{pm:Pm}(hl:Lent st ρ obs pm) (hd1:nodupB (pm.map (·.2.1))=true) :
  Objs ⟨w,λ_=>True,[],λ_ _=>none⟩ (Mt M0 ρ st.ob) w (pull (nmOf pm) ρ) obs∧(∀b,fps (pull (nmOf pm) ρ) obs b→Mt M0 ρ st.ob b)∧Apart (pull (nmOf pm) ρ) obs ∧
  (∀b,fps (pull (nmOf pm) ρ) obs b→w0.w.heap.size≤b∨w0.l b) ∧
  (∀b k g o h,fps (pull (nmOf pm) ρ) obs b→st.ob k=some (g,o)→ρ k g=some h→fpO o h b→∃p∈pm,p.2.1=k):=by
 refine⟨λp hp=>?_,λb hb=>?_,λp hp q hq h h' b h1 h2 h3 h4=>?_,λb hb=>?_,λb k g o h hb h1 h2 h3=>?_⟩
 ·obtain⟨k,g,e,_,hob⟩:=hl.key hp
  obtain⟨h,h1,h2⟩:=hs.obj k g _ hob
  refine⟨h,by show ρ (nmOf pm p.1 0).1 (nmOf pm p.1 0).2=_;rw[e];exact h1,(ORep.ren.1 h2).base λb _=>.inr trivial⟩
 ·obtain⟨p,hp,h,h1,h2⟩:=hb
  obtain⟨k,g,e,_,hob⟩:=hl.key hp
  have h1':ρ (nmOf pm p.1 0).1 (nmOf pm p.1 0).2=some h:=h1
  rw[e]at h1'
  exact .inr ⟨k,g,_,h,hob,h1',fpO.ren.2 h2⟩
 ·obtain⟨k,g,e,hm,hob⟩:=hl.key hp
  obtain⟨k',g',e',hm',hob'⟩:=hl.key hq
  have h1':ρ (nmOf pm p.1 0).1 (nmOf pm p.1 0).2=some h:=h1
  have h2':ρ (nmOf pm q.1 0).1 (nmOf pm q.1 0).2=some h':=h2
  rw[e]at h1'
  rw[e']at h2'
  have hk:=hs.apart k g _ k' g' _ h h' b hob hob' h1' h2' (fpO.ren.2 h3) (fpO.ren.2 h4)
  have:=nodupB.inj hd1 _ hm _ hm' hk
  simp only[Prod.mk.injEq]at this
  exact this.1
 ·obtain⟨p,hp,h,h1,h2⟩:=hb
  obtain⟨k,g,e,_,hob⟩:=hl.key hp
  have h1':ρ (nmOf pm p.1 0).1 (nmOf pm p.1 0).2=some h:=h1
  rw[e]at h1'
  obtain⟨h',h3,h4⟩:=hs.obj k g _ hob
  rw[h1']at h3;cases h3
  exact(h4.blk_lt (fpO.ren.2 h2)).1
 ·obtain⟨p,hp,h',h4,h5⟩:=hb
  obtain⟨k',g',e,hm,hob⟩:=hl.key hp
  have h4':ρ (nmOf pm p.1 0).1 (nmOf pm p.1 0).2=some h':=h4
  rw[e]at h4'
  exact⟨_,hm,hs.apart k' g' _ k g o h' h b hob h1 h4' h2 (fpO.ren.2 h5) h3⟩
theorem SimR.aft {ρ:Rho}{a:Act}{w w':World}(hs:SimR N M0 w0 st ρ a w) {obs obs':Obs}{pm:Pm}{nw:List (Nat×Nat)}{res:SV}{v:Value}(hl:PreO st (nmOf pm) obs) (hB:nmB obs obs' pm nw=true)
  (hx:ExtL ⟨w,fps (pull (nmOf pm) ρ) obs,[],λ_ _=>none⟩ w') (ho:GOut (Mt M0 ρ st.ob) w (pull (nmOf pm) ρ) obs w' obs' res v) :
  ∃G ρ',SimR N M0 w0 (st.aft pm obs' (nm2 pm nw G)) ρ' a w'∧SRep (Mt M0 ρ' (st.aft pm obs' (nm2 pm nw G)).ob) w' ρ' (res.ren (nm2 pm nw G)) v:=by
 simp only[nmB,Bool.and_eq_true]at hB
 obtain⟨⟨⟨⟨⟨⟨⟨⟨⟨hb1,hb2⟩,hb3⟩,hb4⟩,hb5⟩,hb6⟩,hb7⟩,hb8⟩,hb9⟩,hb10⟩:=hB
 have hlent:Lent st ρ obs pm:=⟨hl,λp hp=>List.all_eq_true.1 hb1 p hp⟩
 obtain⟨l1,l2,l3,l4,l5⟩:=hs.lent hlent hb5
 obtain⟨ρ1,⟨G1,hG1⟩,hpin,hobs,hap,hres⟩:=ho
 obtain⟨G,hG⟩:=hs.gens
 let ρ':Rho:=λk g=>if g<G then ρ k g else if g=G then(match invN nw k with|some c=>ρ1 c 0|none=>none)else ρ1 k (g - G - 1)
 have hρ:RhoLe ρ ρ':=λk g x hx=>by
  show(if g<G then ρ k g else _)=some x
  rw[if_pos (hG k g (by rw[hx];simp))];exact hx
 have hρG:∀k g,ρ' k (G+1+g)=ρ1 k g:=λk g=>by
  show(if G+1+g<G then _ else if G+1+g=G then _ else ρ1 k (G+1+g - G - 1))=_
  rw[if_neg (by omega),if_neg (by omega),show G+1+g - G - 1=g from by omega]
 have hnw:∀c k,(c,k)∈nw→ρ' k G=ρ1 c 0:=λc k h=>by
  show(if G<G then _ else if G=G then _ else _)=_
  rw[if_neg (by omega),if_pos rfl,invN_of hb7 h]
 have hpm:∀c k g,lookR pm c=some (k,g)→(∃p∈obs,p.1=c)→ρ' k g=ρ1 c 0:=λc k g h ⟨p,hp,e⟩=>by
  subst e
  obtain⟨h',h1,_⟩:=l1 p hp
  rw[hpin p hp,h1]
  have:ρ (nmOf pm p.1 0).1 (nmOf pm p.1 0).2=some h':=h1
  have e:nmOf pm p.1 0=(k,g):=by simp[nmOf,h]
  rw[e]at this
  exact hρ _ _ _ this
 have hname:∀p∈obs',ρ' (nm2 pm nw G p.1 0).1 (nm2 pm nw G p.1 0).2=ρ1 p.1 0:=λp hp=>by
  have h8:=List.all_eq_true.1 hb8 p hp
  simp only[Bool.or_eq_true,List.any_eq_true,Bool.and_eq_true,Bool.not_eq_true']at h8
  rcases h8 with⟨q,hq,hqp⟩|⟨h8,h9⟩
  ·have e:=Nat.eq_of_beq_eq_true hqp
   obtain⟨⟨k,g⟩,hx⟩:=Option.isSome_iff_exists.1 (hlent.all q hq)
   rw[e]at hx
   have e2:nm2 pm nw G p.1 0=(k,g):=by simp[nm2,hx]
   rw[e2]
   exact hpm _ _ _ hx ⟨q,hq,e⟩
  ·have h8':lookR pm p.1=none:=by simpa using h8
   obtain⟨⟨k,g⟩,hx⟩:=Option.isSome_iff_exists.1 h9
   obtain⟨q,hq,e3⟩:=List.mem_map.1 (lookR_mem hx)
   simp only[Prod.mk.injEq]at e3
   obtain⟨e3,e4,_⟩:=e3
   have hx2:lookR (nw.map λq=>(q.1,q.2,G)) p.1=some (k,G):=by
    have gen:∀(l:List (Nat×Nat)) (g1 g2:Nat) (c k g:Nat),lookR (l.map λq=>(q.1,q.2,g1)) c=some (k,g)→lookR (l.map λq=>(q.1,q.2,g2)) c=some (k,g2):=by
     intro l g1 g2 c k g
     induction l with
     | nil=>intro h;cases h
     | cons x r ih =>
      simp only[List.map_cons,lookR]
      cases Nat.beq c x.1 with
      | true=>intro h;simp only[cond_true,Option.some.injEq,Prod.mk.injEq]at h ⊢;exact⟨h.1,trivial⟩
      | false=>exact ih
    exact gen nw 0 G p.1 k g hx
   have e2:nm2 pm nw G p.1 0=(k,G):=by simp[nm2,h8',hx2]
   rw[e2]
   exact hnw p.1 k (by rw[←e3,←e4];exact hq)
 have hpull:RhoLe ρ1 (pull (nm2 pm nw G) ρ'):=λk g x hx=>by
  show ρ' (nm2 pm nw G k g).1 (nm2 pm nw G k g).2=some x
  cases g with
  | succ g =>
   have e:nm2 pm nw G k (g+1)=(k,G+1+(g+1)):=rfl
   rw[e,hρG];exact hx
  | zero =>
   cases h1:lookR pm k with
   | some y =>
    obtain⟨k2,g2⟩:=y
    have e:nm2 pm nw G k 0=(k2,g2):=by simp[nm2,h1]
    rw[e]
    have h10:=List.all_eq_true.1 hb10 _ (lookR_mem h1)
    obtain⟨p,hp,hpk⟩:=List.any_eq_true.1 h10
    show ρ' k2 g2=some x
    rw[hpm k k2 g2 h1 ⟨p,hp,Nat.eq_of_beq_eq_true hpk⟩];exact hx
   | none =>
    cases h2:lookR (nw.map λq=>(q.1,q.2,G)) k with
    | some y =>
     obtain⟨k2,g2⟩:=y
     have e:nm2 pm nw G k 0=(k2,g2):=by simp[nm2,h1,h2]
     obtain⟨q,hq,e3⟩:=List.mem_map.1 (lookR_mem h2)
     simp only[Prod.mk.injEq]at e3
     obtain⟨e3,e4,e5⟩:=e3
     rw[e,←e5]
     show ρ' k2 G=some x
     rw[hnw k k2 (by rw[←e3,←e4];exact hq)];exact hx
    | none =>
     have e:nm2 pm nw G k 0=(k,G+1+0):=by simp[nm2,h1,h2]
     rw[e,hρG];exact hx
 have hob':∀k g o2,(st.aft pm obs' (nm2 pm nw G)).ob k=some (g,o2)→(∃p∈obs',nm2 pm nw G p.1 0=(k,g)∧o2=p.2.ren (nm2 pm nw G))∨(st.ob k=some (g,o2)∧∀p∈pm,p.2.1≠k):=λk g o2 h=>by
  rcases puts_ob h with h1|h1
  ·obtain⟨p,hp,e⟩:=List.mem_map.1 h1
   simp only[Prod.mk.injEq]at e
   exact .inl ⟨p,hp,Prod.ext e.1 e.2.1,e.2.2.symm⟩
  ·exact .inr (drops_ob h1)
 have hnew:∀p∈obs',∀k g,nm2 pm nw G p.1 0=(k,g)→∃h,ρ' k g=some h∧ρ1 p.1 0=some h∧ORep ⟨w,fps (pull (nmOf pm) ρ) obs,[],λ_ _=>none⟩ (λb=>Mt M0 ρ st.ob b∨fps ρ1 obs' b) w' ρ1 h p.2:=λp hp k g e=>by
  obtain⟨h,h1,h2⟩:=hobs p hp
  have:=hname p hp
  rw[e,h1]at this
  exact⟨h,this,h1,h2⟩
 have hold:∀k g o2 h,st.ob k=some (g,o2)→(∀p∈pm,p.2.1≠k)→ρ k g=some h→∀b,fpO o2 h b→¬fps (pull (nmOf pm) ρ) obs b:=λk g o2 h h1 h2 h3 b h4 h5=>by
  obtain⟨p,hp,e⟩:=l5 b k g o2 h h5 h1 h3 h4
  exact h2 p hp e
 have hρold:∀k g o2 h,st.ob k=some (g,o2)→ρ' k g=some h→ρ k g=some h:=λk g o2 h h1 h2=>by
  obtain⟨h',h3,_⟩:=hs.obj k g o2 h1
  rw[hρ _ _ _ h3]at h2
  rw[h3,h2]
 have hMt:∀b,Mt M0 ρ' (st.aft pm obs' (nm2 pm nw G)).ob b→Mt M0 ρ st.ob b∨fps ρ1 obs' b:=λb hb=>by
  rcases hb with hb|⟨k,g,o2,h,h1,h2,h3⟩
  ·exact .inl (.inl hb)
  ·rcases hob' k g o2 h1 with⟨p,hp,e,rfl⟩|⟨h4,_⟩
   ·obtain⟨h',k1,k2,_⟩:=hnew p hp k g e
    rw[h2]at k1;cases k1
    exact .inr ⟨p,hp,h,k2,fpO.ren.1 h3⟩
   ·exact .inl (.inr ⟨k,g,o2,h,h4,hρold _ _ _ _ h4 h2,h3⟩)
 have hfn:∀b,fps ρ1 obs' b→w.heap.size≤b∨fps (pull (nmOf pm) ρ) obs b:=λb ⟨p,hp,h,h1,h2⟩=>by
  obtain⟨h',h3,h4⟩:=hobs p hp
  rw[h1]at h3;cases h3
  exact(h4.blk_lt h2).1
 have hK:Known (Mt M0 ρ st.ob) (Mt M0 ρ' (st.aft pm obs' (nm2 pm nw G)).ob) w w':=λb hb hm=>by
  refine⟨λhm'=>?_,hx.block b hb λh=>hm (l2 b h)⟩
  rcases hMt b hm' with h|h
  ·exact hm h
  ·rcases hfn b h with h2|h2
   ·omega
   ·exact hm (l2 b h2)
 have hKs:Known (λb=>Mt M0 ρ st.ob b∨fps ρ1 obs' b) (Mt M0 ρ' (st.aft pm obs' (nm2 pm nw G)).ob) w' w':=Known.sub hMt
 refine⟨G,ρ',{
  size:=hs.size
  defers:=hs.defers
  slot:=λi=>by
   have e:(st.aft pm obs' (nm2 pm nw G)).sl i=st.sl i:=(puts_sl _ _).trans (drops_sl _ _)
   rw[e]
   exact((hs.slot i).mono hK).rho hρ
  obj:=λk g o2 h=>by
   rcases hob' k g o2 h with⟨p,hp,e,rfl⟩|⟨h1,h2⟩
   ·obtain⟨h',k1,k2,k3⟩:=hnew p hp k g e
    refine⟨h',k1,ORep.ren.2 (((k3.mono hKs λ_ _=>rfl).rho hpull).base λb hb=>?_)⟩
    rcases(k3.blk_lt hb).1 with h3|h3
    ·exact .inl (Nat.le_trans hs.ext.size h3)
    ·exact l4 b h3
   ·obtain⟨h',k1,k2⟩:=hs.obj k g o2 h1
    exact⟨h',hρ _ _ _ k1,(k2.mono hK λb hb=>hx.block b (k2.blk_lt hb).2 (hold k g o2 h' h1 h2 k1 b hb)).rho hρ⟩
  apart:=λk g o1 k' g' o2 h h' b h1 h2 h3 h4 h5 h6=>by
   rcases hob' k g o1 h1 with⟨p,hp,e,rfl⟩|⟨h1,h1n⟩
   ·obtain⟨y,k1,k2,k3⟩:=hnew p hp k g e
    rw[h3]at k1;cases k1
    rcases hob' k' g' o2 h2 with⟨q,hq,e',rfl⟩|⟨h2,h2n⟩
    ·obtain⟨y,k1',k2',k3'⟩:=hnew q hq k' g' e'
     rw[h4]at k1';cases k1'
     have hpq:=hap p hp q hq h h' b k2 k2' (fpO.ren.1 h5) (fpO.ren.1 h6)
     rw[hpq,e']at e
     simp only[Prod.mk.injEq]at e
     exact e.1.symm
    ·exfalso
     have h4':=hρold _ _ _ _ h2 h4
     rcases(k3.blk_lt (fpO.ren.1 h5)).1 with h7|h7
     ·obtain⟨y,h8,h9⟩:=hs.obj k' g' o2 h2
      rw[h4']at h8;cases h8
      have:=(h9.blk_lt h6).2
      have h7':w.heap.size≤b:=h7
      omega
     ·exact hold k' g' o2 h' h2 h2n h4' b h6 h7
   ·have h3':=hρold _ _ _ _ h1 h3
    rcases hob' k' g' o2 h2 with⟨q,hq,e',rfl⟩|⟨h2,h2n⟩
    ·exfalso
     obtain⟨y,k1',k2',k3'⟩:=hnew q hq k' g' e'
     rw[h4]at k1';cases k1'
     rcases(k3'.blk_lt (fpO.ren.1 h6)).1 with h7|h7
     ·obtain⟨y,h8,h9⟩:=hs.obj k g o1 h1
      rw[h3']at h8;cases h8
      have:=(h9.blk_lt h5).2
      have h7':w.heap.size≤b:=h7
      omega
     ·exact hold k g o1 h h1 h1n h3' b h5 h7
    ·exact hs.apart k g o1 k' g' o2 h h' b h1 h2 h3' (hρold _ _ _ _ h2 h4) h5 h6
  gens:=⟨G+1+G1+1,λk g hh=>by
   by_cases h1:g<G
   ·omega
   ·by_cases h2:g=G
    ·omega
    ·have h3:(if g<G then ρ k g else if g=G then(match invN nw k with|some c=>ρ1 c 0|none=>none)else ρ1 k (g - G - 1))≠none:=hh
     rw[if_neg h1,if_neg h2]at h3
     have:=hG1 _ _ h3
     omega⟩
  base:=hs.base
  ext:=by
   have h1:=hs.ext
   refine⟨hx.os.trans h1.os,hx.tape.trans h1.tape,hx.output.trans h1.output,Nat.le_trans h1.size hx.size,λb hb hlb=>?_⟩
   have e1:=hx.block b (Nat.lt_of_lt_of_le hb h1.size) λh=>by
    rcases l4 b h with h2|h2
    ·omega
    ·exact hlb h2
   exact e1.trans (h1.block b hb hlb)
  pin:=λk g v hv=>hρ _ _ _ (hs.pin k g v hv)},SRep.ren.2 ((hres.mono hKs).rho hpull)⟩
end
end Go.Proofs.YtdnijgdmohinlaaGreat.A
namespace Go.Proofs.YtdnijgdmohinlaaGreat.A
open Go Go.RowKit
def CV.sv:CV→SV
 | .d a=>.d a
 | .bx k g off=>.bx k g off
 | .ow k g=>.ow k g
 | .eq v=>.eq v
theorem CV.rep {M:Nat→Prop}{w:World}{ρ:Rho}{c:CV}{x:Value}:SRep M w ρ c.sv x↔CRep M w ρ c x:=by cases c<;>rfl
theorem CReps.arep {M:Nat→Prop}{w:World}{ρ:Rho}{l:List CV}{vs:List Value}(h:CReps M w ρ l vs):ARep M w ρ (l.map CV.sv) vs:=⟨by rw[List.length_map];exact h.1,λj s x h1 h2=>by
 rw[List.getElem?_map]at h1
 obtain⟨c,h3,rfl⟩:=Option.map_eq_some_iff.1 h1
 exact CV.rep.2 (h.2 j c x h3 h2)⟩
theorem ARep.append {M:Nat→Prop}{w:World}{ρ:Rho}{s t:List SV}{us vs:List Value}(h:ARep M w ρ s us) (k:ARep M w ρ t vs):ARep M w ρ (s++t) (us++vs):=⟨by simp[h.1,k.1],λj a x h1 h2=>by
 rcases Nat.lt_or_ge j s.length with hj|hj
 ·rw[List.getElem?_append_left hj]at h1
  rw[List.getElem?_append_left (by rw[h.1];exact hj)]at h2
  exact h.2 j a x h1 h2
 ·rw[List.getElem?_append_right hj]at h1
  rw[List.getElem?_append_right (by rw[h.1];exact hj),h.1]at h2
  exact k.2 _ a x h1 h2⟩
theorem ARep.ren {M:Nat→Prop}{w:World}{ρ:Rho}{r:Nm}{s:List SV}{vs:List Value}(h:ARep M w ρ (s.map (SV.ren r)) vs):ARep M w (pull r ρ) s vs:=⟨by have:=h.1;rwa [List.length_map]at this,λj a x h1 h2=>SRep.ren.1 (h.2 j _ x (by rw[List.getElem?_map,h1];rfl) h2)⟩
section
variable {P:Program}{N:Nat}{M0:Nat→Prop}{w0:Base}{ops:Array Oper}{Q:Exit→ASt→Prop}{o:Oper}{l:List Oper}{st:ASt}
theorem gcall_at {f:FuncId}{ins:List SV}{obs obs':Obs}{res:SV}{pm:Pm}{nw:List (Nat×Nat)}{d:Nat}{a:Act}{w:World}{ρ:Rho}{vs:List Value}(hG:GCall P f ins obs (some (obs',res))) (hsim:SimR N M0 w0 st ρ a w) (hd:o.dst=some d) (hN:d<N) (hg:o.guard=none)
  (hpre:PreO st (nmOf pm) obs) (hB:nmB obs obs' pm nw=true) (hrun:(execOp a.eval o).run P w=.ok (.enter f vs.toArray) w) (hargs:ARep (Mt M0 ρ st.ob) w ρ (ins.map (SV.ren (nmOf pm))) vs)
  (h:∀G,Al P N M0 w0 ops Q l ((st.aft pm obs' (nm2 pm nw G)).set d (res.ren (nm2 pm nw G)))):wpList P ops (QL N M0 w0 Q) (o::l) a w:=by
 have hB':=hB
 simp only[nmB,Bool.and_eq_true]at hB'
 obtain⟨⟨⟨⟨⟨⟨⟨⟨⟨hb1,_⟩,_⟩,_⟩,hb5⟩,_⟩,_⟩,_⟩,_⟩,_⟩:=hB'
 obtain⟨l1,l2,l3,l4,l5⟩:=hsim.lent ⟨hpre,λp hp=>List.all_eq_true.1 hb1 p hp⟩ hb5
 have hcall:=hG.2 (Mt M0 ρ st.ob) w (pull (nmOf pm) ρ) vs hsim.mt_lt (nmOf_bnd hsim.gens) hargs.ren l1 l2 l3
 refine wpList_plain hg λK hK=>wp_upon ?_
 rw[hrun]
 refine hcall.mono λe w' ⟨hx,v,he,ho⟩=>⟨v,he,?_⟩
 obtain⟨G,ρ',hs',hr'⟩:=hsim.aft hpre hB hx ho
 refine hK _ _ ((h G).out _ _ ⟨ρ',?_⟩)
 rw[hd]
 exact hs'.set hN hr'
theorem Al_gcall {f:FuncId}{ins:List SV}{obs obs':Obs}{res:SV}(pm:Pm) (nw:List (Nat×Nat)) {d:Nat}{xs:List Operand}{ts:Array TypeId}(hG:GCall P f ins obs (some (obs',res))) (ho:o.op=.call ⟨.value (.func f),xs.toArray,ts⟩) (hg:o.guard=none) (hd:o.dst=some d) (hN:d<N) (hc:conB o=true)
  (hpre:PreO st (nmOf pm) obs) (hB:nmB obs obs' pm nw=true) (ha:ArgsS st xs (ins.map (SV.ren (nmOf pm))))
  (h:∀G,Al P N M0 w0 ops Q l ((st.aft pm obs' (nm2 pm nw G)).set d (res.ren (nm2 pm nw G)))):Al P N M0 w0 ops Q (o::l) st:=by
 refine⟨?_⟩
 rintro a w ⟨ρ,hsim⟩
 have hev:=λy hy=>hsim.ev hc y (mem_call ho y hy)
 refine gcall_at hG hsim hd hN hg hpre hB (vs:=xs.map a.eval) ?_ (ha.rep λx hx=>hev x (by simpa using hx)) h
 simp only[execOp,ho,resolve,Act.eval,Deferred.ofValue,invoke,Sem.run_bind,Sem.run_pure,Result.andThen_ok]
 rw[hG.1]
 congr 2
 apply Array.ext'
 simp
theorem Al_gcallv {f:FuncId}{first caps:List CV}{ins:List SV}{obs obs':Obs}{res:SV}(pm:Pm) (nw:List (Nat×Nat)) {d:Nat}{y:Operand}{xs:List Operand}{ts:Array TypeId}(hG:GCall P f ins obs (some (obs',res))) (ho:o.op=.call ⟨.value y,xs.toArray,ts⟩) (hg:o.guard=none) (hd:o.dst=some d) (hN:d<N) (hc:conB o=true) (hy:st.ev y=.fnb f first caps)
  (hpre:PreO st (nmOf pm) obs) (hB:nmB obs obs' pm nw=true) (aa:List SV) (hins:ins.map (SV.ren (nmOf pm))=first.map CV.sv++aa++caps.map CV.sv) (ha:ArgsS st xs aa)
  (h:∀G,Al P N M0 w0 ops Q l ((st.aft pm obs' (nm2 pm nw G)).set d (res.ren (nm2 pm nw G)))):Al P N M0 w0 ops Q (o::l) st:=by
 refine⟨?_⟩
 rintro a w ⟨ρ,hsim⟩
 have hev:=λy hy=>hsim.ev hc y (mem_call ho y hy)
 have hm:=hsim.ev hc y (by simp[opsOf,ho,Op.operands,Call.operands])
 rw[hy]at hm
 obtain⟨us,vs,h1,h2,h3⟩:=hm
 refine gcall_at hG hsim hd hN hg hpre hB (vs:=us++xs.map a.eval++vs) ?_ (by rw[hins];exact(h2.arep.append (ha.rep λx hx=>hev x (by simpa using hx))).append h3.arep) h
 simp only[execOp,ho,resolve,h1,Deferred.ofValue,invoke,Sem.run_bind,Sem.run_pure,Result.andThen_ok]
 rw[hG.1]
 simp
end
def lookO1 (obs:Obs):List (Nat×Nat×AO):=obs.map λp=>(p.1,0,p.2)
def argSS:Nat→List SV→List (Nat×SV)
 | _,[]=>[]
 | i,s::r=>(i,s)::argSS (i+1) r
theorem argSS_get:∀(aa:List SV) (k i:Nat),lookS (argSS k aa) (k+i)=match aa[i]? with|some s=>s|none=>.any
 | [],k,i=>rfl
 | s::r,k,0=>by
  show(bif Nat.beq (k+0) k then s else _)=_
  have:Nat.beq (k+0) k=true:=by simp
  rw[this];rfl
 | s::r,k,i+1=>by
  show(bif Nat.beq (k+(i+1)) k then s else lookS (argSS (k+1) r) (k+(i+1)))=_
  have:Nat.beq (k+(i+1)) k=false:=by
   cases hb:Nat.beq (k+(i+1)) k with
   | false=>rfl
   | true=>have:=Nat.eq_of_beq_eq_true hb;omega
  rw[this]
  have:=argSS_get r (k+1) i
  rw[show k+1+i=k+(i+1)from by omega]at this
  simpa using this
theorem lookO1_mem:∀{obs:Obs}{k g:Nat}{o:AO},lookO (lookO1 obs) k=some (g,o)→g=0∧(k,o)∈obs
 | [],_,_,_,h=>by cases h
 | (c,o')::r,k,g,o,h=>by
  have h1:(bif Nat.beq k c then some (0,o')else lookO (lookO1 r) k)=some (g,o):=h
  cases hb:Nat.beq k c with
  | true =>
   rw[hb]at h1
   simp only[cond_true,Option.some.injEq,Prod.mk.injEq]at h1
   obtain rfl:=Nat.eq_of_beq_eq_true hb
   obtain⟨rfl,rfl⟩:=h1
   exact⟨rfl,by simp⟩
  | false =>
   rw[hb]at h1
   obtain⟨h2,h3⟩:=lookO1_mem h1
   exact⟨h2,by simp[h3]⟩
def pins (ρ:Rho) (obs:Obs):Rho:=λk g=>bif Nat.beq g 0&&obs.any (λp=>Nat.beq p.1 k)then ρ k g else none
structure ReadsS (P:Program) (fn:Func) (rs:ASt→SV→Prop):Prop where
 out:∀{N:Nat}{M0:Nat→Prop}{w0:Base}{st:ASt}{ρ:Rho}{a:Act}{w:World}{res:SV},SimR N M0 w0 st ρ a w→rs st res→∃v,(results fn a.tmps).run P w=.ok v w∧SRep (Mt M0 ρ st.ob) w ρ res v
def Res0S (_:ASt) (res:SV):Prop:=res=.d (.tup [])
def Res1S (r:Nat) (st:ASt) (res:SV):Prop:=Sub (st.sl r) res
def Res2S (r r':Nat) (st:ASt) (res:SV):Prop:=∃a b,res=.tp [a,b]∧Sub (st.sl r) a.sv∧Sub (st.sl r') b.sv
theorem ReadsS.r0 {P:Program}{fn:Func}(h:fn.results=#[]):ReadsS P fn Res0S:=⟨λhs hr=>⟨_,results_none h _ _ _,by rw[show _=SV.d (AV.tup [])from hr];exact .tup [] [] rfl λj a x h=>by simp at h⟩⟩
theorem ReadsS.r1 {P:Program}{fn:Func}{r:Nat}(h:fn.results=#[.tmp r]):ReadsS P fn (Res1S r):=⟨λhs hr=>⟨_,results_tmp h _ _ _,hr _ _ _ _ (hs.slot r)⟩⟩
theorem ReadsS.r2 {P:Program}{fn:Func}{r r':Nat}(h:fn.results=#[.tmp r,.tmp r']):ReadsS P fn (Res2S r r'):=⟨λhs ⟨a,b,e,h1,h2⟩=>⟨_,results_tmp2 h _ _ _,by
 rw[e]
 refine⟨[_,_],rfl,rfl,λj c x h3 h4=>?_⟩
 match j with
 | 0=>simp only[List.getElem?_cons_zero,Option.some.injEq]at h3 h4;subst h3 h4;exact CV.rep.1 (h1 _ _ _ _ (hs.slot r))
 | 1=>simp only[List.getElem?_cons_succ,List.getElem?_cons_zero,Option.some.injEq]at h3 h4;subst h3 h4;exact CV.rep.1 (h2 _ _ _ _ (hs.slot r'))
 | j+2=>simp at h3⟩⟩
def RtO (rs:ASt→SV→Prop) (obs:Obs):Option (Obs×SV)→Exit→ASt→Prop
 | R,.ret,st=>∃(obs':Obs) (res:SV) (mp:Pm),R=some (obs',res)∧rs st (res.ren (nmOf mp))∧PreO st (nmOf mp) obs'∧(nodupB (obs'.map λp=>(nmOf mp p.1 0).1)&&nodupB (obs'.map (·.1))&&obs.all λp=>!(lookR mp p.1).isSome)=true
 | R,.normal,st=>∃(obs':Obs) (res:SV) (mp:Pm),R=some (obs',res)∧rs st (res.ren (nmOf mp))∧PreO st (nmOf mp) obs'∧(nodupB (obs'.map λp=>(nmOf mp p.1 0).1)&&nodupB (obs'.map (·.1))&&obs.all λp=>!(lookR mp p.1).isSome)=true
 | R,.panic ch,_=>R=none∧∃pv,ch=[{v:=.iface pv (.agg #[]),recovered:=false}]
 | _,_,_=>False
theorem GCall_enter {P:Program}{f:FuncId}{fn:Func}{c:Code}{N:Nat}{ins:List SV}{obs:Obs}{R:Option (Obs×SV)}{rs:ASt→SV→Prop}(hcf:∀(vs:Array Value) (w:World),(callFunc f vs).run P w=.ok (.enter f vs) w) (hf:P.funcs[f]?=some fn) (hb:fn.body=some c) (hN:fn.ntmps=N) (hr:ReadsS P fn rs) (hn:ins.length≤N)
  (h:(∀a,SV.d a∈ins→okA a)→(∀k T cs a,(k,AO.box T cs)∈obs→SV.d a∈cs→okA a)→∀M0 w0,Aw P N M0 w0 c (RtO rs obs R) (mk (argSS 0 ins) (lookO1 obs))):GCall P f ins obs R:=⟨hcf,λM w ρ vs hM hbnd ha hobs hfps hap=>by
 have hokI:∀a,SV.d a∈ins→okA a:=λa hm=>by
  obtain⟨j,hj,e⟩:=List.getElem_of_mem hm
  have hj':j<vs.length:=by rw[ha.1];exact hj
  exact⟨M,w,vs[j],ha.2 j (.d a) _ (by rw[List.getElem?_eq_getElem hj,e]) (List.getElem?_eq_getElem hj')⟩
 have hokB:∀k T cs a,(k,AO.box T cs)∈obs→SV.d a∈cs→okA a:=λk T cs a hm ha=>by
  obtain⟨y,_,b,xs,rfl,_,_,hsz,hcs⟩:=hobs _ hm
  obtain⟨j,hj,e⟩:=List.getElem_of_mem ha
  have hj':j<xs.size:=by rw[hsz];exact hj
  exact⟨M,w,xs[j],(hcs j (.d a) _ (by rw[List.getElem?_eq_getElem hj,e]) (Array.getElem?_eq_getElem hj')).1⟩
 have hMt:∀b,Mt M ρ (mk (argSS 0 ins) (lookO1 obs)).ob b→M b:=λb hb=>by
  rcases hb with hb|⟨k,g,o,x,h1,h2,h3⟩
  ·exact hb
  ·obtain⟨rfl,hm⟩:=lookO1_mem h1
   exact hfps b ⟨_,hm,x,h2,h3⟩
 have hsim:SimR N M ⟨w,fps ρ obs,[],pins ρ obs⟩ (mk (argSS 0 ins) (lookO1 obs)) ρ {tmps:=vs.toArray++Array.replicate (N - vs.toArray.size) undef,defers:=[]} w:={
  size:=by have:=ha.1;simp;omega
  defers:=rfl
  slot:=λi=>by
   have e:=argSS_get ins 0 i
   rw[Nat.zero_add]at e
   show SRep _ _ _ (lookS (argSS 0 ins) i) _
   rw[e]
   cases h:ins[i]? with
   | none=>trivial
   | some s =>
    have hi:i<vs.length:=by rw[ha.1];exact(List.getElem?_eq_some_iff.1 h).1
    show SRep _ _ _ s ((vs.toArray++Array.replicate (N - vs.toArray.size) undef).getD i undef)
    have e2:(vs.toArray++Array.replicate (N - vs.toArray.size) undef).getD i undef=vs[i]:=by
     simp[Array.getD_eq_getD_getElem?,Array.getElem?_append,hi]
    rw[e2]
    exact(ha.2 i s vs[i] h (by simp[hi])).mono (Known.sub hMt)
  obj:=λk g o h=>by
   obtain⟨rfl,hm⟩:=lookO1_mem h
   obtain⟨y,h1,h2⟩:=hobs _ hm
   exact⟨y,h1,(h2.mono (Known.sub hMt) λ_ _=>rfl).base λb hb=>.inr ⟨_,hm,y,h1,hb⟩⟩
  apart:=λk g o k' g' o' x x' b h h' h1 h2 h3 h4=>by
   obtain⟨rfl,hm⟩:=lookO1_mem h
   obtain⟨rfl,hm'⟩:=lookO1_mem h'
   exact hap _ hm _ hm' x x' b h1 h2 h3 h4
  gens:=hbnd
  base:=hM
  ext:=⟨rfl,rfl,rfl,Nat.le_refl _,λ_ _ _=>rfl⟩
  pin:=λk g v hv=>by
   have:(bif Nat.beq g 0&&obs.any (λp=>Nat.beq p.1 k)then ρ k g else none)=some v:=hv
   revert this
   cases(Nat.beq g 0&&obs.any (λp=>Nat.beq p.1 k))with
   | true=>exact id
   | false=>intro h;cases h}
 refine calls_of_wp hf hb ?_
 rw[hN]
 refine wp_mono ((h hokI hokB M ⟨w,fps ρ obs,[],pins ρ obs⟩).out _ _ ⟨_,hsim⟩) λe a' w' ⟨st,h1,ρF,h2⟩=>?_
 have hext:ExtL ⟨w,fps ρ obs,[],λ_ _=>none⟩ w':=⟨h2.ext.os,h2.ext.tape,h2.ext.output,h2.ext.size,h2.ext.block⟩
 have key:(∃(obs':Obs) (res:SV) (mp:Pm),R=some (obs',res)∧rs st (res.ren (nmOf mp))∧PreO st (nmOf mp) obs'∧(nodupB (obs'.map λp=>(nmOf mp p.1 0).1)&&nodupB (obs'.map (·.1))&&obs.all λp=>!(lookR mp p.1).isSome)=true)→a'.defers=[]∧∃v,(results fn a'.tmps).run P w'=.ok v w'∧(ExtL ⟨w,fps ρ obs,[],λ_ _=>none⟩ w'∧GPost M w ρ obs w' (.returned v) R):=λ⟨obs',res,mp,hR,hrs,hpo,hchk⟩=>by
  subst hR
  simp only[Bool.and_eq_true]at hchk
  obtain⟨⟨c1,c2⟩,c3⟩:=hchk
  obtain⟨v,k1,k2⟩:=hr.out h2 hrs
  refine⟨h2.defers,v,k1,hext,v,rfl,pull (nmOf mp) ρF,nmOf_bnd h2.gens,λp hp=>?_,λp hp=>?_,λp hp q hq x x' b h1 h2' h3 h4=>?_,?_⟩
  ·have h5:=List.all_eq_true.1 c3 p hp
   have h6:lookR mp p.1=none:=by simpa using h5
   have e:nmOf mp p.1 0=(p.1,0):=by simp[nmOf,h6]
   show ρF (nmOf mp p.1 0).1 (nmOf mp p.1 0).2=_
   rw[e]
   obtain⟨y,h7,_⟩:=hobs p hp
   rw[h7]
   refine h2.pin _ _ _ ?_
   show(bif Nat.beq 0 0&&obs.any (λq=>Nat.beq q.1 p.1)then ρ p.1 0 else none)=some y
   have:obs.any (λq=>Nat.beq q.1 p.1)=true:=List.any_eq_true.2 ⟨p,hp,by simp⟩
   rw[this];exact h7
  ·obtain⟨y,h5,h6⟩:=h2.obj _ _ _ (hpo.get p hp)
   refine⟨y,h5,((ORep.ren.1 h6).mono (Known.sub λb hb=>?_) λ_ _=>rfl).base λb hb=>(h6.blk_lt (fpO.ren.2 hb)).1⟩
   rcases hb with hb|⟨q,hq,z,h7,h8⟩
   ·exact .inl hb
   ·exact .inr ⟨_,_,_,z,hpo.get q hq,h7,fpO.ren.2 h8⟩
  ·have:=h2.apart _ _ _ _ _ _ x x' b (hpo.get p hp) (hpo.get q hq) h1 h2' (fpO.ren.2 h3) (fpO.ren.2 h4)
   rw[nodupB.inj c1 p hp q hq this]
  ·refine(SRep.ren.1 k2).mono (Known.sub λb hb=>?_)
   rcases hb with hb|⟨q,hq,z,h7,h8⟩
   ·exact .inl hb
   ·exact .inr ⟨_,_,_,z,hpo.get q hq,h7,fpO.ren.2 h8⟩
 cases e with
 | normal=>exact key h1
 | ret=>exact key h1
 | panic ch =>
  obtain⟨rfl,pv,rfl⟩:=h1
  exact⟨h2.defers,hext,pv,rfl⟩
 | _=>exact h1.elim⟩
theorem GC_1 {P:Program}{f:FuncId}{fn:Func}{c:Code}{N:Nat}{ins:List SV}{obs:Obs}{R:Option (Obs×SV)}{rs:ASt→SV→Prop}(hf:P.funcs[f]?=some fn) (hN:fn.ntmps=N) (hr:ReadsS P fn rs) (h:(∀a,SV.d a∈ins→okA a)→(∀k T cs a,(k,AO.box T cs)∈obs→SV.d a∈cs→okA a)→∀M0 w0,Aw P N M0 w0 c (RtO rs obs R) (mk (argSS 0 ins) (lookO1 obs))) (hcf:∀(vs:Array Value) (w:World),(callFunc f vs).run P w=.ok (.enter f vs) w:=by intro _ _;kernel_rfl) (hb:fn.body=some c:=by rfl) (hn:ins.length≤N:=by exact Nat.le_of_ble_eq_true rfl):GCall P f ins obs R:=GCall_enter (hcf:=hcf) (hf:=hf) (hb:=hb) (hN:=hN) (hr:=hr) (hn:=hn) (h:=h)
end Go.Proofs.YtdnijgdmohinlaaGreat.A
namespace Go.Proofs.YtdnijgdmohinlaaGreat.A
open Go Go.RowKit
section
variable {P:Program}{N:Nat}{M0:Nat→Prop}{w0:Base}{ops:Array Oper}{Q:Exit→ASt→Prop}{o:Oper}{l:List Oper}{st:ASt}
def HoldOk (st:ASt):List Operand→List CV→Prop
 | [],[]=>True
 | x::xs,c::cs=>Sub (st.ev x) c.sv∧HoldOk st xs cs
 | _,_=>False
theorem HoldOk.rep {M:Nat→Prop}{w:World}{ρ:Rho}{a:Act}:∀{xs:List Operand}{cs:List CV},HoldOk st xs cs→(∀x∈xs,SRep M w ρ (st.ev x) (a.eval x))→CReps M w ρ cs (xs.map a.eval)
 | [],[],_,_=>⟨rfl,λj a x h=>by simp at h⟩
 | x::xs,b::aa,h,hs=>by
  have ih:=HoldOk.rep (a:=a) h.2 λy hy=>hs y (by simp[hy])
  refine⟨by simp[ih.1],λj c y h1 h2=>?_⟩
  cases j with
  | zero =>
   simp at h1 h2
   subst h1 h2
   exact CV.rep.1 (h.1 _ _ _ _ (hs x (by simp)))
  | succ j=>exact ih.2 j c y (by simpa using h1) (by simpa using h2)
 | [],_::_,h,_=>h.elim
 | _::_,[],h,_=>h.elim
theorem Pu_makeFuncS {f:FuncId}{ys xs:List Operand}(first caps:List CV) (ho:o.op=.makeFunc (.func f) ys.toArray xs.toArray) (hf:HoldOk st ys first) (ha:HoldOk st xs caps):Pu P st o (.fnb f first caps):=Pu_q λB M ρ w a h2 _=>by
 have h3:=hf.rep (a:=a) λx hx=>h2 x (by simp[opsOf,ho,Op.operands];exact .inl hx)
 have h4:=ha.rep (a:=a) λx hx=>h2 x (by simp[opsOf,ho,Op.operands];exact .inr hx)
 refine⟨.func (.func f) (ys.map a.eval).toArray (xs.map a.eval).toArray,?_,_,_,rfl,h3,h4⟩
 simp only[execOp,ho,Instr.makeFunc,Sem.run_bind,Sem.run_pure,Result.andThen_ok]
 simp
theorem rows_flat {M:Nat→Prop}{w:World}{n:Nat}:∀{rows:List (List AV)}{vals:List (List Value)}{q:Nat}{a:AV},Rows M w n vals rows→rows.flatten[q]?=some a→∃x,vals.flatten[q]?=some x∧Rep M w a x∧x.oneCell'=true
 | [],_,q,a,_,h=>by simp at h
 | r::rs,[],q,a,hr,_=>by have:=hr.1;simp at this
 | r::rs,v::vs,q,a,hr,h=>by
  obtain⟨h1,h2,h3⟩:=hr.2 0 r v rfl rfl
  simp only[List.flatten_cons]at h ⊢
  rcases Nat.lt_or_ge q r.length with hq|hq
  ·rw[List.getElem?_append_left hq]at h
   have hqv:q<v.length:=by omega
   rw[List.getElem?_append_left hqv]
   obtain⟨k1,k2⟩:=h3 q a v[q] h (by simp[hqv])
   exact⟨v[q],by simp[hqv],k1,k2⟩
  ·rw[List.getElem?_append_right hq]at h
   rw[List.getElem?_append_right (by omega),show v.length=r.length from by omega]
   refine rows_flat (rows:=rs) ⟨by have:=hr.1;simpa using this,λi r' v' hi hv=>hr.2 (i+1) r' v' (by simpa using hi) (by simpa using hv)⟩ h
theorem rows_of_flat {M:Nat→Prop}{w:World}{n:Nat}:∀{rows:List (List AV)}{L:List Value},(∀r∈rows,r.length=n)→L.length=rows.length*n→(∀(q:Nat) (a:AV) (x:Value),rows.flatten[q]?=some a→L[q]?=some x→Rep M w a x∧x.oneCell'=true)→∃vals,vals.flatten=L∧Rows M w n vals rows
 | [],L,_,hl,_=>⟨[],by simp at hl;simp[hl],rfl,λi r v h=>by simp at h⟩
 | r::rs,L,hn,hl,h=>by
  have hrn:=hn r (by simp)
  simp only[List.length_cons,Nat.add_mul,Nat.one_mul]at hl
  obtain⟨vals,h1,h2⟩:=rows_of_flat (rows:=rs) (L:=L.drop n) (M:=M) (w:=w) (λr' hr'=>hn r' (by simp[hr'])) (by simp;omega) (λq a x hq hx=>by
   rw[List.getElem?_drop]at hx
   refine h (n+q) a x ?_ hx
   simp only[List.flatten_cons]
   rw[List.getElem?_append_right (by omega),show n+q - r.length=q from by omega];exact hq)
  refine⟨L.take n::vals,by simp[h1],by simp[h2.1],λi r' v hi hv=>?_⟩
  cases i with
  | zero =>
   simp at hi hv
   subst hi hv
   refine⟨hrn,by simp;omega,λj a x hj hx=>?_⟩
   have hjl:j<r.length:=(List.getElem?_eq_some_iff.1 hj).1
   rw[List.getElem?_take,if_pos (by omega)]at hx
   exact h j a x (by simp only[List.flatten_cons];rw[List.getElem?_append_left hjl];exact hj) hx
  | succ i=>exact h2.2 i r' v (by simpa using hi) (by simpa using hv)
theorem Pu_lenOw {x:Operand}{t e T:TypeId}{k g n m:Nat}{rows:List (List AV)}(ho:o.op=.call ⟨.builtin .len,#[x],#[t]⟩) (ht:P.underlying t=some (.slice e)) (hx:st.ev x=.ow k g) (hob:st.ob k=some (g,.arr T n rows)) (hm:rows.length=m):Pu P st o (.d (.v (.int .i64 m))):=Pu_q λB M ρ w a h2 h3=>by
 subst hm
 have hm:=h2 x (mem_call ho x (by simp))
 rw[hx]at hm
 obtain⟨v,h4,vals,h5,h6,⟨va,vc,rfl⟩,hl,_⟩:=h3 k g _ hob
 have hy:a.eval x=.slice va rows.length vc:=by
  have:=hm.1
  rw[h4]at this
  exact(Option.some.inj this).symm
 refine⟨.int .i64 rows.length,?_,.v _ ?_⟩
 ·simp[execOp,ho,resolve,invoke,builtin,Builtin.len_,hy,run_underlying ht,Sem.run,goInt]
 ·unfold maxI at hl;simp[vok,inI];omega
theorem Pu_indexOw {t e T:TypeId}{x i:Operand}{k g n j:Nat}{z:Int}{rows:List (List AV)}(ho:o.op=.indexAddr t x i) (ht:P.underlying t=some (.slice e)) (hz:∀w,(sizeOf e).run P w=.ok n w) (hx:st.ev x=.ow k g) (hi:st.ev i=.d (.v (.int .i64 z))) (hob:st.ob k=some (g,.arr T n rows)) (hk:z=j) (hj:j<rows.length):Pu P st o (.bx k g (j*n)):=Pu_q λB M ρ w a h2 h3=>by
 have m:x∈opsOf o∧i∈opsOf o:=by simp[opsOf,ho,Op.operands]
 obtain⟨e2,_⟩:=ev_v h2 m.2 hi
 have hm:=h2 x m.1
 rw[hx]at hm
 obtain⟨v,h4,vals,hown,h6,_,hl,_⟩:=h3 k g _ hob
 have hy:a.eval x=v:=by
  have:=hm.1
  rw[h4]at this
  exact(Option.some.inj this).symm
 subst hk
 rcases hown.2 with⟨rfl,h0⟩|⟨b,cap,cur,rfl,_,hg,hnc,_⟩
 ·omega
 ·refine⟨.pointer (some ⟨b,j*n,none⟩),?_,_,b,h4,rfl,rfl⟩
  simp only[execOp,ho,hy,e2,Instr.indexAt,Instr.sureAddr,Sem.run_bind,asIntOf,Sem.run_pure,Result.andThen_ok,run_underlying ht]
  rw[if_pos ⟨by omega,by omega⟩]
  simp only[Sem.run_bind,hz,Result.andThen_ok,Int.toNat_natCast,add_addr,Sem.run_pure,Nat.zero_add]
theorem arr_at {B:Base}{M:Nat→Prop}{w:World}{ρ:Rho}{h:Value}{T:TypeId}{n b:Nat}{rows:List (List AV)}(hO:ORep B M w ρ h (.arr T n rows)) (hb:blk h=some b):∃cap cur vals,h=.slice (some ⟨b,0,none⟩) rows.length cap∧w.heap[b]?=some (.cells cur T (0,0))∧rows.length≤cap∧cap≤maxLen∧cur.size=cap*n∧cur.toList.take (rows.length*n)=vals.flatten∧Rows M w n vals rows∧rows.length≤maxI∧(B.w.heap.size≤b∨B.l b):=by
 obtain⟨vals,hown,h6,_,hl,hlb⟩:=hO
 rcases hown.2 with⟨rfl,h0⟩|⟨c,cap,cur,rfl,_,hg,hnc,hcm,hsz,htk⟩
 ·simp[blk]at hb
 ·simp only[blk,Option.some.injEq]at hb
  subst hb
  exact⟨cap,cur,vals,rfl,hg,hnc,hcm,hsz,htk,h6,hl,hlb c rfl⟩
theorem Pu_loadArr {t T:TypeId}{x:Operand}{k g off n:Nat}{rows:List (List AV)}{c:AV}(ho:o.op=.load t x) (ht:∀w,(isAgg t).run P w=.ok false w) (hx:st.ev x=.bx k g off) (hob:st.ob k=some (g,.arr T n rows)) (hs:rows.flatten[off]?=some c):Pu P st o (.d c):=Pu_q λB M ρ w a h2 h3=>by
 have hm:=h2 x (by simp[opsOf,ho,Op.operands])
 rw[hx]at hm
 obtain⟨y,b,h4,h5,h6⟩:=hm
 obtain⟨y',h7,hO⟩:=h3 k g _ hob
 rw[h4]at h7;cases h7
 obtain⟨cap,cur,vals,rfl,hg,hnc,hcm,hsz,htk,hr,hl,_⟩:=arr_at hO h5
 obtain⟨v,h8,h9,h10⟩:=rows_flat hr hs
 have hv:cur[off]?=some v:=by
  rw[←htk,List.getElem?_take]at h8
  split at h8
  ·simpa using h8
  ·cases h8
 refine⟨v,?_,h9⟩
 have hc:w.cell? ⟨b,off,none⟩=some v:=by simp[World.cell?,hg,hv]
 simp[execOp,ho,h6,Instr.loadAt,Instr.sureAddr,loadVar,ht,load,Sem.run,hc,Sem.run_bind]
theorem Pu_loadArrN {t T:TypeId}{x:Operand}{k g off n m:Nat}{rows:List (List AV)}{r:List AV}(ho:o.op=.load t x) (ht:∀w,(isAgg t).run P w=.ok true w) (hz:∀w,(sizeOf t).run P w=.ok m w) (hx:st.ev x=.bx k g off) (hob:st.ob k=some (g,.arr T n rows)) (hs:(rows.flatten.drop off).take m=r) (hm':r.length=m):Pu P st o (.d (.row r)):=Pu_q λB M ρ w a h2 h3=>by
 have hm:=h2 x (by simp[opsOf,ho,Op.operands])
 rw[hx]at hm
 obtain⟨y,b,h4,h5,h6⟩:=hm
 obtain⟨y',h7,hO⟩:=h3 k g _ hob
 rw[h4]at h7;cases h7
 obtain⟨cap,cur,vals,rfl,hg,hnc,hcm,hsz,htk,hr,hl,_⟩:=arr_at hO h5
 have hcell:∀j,j<m→∃c v,r[j]?=some c∧cur[off+j]?=some v∧Rep M w c v∧v.oneCell'=true:=λj hj=>by
  have h12:r[j]?=some (r[j]'(by omega)):=by simp[hm',hj]
  have h13:rows.flatten[off+j]?=r[j]?:=by rw[←hs,List.getElem?_take,if_pos hj,List.getElem?_drop]
  rw[h12]at h13
  obtain⟨v,h8,h9,h10⟩:=rows_flat hr h13
  refine⟨_,v,h12,?_,h9,h10⟩
  rw[←htk,List.getElem?_take]at h8
  split at h8
  ·simpa using h8
  ·cases h8
 have gd:∀j v,cur[j]?=some v→cur.getD j undef=v:=λj v hv=>by simp[Array.getD_eq_getD_getElem?,hv]
 have h1:=run_cells (P:=P) (w:=w) (b:=b) m off 0 (λj=>cur.getD (off+j) undef) #[] (λj hj=>by
  obtain⟨c,v,_,hv,_⟩:=hcell j hj
  rw[Nat.zero_add,gd _ _ hv]
  simp[World.cell?,hg,hv])
 refine⟨.agg ((List.range m).map λj=>cur.getD (off+j) undef).toArray,?_,.row _ _ (by simp[hm']) (λx hx=>?_) (λj c x h12 h13=>?_)⟩
 ·simp only[execOp,ho,h6,Instr.loadAt,Instr.sureAddr,loadVar,Sem.run_bind,Sem.run_pure,Result.andThen_ok,ht,hz,loadCells,if_true,h1]
  simp
 ·simp only[List.mem_map,List.mem_range]at hx
  obtain⟨j,hj,rfl⟩:=hx
  obtain⟨c,v,_,hv,_,h10⟩:=hcell j hj
  rw[gd _ _ hv];exact h10
 ·have hj:j<m:=by rw[←hm'];exact(List.getElem?_eq_some_iff.1 h12).1
  obtain⟨c',v,hc',hv,h9,_⟩:=hcell j hj
  rw[h12]at hc';cases hc'
  rw[List.getElem?_map,List.getElem?_range hj]at h13
  simp only[Option.map_some,Option.some.injEq]at h13
  rw[gd _ _ hv]at h13
  subst h13
  exact h9
theorem store_arr {t T:TypeId}{x y:Operand}{k g off n m:Nat}{rows rows':List (List AV)}{r:List AV}(hg:o.guard=none) (hd:o.dst=none) (ho:o.op=.store t x y) (hz:∀w,(sizeOf t).run P w=.ok m w) {a:Act}{w:World}{ρ:Rho}(hsim:SimR N M0 w0 st ρ a w) (h6:∃y b,ρ k g=some y∧blk y=some b∧a.eval x=.pointer (some ⟨b,off,none⟩)) (hob:st.ob k=some (g,.arr T n rows))
  (hr:Cells (Mt M0 ρ st.ob) w r (a.eval y).cells.toList) (hn:r.length=m) (hoff:off+m≤rows.length*n) (hlen:rows'.length=rows.length) (hun:∀q∈rows',q.length=n) (hfl:rows'.flatten=rows.flatten.take off++r++rows.flatten.drop (off+m))
  (h:Al P N M0 w0 ops Q l (st.put k g (.arr T n rows'))):wpList P ops (QL N M0 w0 Q) (o::l) a w:=by
 obtain⟨u,b,h4,h5,h6⟩:=h6
 obtain⟨u',h7,hO⟩:=hsim.obj k g _ hob
 rw[h4]at h7;cases h7
 obtain⟨cap,cur,vals,rfl,hgb,hnc,hcm,hsz,htk,hrw,hl,hlb⟩:=arr_at hO h5
 have hcn:rows.length*n≤cap*n:=Nat.mul_le_mul_right _ hnc
 have hvl:vals.flatten.length=rows.length*n:=by rw[←htk];simp;omega
 have hrn:∀q∈rows,q.length=n:=λq hq=>by
  obtain⟨i,hi,rfl⟩:=List.getElem_of_mem hq
  have hi':i<vals.length:=by rw[hrw.1];exact hi
  exact(hrw.2 i _ vals[i] (by simp[hi]) (by simp[hi'])).1
 have hfr:=flat_len hrn
 have hul:(a.eval y).cells.toList.length=m:=by rw[hr.1,hn]
 obtain⟨w',vs',k1,k2,k3,k4,k5,k6,k7,k8,k9⟩:=run_storeRow (P:=P) b off T (a.eval y).cells.toList 0 w cur hgb (by omega) (λv hv=>by
  obtain⟨j,hj,rfl⟩:=List.getElem_of_mem hv
  have hj':j<r.length:=by rw[←hr.1];exact hj
  exact(hr.2 j r[j] _ (by simp[hj']) (by rw[List.getElem?_eq_getElem hj])).2)
 have hs2:=hsim.mod (w':=w') hob h4 ⟨k7,k8,k9⟩ (by omega) (λc hc' hne=>k5 c (λe=>hne (by simp[blk,e]))) (o':=.arr T n rows') (λM' hK _=>by
  obtain⟨vals',hv1,hv2⟩:=rows_of_flat (rows:=rows') (L:=vs'.toList.take (rows.length*n)) (M:=M') (w:=w') hun (by rw[hlen];simp;omega) (λq c z hq hz'=>by
   rw[hfl]at hq
   rw[List.getElem?_take]at hz'
   split at hz'
   ·rename_i hqn
    have hz2:vs'[q]?=some z:=by simpa using hz'
    rw[k4 q,Nat.add_zero]at hz2
    by_cases e1:q<off
    ·rw[List.append_assoc,List.getElem?_append_left (by rw[List.length_take];omega),List.getElem?_take,if_pos e1]at hq
     rw[if_neg (by omega)]at hz2
     obtain⟨z',k10,k11,k12⟩:=rows_flat hrw hq
     rw[←htk,List.getElem?_take,if_pos hqn]at k10
     have:cur[q]?=some z':=by simpa using k10
     rw[hz2]at this;cases this
     exact⟨k11.mono hK,k12⟩
    ·by_cases e2:q<off+m
     ·rw[List.getElem?_append_left (by rw[List.length_append,List.length_take];omega),List.getElem?_append_right (by rw[List.length_take];omega)]at hq
      simp only[List.length_take,Nat.min_eq_left (show off≤rows.flatten.length by omega)]at hq
      rw[if_pos (by omega)]at hz2
      obtain⟨k11,k12⟩:=hr.2 _ c z hq hz2
      exact⟨k11.mono hK,k12⟩
     ·rw[List.getElem?_append_right (by rw[List.length_append,List.length_take];omega)]at hq
      simp only[List.length_append,List.length_take,Nat.min_eq_left (show off≤rows.flatten.length by omega),List.getElem?_drop]at hq
      rw[show off+m+(q - (off+r.length))=q from by omega]at hq
      rw[if_neg (by omega)]at hz2
      obtain⟨z',k10,k11,k12⟩:=rows_flat hrw hq
      rw[←htk,List.getElem?_take,if_pos hqn]at k10
      have:cur[q]?=some z':=by simpa using k10
      rw[hz2]at this;cases this
      exact⟨k11.mono hK,k12⟩
   ·cases hz')
  exact⟨vals',⟨by rw[hv1,hlen];simp;omega,.inr ⟨b,cap,vs',by rw[hlen],Nat.zero_le _,k2,by rw[hlen];exact hnc,hcm,by rw[k3];exact hsz,by rw[hv1,hlen]⟩⟩,hv2,⟨_,cap,by rw[hlen]⟩,by rw[hlen];exact hl,λc hc=>by simp only[blk,Option.some.injEq]at hc;subst hc;exact hlb⟩)
 refine wpList_plain hg λK hK=>wp_upon ?_
 have e:(execOp a.eval o).run P w=.ok .skip w':=by
  simp only[execOp,ho,h6,Instr.storeAt,Instr.sureAddr,storeVar,Sem.run_bind,Sem.run_pure,Result.andThen_ok,hz]
  rw[if_neg (by
       have:(a.eval y).cells.size=m:=by rw[←hul];simp
       simp;omega)]
  simp only[Sem.run_bind,Sem.run_pure,Result.andThen_ok,k1]
 rw[e]
 refine hK _ _ (h.out _ _ ⟨ρ,?_⟩)
 rw[hd]
 exact hs2
theorem Al_storeArr {t T:TypeId}{x y:Operand}{k g off n m:Nat}{rows:List (List AV)}{c:AV}(rows':List (List AV)) (ho:o.op=.store t x y) (hg:o.guard=none) (hd:o.dst=none) (hc:conB o=true) (hz:∀w,(sizeOf t).run P w=.ok m w) (hx:st.ev x=.bx k g off) (hob:st.ob k=some (g,.arr T n rows)) (hy:st.ev y=.d c) (hcb:cellB c=true) (hn:(cellsA c).length=m) (hoff:off+m≤rows.length*n) (hlen:rows'.length=rows.length) (hun:∀q∈rows',q.length=n) (hfl:rows'.flatten=rows.flatten.take off++cellsA c++rows.flatten.drop (off+m))
  (h:Al P N M0 w0 ops Q l (st.put k g (.arr T n rows'))):Al P N M0 w0 ops Q (o::l) st:=by
 refine⟨?_⟩
 rintro a w ⟨ρ,hsim⟩
 have hmem:x∈opsOf o∧y∈opsOf o:=by simp[opsOf,ho,Op.operands]
 have hmx:=hsim.ev hc x hmem.1
 have hmy:=hsim.ev hc y hmem.2
 rw[hx]at hmx
 rw[hy]at hmy
 exact store_arr hg hd ho hz hsim hmx hob (Rep.cells hmy hcb) hn hoff hlen hun hfl h
theorem le_owncell {k k2 g j:Nat}{T e:TypeId}{cs:List SV}{n:Nat}(hkk:Nat.beq k k2=false) (hob:st.ob k=some (g,.box T cs)) (hj:cs[j]?=some (.d (.v (.slice none 0 0)))) {X:Act→World→Prop}(h:∀g2,∀a w,Sim N M0 w0 ((st.put k2 g2 (.arr e n [])).put k g (.box T (cs.set j (.ow k2 g2)))) a w→X a w):∀a w,Sim N M0 w0 st a w→X a w:=by
 rintro a w ⟨ρ,hs⟩
 obtain⟨g',ρ',h1,h2⟩:=hs.upd (w':=w) k2 ⟨rfl,rfl,rfl⟩ (Nat.le_refl _) (λ_ _ _=>rfl) (x':=.slice none 0 0) (o':=.arr e n []) (λb hb=>by simp[blk]at hb)
  (λM' ρ' _ _=>⟨[],World.ownsRow_nil w _ e n,⟨rfl,λi r v h=>by simp at h⟩,⟨none,0,rfl⟩,by simp,λb hb=>by simp[blk]at hb⟩)
 have hob':(st.put k2 g' (.arr e n [])).ob k=some (g,.box T cs):=by
  show(bif Nat.beq k k2 then _ else st.ob k)=_
  rw[hkk];exact hob
 obtain⟨y,hy,b,vs,rfl,hB,hh,hsz,hcs⟩:=h1.obj k g _ hob'
 refine h g' a w ⟨ρ',h1.mod hob' hy ⟨rfl,rfl,rfl⟩ (Nat.le_refl _) (λ_ _ _=>rfl) (λM' hK _=>⟨b,vs,rfl,hB,hh,by rw[List.length_set];exact hsz,λi q z hq hz=>?_⟩)⟩
 rw[List.getElem?_set]at hq
 by_cases e:j=i
 ·subst e
  rw[if_pos rfl]at hq
  split at hq
  ·simp only[Option.some.injEq]at hq
   subst hq
   have:=(hcs j _ z hj hz).1
   obtain rfl:=(rep_v this).1
   exact⟨⟨h2,rfl⟩,rfl⟩
  ·cases hq
 ·rw[if_neg e]at hq
  exact⟨(hcs i q z hq hz).1.mono hK,(hcs i q z hq hz).2⟩
theorem Aw_owncell {c:Code}{k k2 g:Nat}(j:Nat) {T e:TypeId}{cs:List SV}{n:Nat}(hkk:Nat.beq k k2=false) (hob:st.ob k=some (g,.box T cs)) (hj:cs[j]?=some (.d (.v (.slice none 0 0)))) (h:∀g2,Aw P N M0 w0 c Q ((st.put k2 g2 (.arr e n [])).put k g (.box T (cs.set j (.ow k2 g2))))):Aw P N M0 w0 c Q st:=⟨le_owncell hkk hob hj λg2=>(h g2).out⟩
theorem le_frzc {k g kb gb:Nat}(j:Nat) {T Tb:TypeId}{n:Nat}{rows:List (List AV)}{cs:List SV}(hnl:∀(a:Act) (w:World) (ρ:Rho),SimR N M0 w0 st ρ a w→∀v b,ρ k g=some v→blk v=some b→¬w0.l b) (is:List Nat) (hob:st.ob k=some (g,.arr T n rows)) (hkk:Nat.beq kb k=false) (hobb:st.ob kb=some (gb,.box Tb cs)) (hj:cs[j]?=some (.ow k g)) (his:AllOw st k g is):Le N M0 w0 st ((st.frz k is (.sl n rows)).put kb gb (.box Tb (cs.set j (.d (.sl n rows))))):=by
 rintro a w ⟨ρ,hs⟩
 obtain⟨h1,v,hv,hr⟩:=hs.frz (hnl a w ρ hs) is hob his
 have hob':(st.frz k is (.sl n rows)).ob kb=some (gb,.box Tb cs):=by
  show(bif Nat.beq kb k then none else st.ob kb)=_
  rw[hkk];exact hobb
 obtain⟨y,hy,b,vs,rfl,hB,hh,hsz,hcs⟩:=h1.obj kb gb _ hob'
 refine⟨ρ,h1.mod hob' hy ⟨rfl,rfl,rfl⟩ (Nat.le_refl _) (λ_ _ _=>rfl) (λM' hK _=>⟨b,vs,rfl,hB,hh,by rw[List.length_set];exact hsz,λi q z hq hz=>?_⟩)⟩
 rw[List.getElem?_set]at hq
 by_cases e:j=i
 ·subst e
  rw[if_pos rfl]at hq
  split at hq
  ·simp only[Option.some.injEq]at hq
   subst hq
   have h5:=hcs j _ z hj hz
   have h6:=h5.1.1
   rw[hv]at h6;cases h6
   exact⟨hr.mono hK,h5.2⟩
  ·cases hq
 ·rw[if_neg e]at hq
  exact⟨(hcs i q z hq hz).1.mono hK,(hcs i q z hq hz).2⟩
theorem Aw_frzc {c:Code}{k g kb gb:Nat}(j:Nat) {T Tb:TypeId}{n:Nat}{rows:List (List AV)}{cs:List SV}(hnl:∀b,¬w0.l b) (is:List Nat) (hob:st.ob k=some (g,.arr T n rows)) (hkk:Nat.beq kb k=false) (hobb:st.ob kb=some (gb,.box Tb cs)) (hj:cs[j]?=some (.ow k g)) (his:AllOw st k g is) (h:Aw P N M0 w0 c Q ((st.frz k is (.sl n rows)).put kb gb (.box Tb (cs.set j (.d (.sl n rows)))))):Aw P N M0 w0 c Q st:=Aw_le (le_frzc j (λ_ _ _ _ _ b _ _=>hnl b) is hob hkk hobb hj his) h
theorem lent_apart {k g:Nat}{T T1:TypeId}{n:Nat}{rows:List (List AV)}{cs1:List SV}(hlent:∀b,w0.l b→w0.p 1000 0=some (.pointer (some ⟨b,0,none⟩))) (hob:st.ob k=some (g,.arr T n rows)) (hk:Nat.beq k 1000=false) (h1000:st.ob 1000=some (0,.box T1 cs1)) (a:Act) (w:World) (ρ:Rho) (hs:SimR N M0 w0 st ρ a w):∀v b,ρ k g=some v→blk v=some b→¬w0.l b:=λv b hv hb hl=>by
 have h1:=hs.pin _ _ _ (hlent b hl)
 have:=hs.apart k g _ 1000 0 _ v _ b hob h1000 hv h1 hb rfl
 subst this
 simp at hk
theorem Aw_frzM {c:Code}{k g:Nat}{T T1:TypeId}{n:Nat}{rows:List (List AV)}{cs1:List SV}(hlent:∀b,w0.l b→w0.p 1000 0=some (.pointer (some ⟨b,0,none⟩))) (is:List Nat) (hob:st.ob k=some (g,.arr T n rows)) (hk:Nat.beq k 1000=false) (h1000:st.ob 1000=some (0,.box T1 cs1)) (his:AllOw st k g is) (h:Aw P N M0 w0 c Q (st.frz k is (.sl n rows))):Aw P N M0 w0 c Q st:=Aw_le (λa w ⟨ρ,hs⟩=>⟨ρ,(hs.frz (lent_apart hlent hob hk h1000 a w ρ hs) is hob his).1⟩) h
def ResN1 (r n r':Nat) (st:ASt) (res:AV):Prop:=∃k g off T cs rw a,st.sl r=.bx k g off∧st.ob k=some (g,.box T cs)∧(cs.drop off).take n=rw.map .d∧rw.length=n∧Sub (st.sl r') (.d a)∧res=.tup [.row rw,a]
theorem Reads.cN1 {fn:Func}{r t n r':Nat}(h:fn.results=#[.cell r t,.tmp r']) (ht:∀w,(isAgg t).run P w=.ok true w) (hz:∀w,(sizeOf t).run P w=.ok n w):Reads P fn (ResN1 r n r'):=⟨λ{N M0 w0 st ρ a w res} hs ⟨k,g,off,T,cs,rw',b,h1,h2,h3,h4,h5,h6⟩=>by
 have hm:=hs.slot r
 rw[h1]at hm
 obtain⟨y,b',k1,k2,k3⟩:=hm
 obtain⟨y',k4,hO⟩:=hs.obj k g _ h2
 rw[k1]at k4;cases k4
 obtain⟨v,k5,k6⟩:=loadvarN ht hz hO k2 h3 h4
 refine⟨.tuple #[v,a.tmps.getD r' undef],?_,?_⟩
 ·have ha:(asAddr (a.tmps.getD r undef)).run P w=.ok ⟨b',off,none⟩ w:=by rw[k3];rfl
  rw[Array.getD_eq_getD_getElem?]at ha
  simp[results,h,Sem.run_bind,ha,k5,Array.getD_eq_getD_getElem?]
 ·rw[h6]
  exact .tup _ [_,_] rfl λj c x h7 h8=>by
   match j with
   | 0=>simp at h7 h8;subst h7 h8;exact k6.mono (Known.sub λc hc=>.inl hc)
   | 1=>simp at h7 h8;subst h7 h8;rw[←Array.getD_eq_getD_getElem?];exact hs.res h5
   | j+2=>simp at h7⟩
def SubL:List SV→List SV→Prop
 | [],[]=>True
 | s::r,s'::r'=>Sub s s'∧SubL r r'
 | _,_=>False
theorem SubL.get:∀{cs cs':List SV},SubL cs cs'→cs.length=cs'.length∧∀(j:Nat) (s':SV),cs'[j]?=some s'→∃s,cs[j]?=some s∧Sub s s'
 | [],[],_=>⟨rfl,λj s' h=>by simp at h⟩
 | s::r,s'::r',h=>by
  obtain⟨h1,h2⟩:=SubL.get h.2
  refine⟨by simp[h1],λj t ht=>?_⟩
  cases j with
  | zero=>simp at ht;subst ht;exact⟨s,rfl,h.1⟩
  | succ j=>obtain⟨d,h3,h4⟩:=h2 j t (by simpa using ht);exact⟨d,by simpa using h3,h4⟩
 | [],_::_,h=>h.elim
 | _::_,[],h=>h.elim
theorem le_box {k g:Nat}{T:TypeId}{cs:List SV}(cs':List SV) (hob:st.ob k=some (g,.box T cs)) (h:SubL cs cs'):Le N M0 w0 st (st.put k g (.box T cs')):=by
 rintro a w ⟨ρ,hs⟩
 obtain⟨h1,h2⟩:=h.get
 obtain⟨y,hy,b,vs,rfl,hB,hh,hsz,hcs⟩:=hs.obj k g _ hob
 refine⟨ρ,hs.mod hob hy ⟨rfl,rfl,rfl⟩ (Nat.le_refl _) (λ_ _ _=>rfl) (λM' hK _=>⟨b,vs,rfl,hB,hh,by omega,λj s' z hj hz=>?_⟩)⟩
 obtain⟨s,h3,h4⟩:=h2 j s' hj
 exact⟨h4 _ _ _ _ ((hcs j s z h3 hz).1.mono hK),(hcs j s z h3 hz).2⟩
theorem Aw_boxle {c:Code}{k g:Nat}{T:TypeId}{cs:List SV}(cs':List SV) (hob:st.ob k=some (g,.box T cs)) (h:SubL cs cs') (hc:Aw P N M0 w0 c Q (st.put k g (.box T cs'))):Aw P N M0 w0 c Q st:=Aw_le (le_box cs' hob h) hc
end
end Go.Proofs.YtdnijgdmohinlaaGreat.A
namespace Go.Proofs.YtdnijgdmohinlaaGreat.A
open Go Go.RowKit
structure Ad (P:Program) (N:Nat) (M0:Nat→Prop) (w0:Base) (ops:Array Oper) (Q:Exit→ASt→Prop) (fuel:Nat) (listed:Array Bool) (st:ASt):Prop where
 out:∀a w,Sim N M0 w0 st a w→wpAny P .any ops (QL N M0 w0 Q) fuel listed a w
def PuI (P:Program) (st:ASt) (o:Oper) (s:SV):Prop :=
 ∀(M:Nat→Prop) (ρ:Rho) (w:World) (a:Act),(∀x∈opsOf o,SRep M w ρ (st.ev x) (a.eval x))→∃v,SRep M w ρ s v∧∀w2,(execOp a.eval o).run P w2=.ok (.value v) w2
def PanicFree (Q:Exit→ASt→Prop) (d:Nat):Prop:=∀ch st,Q (.panic ch) st→Q (.panic ch) (st.set d .any)
section
variable {P:Program}{N:Nat}{M0:Nat→Prop}{w0:Base}{ops:Array Oper}{Q:Exit→ASt→Prop}{o:Oper}{l:List Oper}{st:ASt}
theorem SimR.unput {ρ:Rho}{a:Act}{w:World}{d:Nat}{v:Value}(h:SimR N M0 w0 st ρ (a.put (some d) v) w):SimR N M0 w0 (st.set d .any) ρ a w where
 size:=by have:=h.size;simpa [Act.put]using this
 defers:=h.defers
 slot i:=by
  show SRep _ _ _ (bif Nat.beq i d then .any else st.sl i) _
  cases hb:Nat.beq i d with
  | true=>trivial
  | false =>
   have:=h.slot i
   rw[getD_put,if_neg (λe=>by simp only[Option.some.injEq]at e;rw[e.1]at hb;simp at hb)]at this
   exact this
 obj:=h.obj
 apart:=h.apart
 gens:=h.gens
 base:=h.base
 ext:=h.ext
 pin:=h.pin
theorem Aw_drawn {id:Nat}{l:List Oper}(hm:P.follows .mixedOrders=true) (h:Ad P N M0 w0 l.toArray Q l.length (List.replicate l.length false).toArray st):Aw P N M0 w0 (.region id l.toArray true) Q st:=⟨λa w ⟨ρ,hs⟩=>wp_region_any hm (by
 have:=h.out a {w with drawn:=w.drawn+1} ⟨ρ,hs.grow (Ev.Ext.refl w).tick⟩
 simpa using this)⟩
theorem Ad_take {fuel:Nat}{listed:Array Bool}(i:Nat) {d:Nat}{s:SV}(hi:ops[i]?=some o) (hP:PuI P st o s) (hg:o.guard=none) (hd:o.dst=some d) (hN:d<N) (hc:conB o=true) (hns:Region.noSelect ops=true) (hf:Region.free .any ops listed i=true) (hr:(Region.ready .any ops listed).contains i=true) (hQ:PanicFree Q d)
  (h:Ad P N M0 w0 ops Q fuel (listed.setIfInBounds i true) (st.set d s)):Ad P N M0 w0 ops Q (fuel+1) listed st:=⟨λa w ⟨ρ,hs⟩=>by
 obtain⟨v,hv,hrun⟩:=hP _ ρ w a (hs.ev hc)
 refine wpAny_take (v:=v) hi hns hf hr (λc a2 w2 ⟨st2,h1,ρ2,h2⟩=>⟨_,hQ c st2 h1,ρ2,SimR.unput (by rw[hd]at h2;exact h2)⟩) (.inl ⟨by simp[Region.wanted,hg],hrun⟩) ?_
 refine h.out _ _ ⟨ρ,?_⟩
 rw[hd]
 exact hs.set hN hv⟩
theorem Ad_t {fuel:Nat}{listed:Array Bool}{d:Nat}{s:SV}(i:Nat) (hi:ops[i]?=some o) (hP:PuI P st o s) (h:Ad P N M0 w0 ops Q fuel (listed.setIfInBounds i true) (st.set d s)) (hg:o.guard=none:=by rfl) (hd:o.dst=some d:=by rfl) (hN:d<N:=by decide) (hc:conB o=true:=by kernel_rfl) (hns:Region.noSelect ops=true:=by kernel_rfl) (hf:Region.free .any ops listed i=true:=by kernel_rfl) (hr:(Region.ready .any ops listed).contains i=true:=by kernel_rfl) (hQ:PanicFree Q d:=by exact λ_ _ h=>h):Ad P N M0 w0 ops Q (fuel+1) listed st:=Ad_take (i:=i) (hi:=hi) (hP:=hP) (hg:=hg) (hd:=hd) (hN:=hN) (hc:=hc) (hns:=hns) (hf:=hf) (hr:=hr) (hQ:=hQ) (h:=h)
theorem wp_turn {a:Act}{w:World}{K K':Act→World→Prop}{R R':Exit→Act→World→Prop}(h:∀a w,K a w→K' a w) (hR:∀c a w,R (.panic c) a w→R' (.panic c) a w) (hL:LetsOut R→LetsOut R') (hh:o.wp P a w K R):o.wp P a w K' R':=by
 unfold Oper.wp at *
 generalize (execOp a.eval o).run P w=r at *
 cases r with
 | ok n w' =>
  cases n<;>simp only[Oper.upon]at hh ⊢
  case value=>exact h _ _ hh
  case skip=>exact h _ _ hh
  case defer=>exact h _ _ hh
  case enter=>exact Calls.mono hh (λe w'' he=>by
   cases e with
   | returned v=>exact h _ _ he
   | panicked c=>exact hR _ _ _ he
   | outgrown=>exact hL he)
  case row=>exact Go.Rows.mono hh (λ_ _ he=>h _ _ he)
 | halt x w' =>
  cases x<;>simp only[Oper.upon]at hh ⊢
  case panic=>exact hR _ _ _ hh
theorem wpOp_of_list {i:Nat}{a:Act}{w:World}{R R':Exit→Act→World→Prop}{K:Act→World→Prop}(hi:ops[i]?=some o) (h:wpList P ops R [o] a w) (hK:∀a w,R .normal a w→K a w) (hR:∀c a w,R (.panic c) a w→R' (.panic c) a w) (hL:LetsOut R→LetsOut R'):wpOp P ops R' i K a w:=by
 unfold wpList at h
 unfold wpOp
 simp only[hi]
 split
 ·rename_i hw
  rw[if_pos hw]at h
  rcases h with h|⟨h1,h2⟩
  ·exact .inl (wp_turn (λa w h=>hK a w h) hR hL h)
  ·exact .inr ⟨h1,hL h2⟩
 ·rename_i hw
  rw[if_neg hw]at h
  exact hK _ _ h
def AdNext (P:Program) (N:Nat) (M0:Nat→Prop) (w0:Base) (ops:Array Oper) (Q:Exit→ASt→Prop) (fuel:Nat) (listed:Array Bool) (st:ASt):List Nat→Prop
 | []=>True
 | i::r=>(∃o,ops[i]?=some o∧Al P N M0 w0 ops (Then (Ad P N M0 w0 ops Q fuel (listed.setIfInBounds i true)) Q) [o] st)∧AdNext P N M0 w0 ops Q fuel listed st r
theorem AdNext.get {fuel:Nat}{listed:Array Bool}:∀{l:List Nat},AdNext P N M0 w0 ops Q fuel listed st l→∀i∈l,∃o,ops[i]?=some o∧Al P N M0 w0 ops (Then (Ad P N M0 w0 ops Q fuel (listed.setIfInBounds i true)) Q) [o] st
 | [],_,i,h=>by cases h
 | j::r,h,i,hi=>by
  rcases List.mem_cons.1 hi with rfl|hi
  ·exact h.1
  ·exact h.2.get i hi
theorem Ad_all {fuel:Nat}{listed:Array Bool}(rs:List Nat) (hr:Region.ready .any ops listed=rs) (hne:rs≠[]) (h:AdNext P N M0 w0 ops Q fuel listed st rs):Ad P N M0 w0 ops Q (fuel+1) listed st:=⟨λa w hs=>wpAny_all hr hne λi hi=>by
 obtain⟨o,ho,hal⟩:=h.get i hi
 refine wpOp_of_list ho (hal.out a w hs) (λa' w' ⟨st',h1,h2⟩=>h1.out a' w' h2) (λc a' w' h=>h) (λ⟨a',w',h⟩=>⟨a',w',h⟩)⟩
theorem Ad_one {fuel:Nat}{listed:Array Bool}(i:Nat) (hi:ops[i]?=some o) (hr:Region.ready .any ops listed=[i]) (h:Al P N M0 w0 ops (Then (Ad P N M0 w0 ops Q fuel (listed.setIfInBounds i true)) Q) [o] st):Ad P N M0 w0 ops Q (fuel+1) listed st:=Ad_all [i] hr (by simp) ⟨⟨o,hi,h⟩,trivial⟩
theorem Ad_o {fuel:Nat}{listed:Array Bool}(i:Nat) (h:Al P N M0 w0 ops (Then (Ad P N M0 w0 ops Q fuel (listed.setIfInBounds i true)) Q) [o] st) (hi:ops[i]?=some o:=by rfl) (hr:Region.ready .any ops listed=[i]:=by kernel_rfl):Ad P N M0 w0 ops Q (fuel+1) listed st:=Ad_one (i:=i) (hi:=hi) (hr:=hr) (h:=h)
theorem Ad_two {fuel:Nat}{listed:Array Bool}(i j:Nat) {o':Oper}(hi:ops[i]?=some o) (hj:ops[j]?=some o') (hr:Region.ready .any ops listed=[i,j]) (h:Al P N M0 w0 ops (Then (Ad P N M0 w0 ops Q fuel (listed.setIfInBounds i true)) Q) [o] st) (h':Al P N M0 w0 ops (Then (Ad P N M0 w0 ops Q fuel (listed.setIfInBounds j true)) Q) [o'] st):Ad P N M0 w0 ops Q (fuel+1) listed st:=Ad_all [i,j] hr (by simp) ⟨⟨o,hi,h⟩,⟨o',hj,h'⟩,trivial⟩
theorem Ad_done {fuel:Nat}{listed:Array Bool}(hr:Region.ready .any ops listed=[]) (h:Q .normal st):Ad P N M0 w0 ops Q fuel listed st:=⟨λa w hs=>wpAny_done hr ⟨st,h,hs⟩ fuel⟩
theorem Ad_d {fuel:Nat}{listed:Array Bool}(h:Q .normal st) (hr:Region.ready .any ops listed=[]:=by kernel_rfl):Ad P N M0 w0 ops Q fuel listed st:=Ad_done (hr:=hr) (h:=h)
theorem PuI_move {x:Operand}{s:SV}(ho:o.op=.move x∨o.op=.assign x) (hs:st.ev x=s):PuI P st o s:=λM ρ w a h2=>by
 refine⟨a.eval x,?_,λw2=>?_⟩
 ·have:=h2 x (by rcases ho with ho|ho<;>simp[opsOf,ho,Op.operands])
  rwa [hs]at this
 ·rcases ho with ho|ho<;>simp[execOp,ho,Sem.run]
theorem PuI_nilb {x:Operand}{k g off:Nat}(ho:o.op=.nilCheck x) (hx:st.ev x=.bx k g off):PuI P st o (.bx k g off):=λM ρ w a h2=>by
 have hm:=h2 x (by simp[opsOf,ho,Op.operands])
 rw[hx]at hm
 obtain⟨y,b,h4,h5,h6⟩:=hm
 refine⟨.pointer (some ⟨b,off,none⟩),⟨y,b,h4,h5,rfl⟩,λw2=>?_⟩
 simp[execOp,ho,h6,Sem.run]
theorem PuI_nb {x:Operand}{k g off:Nat}(ho:o.op=.nilCheck x:=by rfl) (hx:st.ev x=.bx k g off:=by rfl):PuI P st o (.bx k g off):=PuI_nilb (ho:=ho) (hx:=hx)
theorem PuI_fieldb {t:TypeId}{x:Operand}{i:Nat}{fs:Array Field}{fd:Field}{n k g off:Nat}(fo:Nat) (ho:o.op=.fieldAddr t x i) (ht:P.underlying t=some (.struct fs)) (hf:fs[i]?=some fd) (hoff:fd.offset=fo) (hz:∀w,(sizeOf fd.type).run P w=.ok (n+1) w) (hx:st.ev x=.bx k g off):PuI P st o (.bx k g (off+fo)):=λM ρ w a h2=>by
 have hm:=h2 x (by simp[opsOf,ho,Op.operands])
 rw[hx]at hm
 obtain⟨y,b,h4,h5,h6⟩:=hm
 refine⟨.pointer (some ⟨b,off+fo,none⟩),⟨y,b,h4,h5,rfl⟩,λw2=>?_⟩
 subst hoff
 simp only[execOp,ho,h6,Instr.fieldAt,Sem.run_bind,run_underlying ht,Result.andThen_ok,hf,Instr.sureAddr,Sem.run_pure,fieldPlace,hz]
 rw[if_neg (by omega)]
 simp[add_addr,Sem.run]
theorem PuI_fb {t:TypeId}{x:Operand}{i:Nat}{fs:Array Field}{fd:Field}{n k g off:Nat}(fo:Nat) (ht:P.underlying t=some (.struct fs)) (hz:∀w,(sizeOf fd.type).run P w=.ok (n+1) w) (ho:o.op=.fieldAddr t x i:=by rfl) (hf:fs[i]?=some fd:=by rfl) (hoff:fd.offset=fo:=by rfl) (hx:st.ev x=.bx k g off:=by rfl):PuI P st o (.bx k g (off+fo)):=PuI_fieldb (fo:=fo) (ho:=ho) (ht:=ht) (hf:=hf) (hoff:=hoff) (hz:=hz) (hx:=hx)
theorem PuI_extract {x:Operand}{i:Nat}{aa:List AV}{b:AV}(ho:o.op=.extract x i) (hx:st.ev x=.d (.tup aa)) (hb:aa[i]?=some b):PuI P st o (.d b):=λM ρ w a h2=>by
 have hm:=h2 x (by simp[opsOf,ho,Op.operands])
 rw[hx]at hm
 generalize hy:a.eval x=y at hm
 cases hm with
 | tup cs vs hl hr =>
  have hj:i<vs.length:=by rw[hl];exact(List.getElem?_eq_some_iff.1 hb).1
  exact⟨vs[i],hr i b _ hb (by simp[hj]),λw2=>by simp[execOp,ho,hy,Instr.extract,hj,Sem.run]⟩
theorem PuI_ex {x:Operand}{i:Nat}{aa:List AV}{b:AV}(ho:o.op=.extract x i:=by rfl) (hx:st.ev x=.d (.tup aa):=by rfl) (hb:aa[i]?=some b:=by rfl):PuI P st o (.d b):=PuI_extract (ho:=ho) (hx:=hx) (hb:=hb)
end
end Go.Proofs.YtdnijgdmohinlaaGreat.A
end
section
namespace Go.Proofs.YtdnijgdmohinlaaGreat.A
open Go Go.RowKit
theorem flat_take {α:Type}{n:Nat}:∀{rows:List (List α)}(h:∀r∈rows,r.length=n) (k:Nat),(rows.take k).flatten=rows.flatten.take (k*n)
 | [],_,k=>by simp
 | r::rs,h,0=>by simp
 | r::rs,h,k+1=>by
  have hr:=h r (by simp)
  have ih:=flat_take (rows:=rs) (λq hq=>h q (by simp[hq])) k
  simp only[List.take_succ_cons,List.flatten_cons,ih]
  rw[show(k+1)*n=r.length+k*n from by rw[hr,Nat.add_mul];omega,List.take_length_add_append]
theorem flat_drop {α:Type}{n:Nat}:∀{rows:List (List α)}(h:∀r∈rows,r.length=n) (k:Nat),(rows.drop k).flatten=rows.flatten.drop (k*n)
 | [],_,k=>by simp
 | r::rs,h,0=>by simp
 | r::rs,h,k+1=>by
  have hr:=h r (by simp)
  have ih:=flat_drop (rows:=rs) (λq hq=>h q (by simp[hq])) k
  simp only[List.drop_succ_cons,List.flatten_cons,ih]
  rw[show(k+1)*n=r.length+k*n from by rw[hr,Nat.add_mul];omega,List.drop_length_add_append]
theorem flat_at {α:Type}{n:Nat}{rows:List (List α)}(h:∀r∈rows,r.length=n) {i j:Nat}(hj:j<n):rows.flatten[i*n+j]?=(rows[i]?).bind λr=>r[j]?:=by
 have e:=flat_drop h i
 have e2:rows.flatten[i*n+j]?=(rows.drop i).flatten[j]?:=by rw[e,List.getElem?_drop]
 rw[e2]
 rcases Nat.lt_or_ge i rows.length with hi|hi
 ·rw[List.drop_eq_getElem_cons hi,List.flatten_cons,List.getElem?_append_left (by rw[h _ (List.getElem_mem hi)];exact hj),List.getElem?_eq_getElem hi];rfl
 ·rw[List.drop_eq_nil_of_le hi,List.getElem?_eq_none hi];rfl
theorem unif_rows {M:Nat→Prop}{w:World}{n:Nat}{vals:List (List Value)}{rows:List (List AV)}(h:Rows M w n vals rows):∀q∈rows,q.length=n:=λq hq=>by
 obtain⟨i,hi,rfl⟩:=List.getElem_of_mem hq
 have hi':i<vals.length:=by rw[h.1];exact hi
 exact(h.2 i _ vals[i] (by simp[hi]) (by simp[hi'])).1
theorem flat_lenA {α:Type}{n:Nat}{rows:List (List α)}(h:∀r∈rows,r.length=n):rows.flatten.length=rows.length*n:=by
 induction rows with
 | nil=>simp
 | cons r rs ih=>rw[List.flatten_cons,List.length_append,h r (by simp),ih λq hq=>h q (by simp[hq]),List.length_cons,Nat.add_mul];omega
section
variable {P:Program}{N:Nat}{M0:Nat→Prop}{w0:Base}{ops:Array Oper}{Q:Exit→ASt→Prop}{o:Oper}{l:List Oper}{st:ASt}
theorem splice_core {w:World}{M:Nat→Prop}{b off:Nat}{T:TypeId}{n cap:Nat}{cur:Array Value}{vals:List (List Value)}{rows:List (List AV)}(rows':List (List AV)) {us:List Value}{r:List AV}
  (hgb:w.heap[b]?=some (.cells cur T (0,0))) (hsz:cur.size=cap*n) (htk:cur.toList.take (rows.length*n)=vals.flatten) (hrw:Rows M w n vals rows) (hr:Cells M w r us) (ho:off≤rows.length*n) (hf:off+us.length≤cap*n) (hc':rows'.length≤cap)
  (hun:∀q∈rows',q.length=n) (hfl:rows'.flatten=rows.flatten.take off++r++rows.flatten.drop (off+r.length)) :
  ∃w' vs',(storeCells ⟨b,off,none⟩ us 0).run P w=.ok () w'∧w'.heap[b]?=some (.cells vs' T (0,0))∧vs'.size=cap*n∧(∀c,c≠b→w'.heap[c]?=w.heap[c]?)∧w'.heap.size=w.heap.size∧(w'.os=w.os∧w'.tape=w.tape∧w'.output=w.output) ∧
   ∀M',Known M M' w w'→∃vals',vals'.flatten=vs'.toList.take (rows'.length*n)∧Rows M' w' n vals' rows':=by
 have hfr:=flat_lenA (unif_rows hrw)
 have hul:us.length=r.length:=hr.1
 obtain⟨w',vs',k1,k2,k3,k4,k5,k6,k7,k8,k9⟩:=run_storeRow (P:=P) b off T us 0 w cur hgb (by omega) (λv hv=>by
  obtain⟨j,hj,rfl⟩:=List.getElem_of_mem hv
  have hj':j<r.length:=by omega
  exact(hr.2 j r[j] _ (by simp[hj']) (by rw[List.getElem?_eq_getElem hj])).2)
 have hcn:rows'.length*n≤cap*n:=Nat.mul_le_mul_right _ hc'
 refine⟨w',vs',k1,k2,by rw[k3,hsz],k5,k6,⟨k7,k8,k9⟩,λM' hK=>?_⟩
 obtain⟨vals',hv1,hv2⟩:=rows_of_flat (rows:=rows') (L:=vs'.toList.take (rows'.length*n)) (M:=M') (w:=w') hun (by simp;omega) (λq c z hq hz'=>by
  rw[hfl]at hq
  rw[List.getElem?_take]at hz'
  split at hz'
  ·rename_i hqn
   have hz2:vs'[q]?=some z:=by simpa using hz'
   rw[k4 q,Nat.add_zero]at hz2
   by_cases e1:q<off
   ·rw[List.append_assoc,List.getElem?_append_left (by rw[List.length_take];omega),List.getElem?_take,if_pos e1]at hq
    rw[if_neg (by omega)]at hz2
    obtain⟨z',k10,k11,k12⟩:=rows_flat hrw hq
    rw[←htk,List.getElem?_take,if_pos (by omega)]at k10
    have:cur[q]?=some z':=by simpa using k10
    rw[hz2]at this;cases this
    exact⟨k11.mono hK,k12⟩
   ·by_cases e2:q<off+r.length
    ·rw[List.getElem?_append_left (by rw[List.length_append,List.length_take];omega),List.getElem?_append_right (by rw[List.length_take];omega)]at hq
     simp only[List.length_take,Nat.min_eq_left (show off≤rows.flatten.length by omega)]at hq
     rw[if_pos (by omega)]at hz2
     obtain⟨k11,k12⟩:=hr.2 _ c z hq hz2
     exact⟨k11.mono hK,k12⟩
    ·rw[List.getElem?_append_right (by rw[List.length_append,List.length_take];omega)]at hq
     simp only[List.length_append,List.length_take,Nat.min_eq_left (show off≤rows.flatten.length by omega),List.getElem?_drop]at hq
     rw[show off+r.length+(q - (off+r.length))=q from by omega]at hq
     have hqr:q<rows.length*n:=by rw[←hfr];exact(List.getElem?_eq_some_iff.1 hq).1
     rw[if_neg (by omega)]at hz2
     obtain⟨z',k10,k11,k12⟩:=rows_flat hrw hq
     rw[←htk,List.getElem?_take,if_pos hqr]at k10
     have:cur[q]?=some z':=by simpa using k10
     rw[hz2]at this;cases this
     exact⟨k11.mono hK,k12⟩
  ·cases hz')
 exact⟨vals',hv1,hv2⟩
def SrcOf (st:ASt) (y:Operand) (n L:Nat) (news:List (List AV)):Prop :=
 (st.ev y=.d (.sl n news)∧L=news.length)∨(∃k g T rows l h,st.ev y=.ows k g n l h∧st.ob k=some (g,.arr T n rows)∧L=h - l∧news=(rows.take h).drop l)∨(∃k g T,st.ev y=.ow k g∧st.ob k=some (g,.arr T n news)∧L=news.length)
theorem SrcOf.run {a:Act}{w:World}{ρ:Rho}(hsim:SimR N M0 w0 st ρ a w) {y:Operand}{n L c:Nat}{news:List (List AV)}(hs:SrcOf st y n L news) (hy:SRep (Mt M0 ρ st.ob) w ρ (st.ev y) (a.eval y)) (hn:0<n) (hc:c≤news.length) :
  (∃a' cp,a.eval y=.slice a' L cp)∧(∀q∈news,q.length=n)∧∃us,us.length=c*n∧(Builtin.firstCells n c (a.eval y)).run P w=.ok us.toArray w∧Cells (Mt M0 ρ st.ob) w (news.take c).flatten us:=by
 have own:∀(k g:Nat) (T:TypeId) (rows:List (List AV)) (l h:Nat) (ad:Option Addr) (len cp:Nat) (a':Option Addr) (cp':Nat),st.ob k=some (g,.arr T n rows)→ρ k g=some (.slice ad len cp)→l≤h→h≤cp→(l<h→∃b,ad=some ⟨b,0,none⟩∧a'=some ⟨b,l*n,none⟩)→news=(rows.take h).drop l→a.eval y=.slice a' L cp' →
   (∀q∈news,q.length=n)∧∃us,us.length=c*n∧(Builtin.firstCells n c (a.eval y)).run P w=.ok us.toArray w∧Cells (Mt M0 ρ st.ob) w (news.take c).flatten us:=by
  intro k g T rows l h ad len cp a' cp' hob hρ hlh hhc hlt hnews hyy
  obtain⟨u,hu,hO⟩:=hsim.obj k g _ hob
  rw[hρ]at hu;cases hu
  obtain⟨vals0,hown0,hrw0,_⟩:=id hO
  have hun:=unif_rows hrw0
  have hunn:∀q∈news,q.length=n:=λq hq=>hun q (by rw[hnews]at hq;exact List.mem_of_mem_take (List.mem_of_mem_drop hq))
  refine⟨hunn,?_⟩
  rcases Nat.eq_zero_or_pos c with rfl|hc0
  ·refine⟨[],by simp,?_,by simp[Cells]⟩
   rw[hyy]
   cases a' with
   | none=>exact run_firstCells_none w n 0 _ _
   | some a'=>exact run_firstCells_some w n 0 a' _ _ [] (by simp) (λj v hj=>by simp at hj)
  ·have hnl:news.length=min h rows.length - l:=by rw[hnews];simp
   have hlt':l<h:=by omega
   obtain⟨b,rfl,rfl⟩:=hlt hlt'
   obtain⟨cap,cur,vals,he,hgb,hnc,hcm,hsz,htk,hrw,hl,hlb⟩:=arr_at hO (b:=b) rfl
   have hlr:l+c≤rows.length:=by omega
   have hmul:l*n+c*n≤rows.length*n:=by rw[←Nat.add_mul];exact Nat.mul_le_mul_right _ hlr
   have hcn:rows.length*n≤cap*n:=Nat.mul_le_mul_right _ hnc
   have hcur:∀q,q<c*n→cur.toList[l*n+q]?=vals.flatten[l*n+q]?:=λq hq=>by rw[←htk,List.getElem?_take,if_pos (by omega)]
   refine⟨(cur.toList.drop (l*n)).take (c*n),by simp;omega,?_,by
       simp[List.length_take,flat_lenA (λq hq=>hunn q (List.mem_of_mem_take hq))];have:(news.take c).length=c:=by simp;omega
       rw[Nat.min_eq_left hc];omega,λj x z hj hz=>?_⟩
   ·rw[hyy]
    exact run_firstCells_some w n c ⟨b,l*n,none⟩ _ _ _ (by simp;omega) (λj v hj=>by
     rw[List.getElem?_take]at hj
     split at hj
     ·rw[List.getElem?_drop]at hj
      have hj2:cur[l*n+j]?=some v:=by simpa using hj
      rw[add_addr,cell_of_row w b (l*n+j) cur T (0,0) hgb,hj2]
     ·cases hj)
   ·rw[List.getElem?_take]at hz
    split at hz
    ·rename_i hjc
     rw[List.getElem?_drop,hcur j hjc]at hz
     have e:(news.take c).flatten[j]?=rows.flatten[l*n+j]?:=by
      rw[flat_take hunn,List.getElem?_take,if_pos hjc,hnews,flat_drop (λq hq=>hun q (List.mem_of_mem_take hq)),List.getElem?_drop,flat_take hun,List.getElem?_take,if_pos]
      have:(l+c)*n≤h*n:=Nat.mul_le_mul_right _ (by omega)
      rw[Nat.add_mul]at this
      omega
     rw[e]at hj
     obtain⟨z',k1,k2,k3⟩:=rows_flat hrw hj
     rw[hz]at k1;cases k1
     exact⟨k2,k3⟩
    ·cases hz
 rcases hs with⟨h1,rfl⟩|⟨k,g,T,rows,l,h,h1,hob,rfl,hnews⟩|⟨k,g,T,h1,hob,rfl⟩
 ·rw[h1]at hy
  have hy:Rep (Mt M0 ρ st.ob) w (.sl n news) (a.eval y):=hy
  generalize a.eval y=v at hy
  cases hy with
  | nil n a' c' =>
   obtain rfl:c=0:=by simpa using hc
   refine⟨⟨_,_,rfl⟩,λq hq=>(by cases hq),[],by simp,?_,by simp[Cells]⟩
   cases a' with
   | none=>exact run_firstCells_none w n 0 _ _
   | some a'=>exact run_firstCells_some w n 0 a' _ _ [] (by simp) (λj v hj=>by simp at hj)
  | sl n rows b o' cap f hl hcap hn' hcc hr =>
   have hun:∀q∈news,q.length=n:=λq hq=>by
    obtain⟨i,hi,rfl⟩:=List.getElem_of_mem hq
    exact hn' i _ (by simp[hi])
   have hat:∀q,q<c*n→q / n<news.length∧q%n<n∧q / n*n+q%n=q:=λq hq=>by
    have h1:q / n<c:=(Nat.div_lt_iff_lt_mul hn).2 hq
    exact⟨by omega,Nat.mod_lt _ hn,by rw[Nat.mul_comm];exact Nat.div_add_mod q n⟩
   have hel:∀i,i<news.length→∀j,j<n→∃r x,news[i]?=some r∧r[j]?=some x:=λi hi j hj=>by
    have h5:(news[i]'hi).length=n:=hn' i _ (by simp[hi])
    exact⟨news[i],(news[i]'hi)[j]'(by omega),by simp[hi],by simp[h5,hj]⟩
   refine⟨⟨_,_,rfl⟩,hun,(List.range (c*n)).map λq=>f (q / n) (q%n),by simp,?_,?_,λj x z hj hz=>?_⟩
   ·exact run_firstCells_some w n c ⟨b,o',none⟩ _ _ _ (by simp) (λj v hj=>by
     rw[List.getElem?_map]at hj
     obtain⟨q,h5,rfl⟩:=Option.map_eq_some_iff.1 hj
     obtain⟨h6,h7⟩:=List.getElem?_eq_some_iff.1 h5
     simp at h6 h7
     subst h7
     obtain⟨h8,h9,h10⟩:=hat j h6
     obtain⟨r,x,h11,h12⟩:=hel _ h8 _ h9
     have:=(hcc _ r _ x h11 h12).2.1
     rw[add_addr]
     rw[Nat.add_assoc,h10]at this
     exact this)
   ·simp[flat_lenA (λq hq=>hun q (List.mem_of_mem_take hq))]
    rw[Nat.min_eq_left hc]
   ·rw[List.getElem?_map]at hz
    obtain⟨q,h5,rfl⟩:=Option.map_eq_some_iff.1 hz
    obtain⟨h6,h7⟩:=List.getElem?_eq_some_iff.1 h5
    simp at h6 h7
    subst h7
    obtain⟨h8,h9,h10⟩:=hat j h6
    obtain⟨r,x',h11,h12⟩:=hel _ h8 _ h9
    rw[flat_take hun,List.getElem?_take,if_pos h6]at hj
    have e:=flat_at hun (i:=j / n) h9
    rw[h10,hj,h11]at e
    simp only[Option.bind_some,h12,Option.some.injEq]at e
    subst e
    exact⟨hr _ r _ x h11 h12,(hcc _ r _ x h11 h12).2.2⟩
 ·rw[h1]at hy
  obtain⟨ad,len,cp,a',k1,k2,k3,k4,k5⟩:=hy
  exact⟨⟨a',cp - l,k2⟩,own k g T rows l h ad len cp a' _ hob k1 k3 k4 k5 hnews k2⟩
 ·rw[h1]at hy
  obtain⟨k1,_⟩:=hy
  obtain⟨u,hu,hO⟩:=hsim.obj k g _ hob
  rw[k1]at hu;cases hu
  obtain⟨vals0,hown0,hrw0,⟨a1,c1,he⟩,_⟩:=id hO
  have hcap:news.length≤c1∧(0<news.length→∃b,a1=some ⟨b,0,none⟩):=by
   rcases hown0.2 with⟨e,e0⟩|⟨b,cap,cur,e,_,_,hnc,_⟩
   ·exact⟨by omega,λh=>by omega⟩
   ·rw[he]at e;cases e;exact⟨hnc,λ_=>⟨b,rfl⟩⟩
  refine⟨⟨a1,c1,he⟩,own k g T news 0 news.length a1 news.length c1 a1 c1 hob (by rw[k1,he]) (Nat.zero_le _) hcap.1 (λh=>?_) (by simp) he⟩
  obtain⟨b,rfl⟩:=hcap.2 h
  exact⟨b,rfl,by simp⟩
theorem SimR.tell {ρ:Rho}{a:Act}{w:World}(h:SimR N M0 w0 st ρ a w) {j:Nat}{s:SV}(hs:SRep (Mt M0 ρ st.ob) w ρ s (a.tmps.getD j undef)):SimR N M0 w0 (st.set j s) ρ a w where
 size:=h.size
 defers:=h.defers
 slot i:=by
  show SRep (Mt M0 ρ st.ob) w ρ (bif Nat.beq i j then s else st.sl i) _
  cases hb:Nat.beq i j with
  | true=>obtain rfl:=Nat.eq_of_beq_eq_true hb;exact hs
  | false=>exact h.slot i
 obj:=h.obj
 apart:=h.apart
 gens:=h.gens
 base:=h.base
 ext:=h.ext
 pin:=h.pin
theorem copy_run {x y:Operand}{t t' e:TypeId}{a:Act}{w w':World}{n L c dl cp sp:Nat}{b:Addr}{sa:Option Addr}{us:List Value}(ho:o.op=.call ⟨.builtin .copy,#[x,y],#[t,t']⟩) (ht:P.underlying t=some (.slice e)) (hz:∀w,(sizeOf e).run P w=.ok n w) (hx:a.eval x=.slice (some b) dl cp) (hy:a.eval y=.slice sa L sp) (hc:min L dl=c)
  (hf:(Builtin.firstCells n c (a.eval y)).run P w=.ok us.toArray w) (hst:(storeCells b us 0).run P w=.ok () w'):(execOp a.eval o).run P w=.ok (.value (.int .i64 c)) w':=by
 have hc2:L.min dl=c:=hc
 subst hc2
 rw[hy]at hf
 simp only[execOp,ho,resolve,invoke,builtin,Sem.run_bind,Sem.run_pure,Result.andThen_ok,List.map_toArray,List.map_cons,List.map_nil,hx,hy,Builtin.copy_]
 simp[run_underlying ht,Builtin.lenOf,hz,hf,hst,goInt,Result.andThen]
theorem Al_copy {d k g n lo h L c:Nat}{x y:Operand}{t t' e T:TypeId}{rows news:List (List AV)}(ho:o.op=.call ⟨.builtin .copy,#[x,y],#[t,t']⟩) (hg:o.guard=none) (hd:o.dst=some d) (hN:d<N) (hc:conB o=true) (ht:P.underlying t=some (.slice e)) (hz:∀w,(sizeOf e).run P w=.ok n w) (hn:0<n)
  (hx:st.ev x=.ows k g n lo h) (hob:st.ob k=some (g,.arr T n rows)) (hs:SrcOf st y n L news) (hcm:min L (h - lo)=c) (hc0:0<c) (hcn:c≤news.length) (hlc:lo+c≤rows.length)
  (hr:Al P N M0 w0 ops Q l ((st.put k g (.arr T n (rows.take lo++news.take c++rows.drop (lo+c)))).set d (.d (.v (.int .i64 c))))):Al P N M0 w0 ops Q (o::l) st:=by
 refine⟨?_⟩
 rintro a w ⟨ρ,hsim⟩
 have hev:=hsim.ev hc
 have h1:=hev x (mem_call ho x (by simp))
 have h2:=hev y (mem_call ho y (by simp))
 rw[hx]at h1
 obtain⟨ad,len,cp,a',k1,k2,k3,k4,k5⟩:=h1
 obtain⟨b,rfl,rfl⟩:=k5 (by omega)
 obtain⟨u,hu,hO⟩:=hsim.obj k g _ hob
 rw[k1]at hu;cases hu
 obtain⟨cap,cur,vals,he,hgb,hnc,hcp,hsz,htk,hrw,hl,hlb⟩:=arr_at hO (b:=b) rfl
 have hcc:cap=cp:=by cases he;rfl
 subst hcc
 cases he
 obtain⟨⟨sa,sp,hy⟩,hunn,us,hus,hrun,hcells⟩:=hs.run (P:=P) hsim h2 hn hcn
 have hun:=unif_rows hrw
 have hfr:=flat_lenA hun
 have hlen:(rows.take lo++news.take c++rows.drop (lo+c)).length=rows.length:=by simp;omega
 have e1:(lo+c)*n≤rows.length*n:=Nat.mul_le_mul_right _ hlc
 have e2:rows.length*n≤cap*n:=Nat.mul_le_mul_right _ hnc
 rw[Nat.add_mul]at e1
 have hcl:(news.take c).flatten.length=c*n:=by rw[flat_lenA (λq hq=>hunn q (List.mem_of_mem_take hq)),List.length_take,Nat.min_eq_left hcn]
 obtain⟨w',vs',q1,q2,q3,q4,q5,q6,q7⟩:=splice_core (P:=P) (rows.take lo++news.take c++rows.drop (lo+c)) hgb hsz htk hrw hcells (off:=lo*n) (by omega) (by rw[hus];omega) (by rw[hlen];exact hnc)
  (λq hq=>by
   rcases List.mem_append.1 hq with hq|hq
   ·rcases List.mem_append.1 hq with hq|hq
    ·exact hun q (List.mem_of_mem_take hq)
    ·exact hunn q (List.mem_of_mem_take hq)
   ·exact hun q (List.mem_of_mem_drop hq))
  (by rw[List.flatten_append,List.flatten_append,flat_take hun,flat_drop hun,hcl,Nat.add_mul])
 have hs2:=hsim.mod (w':=w') hob k1 q6 (by omega) (λc' hc' hne=>q4 c' (λe=>hne (by simp[blk,e]))) (o':=.arr T n (rows.take lo++news.take c++rows.drop (lo+c))) (λM' hK _=>by
  obtain⟨vals',hv1,hv2⟩:=q7 M' hK
  exact⟨vals',⟨by have h9:vs'.toList.length=cap*n:=(Array.length_toList ..).trans q3;rw[hv1,List.length_take,hlen,h9];omega,.inr ⟨b,cap,vs',by rw[hlen],Nat.zero_le _,q2,by rw[hlen];exact hnc,hcp,q3,hv1.symm⟩⟩,hv2,⟨_,cap,by rw[hlen]⟩,by rw[hlen];exact hl,λc' hc'=>by simp only[blk,Option.some.injEq]at hc';subst hc';exact hlb⟩)
 refine wpList_plain hg λK hK=>wp_upon ?_
 rw[copy_run ho ht hz k2 hy hcm hrun q1]
 refine hK _ _ (hr.out _ _ ⟨ρ,?_⟩)
 rw[hd]
 exact hs2.set hN (.v _ (show inI _ by
  have:rows.length≤maxI:=hl
  simp only[inI,maxI]at *;omega))
theorem Al_copyUp {d j k g n lo h L c:Nat}{x y:Operand}{t t' e T:TypeId}{rows news:List (List AV)}(ho:o.op=.call ⟨.builtin .copy,#[x,y],#[t,t']⟩) (hg:o.guard=none) (hd:o.dst=some d) (hN:d<N) (hc:conB o=true) (ht:P.underlying t=some (.slice e)) (hz:∀w,(sizeOf e).run P w=.ok n w) (hn:0<n)
  (hx:st.ev x=.ows k g n lo h) (hob:st.ob k=some (g,.arr T n rows)) (hj:st.sl j=.ows k g n 0 (lo+c)) (hs:SrcOf st y n L news) (hcm:min L (h - lo)=c) (hc0:0<c) (hcn:c≤news.length) (hlr:lo≤rows.length) (hlc:rows.length≤lo+c)
  (hr:∀g',Al P N M0 w0 ops Q l (((st.put k g' (.arr T n (rows.take lo++news.take c))).set j (.ow k g')).set d (.d (.v (.int .i64 c))))):Al P N M0 w0 ops Q (o::l) st:=by
 refine⟨?_⟩
 rintro a w ⟨ρ,hsim⟩
 have hev:=hsim.ev hc
 have h1:=hev x (mem_call ho x (by simp))
 have h2:=hev y (mem_call ho y (by simp))
 rw[hx]at h1
 obtain⟨ad,len,cp,a',k1,k2,k3,k4,k5⟩:=h1
 obtain⟨b,rfl,rfl⟩:=k5 (by omega)
 have h3:=hsim.slot j
 rw[hj]at h3
 obtain⟨ad2,len2,cp2,a2,m1,m2,m3,m4,m5⟩:=h3
 rw[k1]at m1;cases m1
 obtain⟨b2,m6,m7⟩:=m5 (by omega)
 cases m6
 obtain⟨u,hu,hO⟩:=hsim.obj k g _ hob
 rw[k1]at hu;cases hu
 obtain⟨cap,cur,vals,he,hgb,hnc,hcp,hsz,htk,hrw,hl,hlb⟩:=arr_at hO (b:=b) rfl
 have hcc:cap=cp:=by cases he;rfl
 subst hcc
 cases he
 obtain⟨⟨sa,sp,hy⟩,hunn,us,hus,hrun,hcells⟩:=hs.run (P:=P) hsim h2 hn hcn
 have hun:=unif_rows hrw
 have hfr:=flat_lenA hun
 have hlen:(rows.take lo++news.take c).length=lo+c:=by simp;omega
 have e1:(lo+c)*n≤cap*n:=Nat.mul_le_mul_right _ (by omega)
 have e3:lo*n≤rows.length*n:=Nat.mul_le_mul_right _ hlr
 have e4:rows.length*n≤(lo+c)*n:=Nat.mul_le_mul_right _ hlc
 rw[Nat.add_mul]at e1 e4
 have hcl:(news.take c).flatten.length=c*n:=by rw[flat_lenA (λq hq=>hunn q (List.mem_of_mem_take hq)),List.length_take,Nat.min_eq_left hcn]
 obtain⟨w',vs',q1,q2,q3,q4,q5,q6,q7⟩:=splice_core (P:=P) (rows.take lo++news.take c) hgb hsz htk hrw hcells (off:=lo*n) (by omega) (by rw[hus];omega) (by rw[hlen];omega)
  (λq hq=>by
   rcases List.mem_append.1 hq with hq|hq
   ·exact hun q (List.mem_of_mem_take hq)
   ·exact hunn q (List.mem_of_mem_take hq))
  (by rw[List.flatten_append,flat_take hun,hcl,List.drop_eq_nil_of_le (by omega),List.append_nil])
 have huniq:∀g2 o2 x,st.ob k=some (g2,o2)→ρ k g2=some x→x=.slice (some ⟨b,0,none⟩) rows.length cap:=λg2 o2 x e1 e2=>by
  rw[hob]at e1
  simp only[Option.some.injEq,Prod.mk.injEq]at e1
  obtain⟨rfl,rfl⟩:=e1
  rw[k1]at e2
  exact(Option.some.inj e2).symm
 obtain⟨g',ρ',r1,r2,r3⟩:=hsim.upd2 (w':=w') k q6 (by omega) (λc' hc' hne=>q4 c' (λe=>hne g _ _ hob k1 (by simp[blk,e]))) (x':=.slice (some ⟨b,0,none⟩) (lo+c) cap) (o':=.arr T n (rows.take lo++news.take c))
  (λc' hc'=>.inr ⟨g,_,_,hob,k1,by simpa [blk]using hc'⟩)
  (λM' ρ' hK _=>by
   obtain⟨vals',hv1,hv2⟩:=q7 M' hK
   exact⟨vals',⟨by have h9:vs'.toList.length=cap*n:=(Array.length_toList ..).trans q3;rw[hv1,List.length_take,hlen,h9,Nat.add_mul];omega,.inr ⟨b,cap,vs',by rw[hlen],Nat.zero_le _,q2,by rw[hlen];omega,hcp,q3,hv1.symm⟩⟩,hv2,⟨_,cap,by rw[hlen]⟩,by rw[hlen];simp only[maxLen,maxI]at *;omega,λc' hc'=>by simp only[blk,Option.some.injEq]at hc';subst hc';exact hlb⟩)
 refine wpList_plain hg λK hK=>wp_upon ?_
 rw[copy_run ho ht hz k2 hy hcm hrun q1]
 refine hK _ _ ((hr g').out _ _ ⟨ρ',?_⟩)
 rw[hd]
 exact(r1.tell (j:=j) (s:=.ow k g') ⟨by rw[r2,m2,m7];simp,by rw[m2];rfl⟩).set hN (.v _ (show inI _ by simp only[inI,maxLen]at *;omega))
theorem ORep.form {B:Base}{M:Nat→Prop}{w:World}{ρ:Rho}{v:Value}{T:TypeId}{n:Nat}{rows:List (List AV)}(h:ORep B M w ρ v (.arr T n rows)):∃a c,v=.slice a rows.length c∧rows.length≤c∧c≤maxLen∧(0<c→∃b,a=some ⟨b,0,none⟩):=by
 obtain⟨vals,hown,_⟩:=h
 rcases hown.2 with⟨rfl,e⟩|⟨b,cap,cur,rfl,_,_,hnc,hcm,_⟩
 ·exact⟨none,0,by rw[e],by omega,Nat.zero_le _,λh=>by omega⟩
 ·exact⟨_,cap,rfl,hnc,hcm,λ_=>⟨b,rfl⟩⟩
def capTok (k g c:Nat):OP:=⟨λ_=>False,λ_ _ ρ _=>∃a len,ρ k g=some (.slice a len c),λ_ _ h=>h,λhr ⟨a,len,h⟩=>⟨a,len,hr _ _ _ h⟩,λ_ b hb=>hb.elim⟩
theorem Al_cap {d k g kt n:Nat}{x:Operand}{t e T:TypeId}{rows:List (List AV)}(ho:o.op=.call ⟨.builtin .cap,#[x],#[t]⟩) (hg:o.guard=none) (hd:o.dst=some d) (hN:d<N) (hc:conB o=true) (ht:P.underlying t=some (.slice e)) (hx:st.ev x=.ow k g) (hob:st.ob k=some (g,.arr T n rows)) (hkt:st.ob kt=none)
  (hr:∀c gt,rows.length≤c→c≤4611686018427387904∨c≤maxLen→Al P N M0 w0 ops Q l ((st.put kt gt (.op (capTok k g c))).set d (.d (.v (.int .i64 (c:Nat)))))):Al P N M0 w0 ops Q (o::l) st:=by
 refine⟨?_⟩
 rintro a w ⟨ρ,hsim⟩
 have h1:=hsim.ev hc x (mem_call ho x (by simp))
 rw[hx]at h1
 obtain⟨k1,_⟩:=h1
 obtain⟨u,hu,hO⟩:=hsim.obj k g _ hob
 rw[k1]at hu;cases hu
 obtain⟨a',c,he,hrc,hcm,_⟩:=hO.form
 obtain⟨gt,ρ',r1,r2,r3⟩:=hsim.upd2 (w':=w) kt ⟨rfl,rfl,rfl⟩ (Nat.le_refl _) (λ_ _ _=>rfl) (x':=undef) (o':=.op (capTok k g c)) (λb hb=>hb.elim) (λM' ρ' hK hle=>⟨λb hb=>hb.elim,⟨a',rows.length,hle _ _ _ (by rw[k1,he])⟩⟩)
 refine wpList_plain hg λK hK=>wp_upon ?_
 have e:(execOp a.eval o).run P w=.ok (.value (.int .i64 c)) w:=by
  simp only[execOp,ho,resolve,invoke,builtin,Sem.run_bind,Sem.run_pure,Result.andThen_ok,List.map_toArray,List.map_cons,List.map_nil,he,Builtin.cap_]
  simp[run_underlying ht,goInt,Result.andThen]
 rw[e]
 refine hK _ _ ((hr c gt hrc (.inr hcm)).out _ _ ⟨ρ',?_⟩)
 rw[hd]
 exact r1.set hN (.v _ (show inI _ by simp only[inI,maxLen]at *;omega))
theorem slice_run {M:Nat→Prop}{w:World}{ρ:Rho}{a:Act}{t e:TypeId}{x:Operand}{lo hi:Option Operand}{n len cap lw h:Nat}{ad:Option Addr}(ho:o.op=.slice t x lo hi none) (ht:P.underlying t=some (.slice e)) (hz:∀w,(sizeOf e).run P w=.ok n w) (h2:∀x∈opsOf o,SRep M w ρ (st.ev x) (a.eval x)) (hx:a.eval x=.slice ad len cap) (hlo:bndA st lo 0 lw) (hhi:bndA st hi len h) (hle:lw≤h∧h≤cap) :
  (execOp a.eval o).run P w=.ok (.value (.slice (if cap=lw then ad else ad.map (·.add (lw*n))) (h - lw) (cap - lw))) w:=by
 have hb:=bnds_run (P:=P) (w:=w) (a:=a) (len:=len) (cap:=cap) true (M:=M) (ρ:=ρ) (λy hy=>h2 y (by simp only[opsOf,ho,Op.operands,Array.toList_append,List.mem_append];simp only[List.mem_append]at hy;rcases hy with hy|hy<;>simp_all)) hlo hhi hle.1 hle.2
 simp only[execOp,ho,hx,Instr.sliceAt,Sem.run_bind,run_underlying ht,Result.andThen_ok,Instr.slice,Option.map_none,hb,hz,Sem.run_pure]
theorem Pu_sliceOw {t e T:TypeId}{x:Operand}{lo hi:Option Operand}{k g n:Nat}{rows:List (List AV)}(lw h:Nat) (ho:o.op=.slice t x lo hi none) (ht:P.underlying t=some (.slice e)) (hz:∀w,(sizeOf e).run P w=.ok n w) (hx:st.ev x=.ow k g) (hob:st.ob k=some (g,.arr T n rows)) (hlo:bndA st lo 0 lw) (hhi:bndA st hi rows.length h) (hle:lw≤h∧(h≤rows.length∨∃kt gt c,st.ob kt=some (gt,.op (capTok k g c))∧h≤c)):Pu P st o (.ows k g n lw h):=λB M ρ w a hM h2 h3 hev K hK=>by
 have h1:=h2 x (by simp[opsOf,ho,Op.operands])
 rw[hx]at h1
 obtain⟨k1,_⟩:=h1
 obtain⟨u,hu,hO⟩:=h3 k g _ hob
 rw[k1]at hu;cases hu
 obtain⟨ad,c,he,hrc,hcm,hbb⟩:=hO.form
 have hhc:h≤c:=by
  rcases hle.2 with h4|⟨kt,gt,c',h4,h5⟩
  ·omega
  ·obtain⟨u,_,_,a',len',h6⟩:=h3 kt gt _ h4
   rw[k1,he]at h6;cases h6
   exact h5
 rw[slice_run ho ht hz h2 he hlo hhi ⟨hle.1,hhc⟩]
 refine hK _ _ (Kn.refl _) ⟨ad,rows.length,c,_,by rw[k1,he],rfl,hle.1,hhc,λhlt=>?_⟩
 obtain⟨b,rfl⟩:=hbb (by omega)
 exact⟨b,rfl,by rw[if_neg (by omega)];simp[add_addr]⟩
theorem Pu_sliceOws {t e:TypeId}{x:Operand}{lo:Option Operand}{k g n l0 h0:Nat}(lw l1:Nat) (ho:o.op=.slice t x lo none none) (ht:P.underlying t=some (.slice e)) (hz:∀w,(sizeOf e).run P w=.ok n w) (hx:st.ev x=.ows k g n l0 h0) (hlo:bndA st lo 0 lw) (hle:l0+lw≤h0) (hl1:l0+lw=l1):Pu P st o (.ows k g n l1 h0):=λB M ρ w a hM h2 h3 hev K hK=>by
 subst hl1
 have h1:=h2 x (by simp[opsOf,ho,Op.operands])
 rw[hx]at h1
 obtain⟨ad,len,c,a',k1,k2,k3,k4,k5⟩:=h1
 rw[slice_run ho ht hz h2 k2 hlo (show bndA st none (h0 - l0) (h0 - l0)from rfl) (by omega)]
 refine hK _ _ (Kn.refl _) ⟨ad,len,c,_,k1,by rw[show h0 - l0 - lw=h0 - (l0+lw)from by omega,show c - l0 - lw=c - (l0+lw)from by omega],hle,k4,λhlt=>?_⟩
 obtain⟨b,rfl,rfl⟩:=k5 (by omega)
 exact⟨b,rfl,by rw[if_neg (by omega)];simp[add_addr,Nat.add_mul]⟩
theorem Al_cut {d k g n:Nat}{x:Operand}{lo hi:Option Operand}{t e T:TypeId}{rows:List (List AV)}(h:Nat) (ho:o.op=.slice t x lo hi none) (hg:o.guard=none) (hd:o.dst=some d) (hN:d<N) (hc:conB o=true) (ht:P.underlying t=some (.slice e)) (hz:∀w,(sizeOf e).run P w=.ok n w) (hx:st.ev x=.ow k g) (hob:st.ob k=some (g,.arr T n rows)) (hlo:bndA st lo 0 0) (hhi:bndA st hi rows.length h) (hle:h≤rows.length)
  (hr:∀g',Al P N M0 w0 ops Q l ((st.put k g' (.arr T n (rows.take h))).set d (.ow k g'))):Al P N M0 w0 ops Q (o::l) st:=by
 refine⟨?_⟩
 rintro a w ⟨ρ,hsim⟩
 have hev:=hsim.ev hc
 have h1:=hev x (by simp[opsOf,ho,Op.operands])
 rw[hx]at h1
 obtain⟨k1,_⟩:=h1
 obtain⟨u,hu,hO⟩:=hsim.obj k g _ hob
 rw[k1]at hu;cases hu
 obtain⟨ad,c,he,hrc,hcm,hbb⟩:=hO.form
 have hrun:=slice_run ho ht hz hev he hlo hhi ⟨Nat.zero_le _,by omega⟩
 have hlen:(rows.take h).length=h:=by simp;omega
 obtain⟨g',ρ',r1,r2,r3⟩:=hsim.upd2 (w':=w) k ⟨rfl,rfl,rfl⟩ (Nat.le_refl _) (λ_ _ _=>rfl) (x':=.slice (if c=0 then ad else ad.map (·.add (0*n))) (h - 0) (c - 0)) (o':=.arr T n (rows.take h)) (λb hb=>.inr ⟨g,_,_,hob,k1,by
   rw[he]
   cases ad with
   | none=>simp[blk]at hb
   | some ad=>by_cases hc0:c=0<;>simp[blk,hc0,Addr.add]at hb⊢<;>exact hb⟩) (λM' ρ' hK _=>by
  obtain⟨vals,hown,hrw,_,hl,hlb⟩:=hO.mono hK (λ_ _=>rfl)
  have hun:=unif_rows hrw
  have hunv:∀q∈vals,q.length=n:=λq hq=>by
   obtain⟨i,hi,rfl⟩:=List.getElem_of_mem hq
   have hi':i<rows.length:=by rw[←hrw.1];exact hi
   exact(hrw.2 i rows[i] _ (by simp[hi']) (by simp[hi])).2.1
  have hvl:vals.length=rows.length:=hrw.1
  refine⟨vals.take h,⟨by rw[flat_lenA (λq hq=>hunv q (List.mem_of_mem_take hq)),hlen];simp;rw[hvl,Nat.min_eq_left hle],?_⟩,⟨by simp[hvl],λi r v h4 h5=>?_⟩,⟨_,c,by rw[hlen];rfl⟩,by rw[hlen];omega,λb hb=>?_⟩
  ·rcases hown.2 with⟨e,e0⟩|⟨b,cap,cur,e,hbz,hgb,hnc,hcm,hsz,htk⟩
   ·rw[he]at e
    simp only[Value.slice.injEq]at e
    obtain⟨rfl,_,rfl⟩:=e
    refine .inl ⟨?_,by rw[hlen];omega⟩
    rw[show h=0 by omega];rfl
   ·rw[he]at e;cases e
    refine .inr ⟨b,c,cur,?_,hbz,hgb,by rw[hlen];omega,hcm,hsz,?_⟩
    ·rw[hlen];by_cases hc0:c=0<;>simp[hc0,add_addr]
    ·have e3:h*n≤rows.length*n:=Nat.mul_le_mul_right _ hle
     rw[hlen,flat_take hunv,←htk,List.take_take,Nat.min_eq_left e3]
  ·rw[List.getElem?_take]at h4 h5
   split at h4
   ·rename_i hih
    rw[if_pos hih]at h5
    exact hrw.2 i r v h4 h5
   ·cases h4
  ·refine hlb b ?_
   rw[he]
   cases ad with
   | none=>by_cases hc0:c=0<;>simp[blk,hc0]at hb
   | some ad=>by_cases hc0:c=0<;>simp[blk,hc0,Addr.add]at hb⊢<;>exact hb)
 refine wpList_plain hg λK hK=>wp_upon ?_
 rw[hrun]
 refine hK _ _ ((hr g').out _ _ ⟨ρ',?_⟩)
 rw[hd]
 exact r1.set hN ⟨r2,rfl⟩
theorem zeroCells_list (z:Array Value) (k:Nat) (hz:0<z.size):(Builtin.zeroCells z k).toList=(List.replicate k z.toList).flatten:=by
 apply List.ext_getElem?
 intro q
 have hun:∀r∈List.replicate k z.toList,r.length=z.size:=λr hr=>by rw[List.eq_of_mem_replicate hr];simp
 have hlen:=flat_lenA hun
 rw[List.length_replicate]at hlen
 by_cases hq:q<k*z.size
 ·have e:=flat_at hun (i:=q / z.size) (Nat.mod_lt q hz)
  rw[show q / z.size*z.size+q%z.size=q from by rw[Nat.mul_comm];exact Nat.div_add_mod q _]at e
  rw[e]
  have h1:q / z.size<k:=(Nat.div_lt_iff_lt_mul hz).2 hq
  simp only[Builtin.zeroCells,Array.toList_map,Array.toList_range,List.getElem?_map,List.getElem?_range hq,Option.map_some]
  rw[List.getElem?_replicate,if_pos h1]
  simp[getElem!_pos,Nat.mod_lt q hz]
 ·rw[List.getElem?_eq_none (by simp[Builtin.zeroCells];omega),List.getElem?_eq_none (by omega)]
theorem zero_cells {M:Nat→Prop}{w:World}{z:Value}{zs:List AV}(hzs:z.cells.toList.map AV.v=zs) (hv:z.cells.toList.all (λz=>decide (vok z))=true) (k:Nat):Cells M w (List.replicate k zs).flatten (List.replicate k z.cells.toList).flatten:=by
 subst hzs
 have e:(List.replicate k (z.cells.toList.map AV.v)).flatten=(List.replicate k z.cells.toList).flatten.map AV.v:=by
  rw[←List.map_replicate,List.map_flatten]
 rw[e]
 refine⟨by simp,λj x u hj hu=>?_⟩
 rw[List.getElem?_map,hu]at hj
 simp only[Option.map_some,Option.some.injEq]at hj
 subst hj
 have hm:u∈z.cells.toList:=by
  obtain⟨r,hr,hu⟩:=List.mem_flatten.1 (List.mem_of_getElem? hu)
  rwa [List.eq_of_mem_replicate hr]at hu
 have:vok u:=by simpa using List.all_eq_true.1 hv u hm
 exact⟨.v u this,this.one⟩
theorem Al_appendZ {d k g n i zz:Nat}{x y:Operand}{t ti e T:TypeId}{bytes:Nat}{zv:Value}{zs:List AV}{rows:List (List AV)}(ho:o.op=.call ⟨.builtin .append,#[x,y],#[t,ti]⟩) (hg:o.guard=none) (hd:o.dst=some d) (hN:d<N) (hc:conB o=true) (hT:R.ElemT P t e n bytes) (hti:P.underlying ti=some (.int .i64)) (hz:∀w,(zeroValue e).run P w=.ok zv w) (hn:0<n)
  (hzs:zv.cells.toList.map AV.v=zs) (hv:zv.cells.toList.all (λz=>decide (vok z))=true) (hx:st.ev x=.ows k g n 0 i) (hob:st.ob k=some (g,.arr T n rows)) {zi:Int}(hy:st.ev y=.d (.v (.int .i64 zi))) (hzi:zi=(zz:Nat)) (hi:i≤rows.length) (hz0:0<zz) {kt gt c:Nat}(htok:st.ob kt=some (gt,.op (capTok k g c))) (hcz:c<i+zz) (hlen:i+zz≤4294967296) (hby:bytes≤32768)
  (hr:∀g',Al P N M0 w0 ops Q l ((st.put d g' (.arr e n (rows.take i++List.replicate zz zs))).set d (.ow d g'))) (hdn:st.ob d=none):Al P N M0 w0 ops Q (o::l) st:=by
 refine⟨?_⟩
 rintro a w ⟨ρ,hsim⟩
 have hev:=hsim.ev hc
 have h1:=hev x (mem_call ho x (by simp))
 have h2:=hev y (mem_call ho y (by simp))
 rw[hx]at h1
 rw[hy,hzi]at h2
 have h2:a.eval y=.int .i64 (zz:Nat):=by generalize a.eval y=u at h2;cases h2;rfl
 obtain⟨ad,len,c1,a',k1,k2,k3,k4,k5⟩:=h1
 obtain⟨_,_,_,a3,len3,htk3⟩:=hsim.obj kt gt _ htok
 rw[k1]at htk3
 have hc1:c=c1:=by cases htk3;rfl
 subst hc1
 obtain⟨u,hu,hO⟩:=hsim.obj k g _ hob
 rw[k1]at hu;cases hu
 obtain⟨ii,z,hii,hiz,hsize,hbytes,hzsz⟩:=hT.hi
 have hzz:z=zv:=by
  have:=hz w
  simp[zeroValue,typeInfo,hii,hiz]at this
  exact this
 subst hzz
 obtain⟨vals0,hown0,hrw0,_⟩:=id hO
 have hun:=unif_rows hrw0
 have hzl:zs.length=n:=by rw[←hzs];simp[hzsz]
 obtain⟨olds,hol,hold,hoc⟩:∃olds:List Value,olds.length=i*n∧(Builtin.firstCells ii.size i (.slice a' i c)).run P w.drew=.ok olds.toArray w.drew∧Cells (Mt M0 ρ st.ob) w (rows.take i).flatten olds:=by
  rw[hsize]
  rcases Nat.eq_zero_or_pos i with rfl|hi0
  ·refine⟨[],by simp,?_,by simp[Cells]⟩
   cases a' with
   | none=>exact run_firstCells_none w.drew n 0 _ _
   | some a'=>exact run_firstCells_some w.drew n 0 a' _ _ [] (by simp) (λj v hj=>by simp at hj)
  ·obtain⟨b,rfl,rfl⟩:=k5 hi0
   obtain⟨cap,cur,vals,he,hgb,hnc,hcp,hsz,htk,hrw,hl,hlb⟩:=arr_at hO (b:=b) rfl
   have e1:i*n≤rows.length*n:=Nat.mul_le_mul_right _ hi
   have e2:rows.length*n≤cap*n:=Nat.mul_le_mul_right _ hnc
   have hcur:∀q,q<i*n→cur.toList[q]?=vals.flatten[q]?:=λq hq=>by rw[←htk,List.getElem?_take,if_pos (by omega)]
   refine⟨cur.toList.take (i*n),by simp;omega,?_,(by have h9:cur.toList.length=cap*n:=(Array.length_toList ..).trans hsz;rw[List.length_take,h9,flat_take hun,List.length_take,flat_lenA hun];omega),λj x z hj hz=>?_⟩
   ·exact run_firstCells_some w.drew n i ⟨b,0*n,none⟩ _ _ _ (by simp;omega) (λj v hj=>by
     rw[List.getElem?_take]at hj
     split at hj
     ·have hj2:cur[j]?=some v:=by simpa using hj
      rw[add_addr,Nat.zero_mul,Nat.zero_add]
      exact(cell_of_row w b j cur T (0,0) hgb).trans hj2
     ·cases hj)
   ·rw[List.getElem?_take]at hz
    split at hz
    ·rename_i hji
     rw[hcur j hji]at hz
     rw[flat_take hun,List.getElem?_take,if_pos hji]at hj
     obtain⟨z',m1,m2,m3⟩:=rows_flat hrw hj
     rw[hz]at m1;cases m1
     exact⟨m2,m3⟩
    ·cases hz
 have hfit:Builtin.nextslicecap (i+zz) c*ii.bytes≤281474976710656:=by
  rw[hbytes]
  exact growslice_fits (by omega) (Nat.le_trans (Nat.mul_le_mul hlen hby) (by decide))
 have hrun:=Lib.run_append_grow_zeros (P:=P) w t ti o.type e ii z .i64 .i64 hT.ht hti hii hiz a' i c olds hold zz hz0 (by omega) (by omega) (by omega) (by rw[hbytes];exact Nat.le_trans (Nat.mul_le_mul (show zz≤4294967296 by omega) hby) (by decide)) hfit
 have hG:=grownCap_ge w (i+zz) c e
 have hGm:=grownCap_le_maxLen w (i+zz) c e (by simp only[maxLen];omega)
 generalize grownCap w (i+zz) c e=G at *
 generalize hcur':olds.toArray++Builtin.zeroCells z.cells zz++Builtin.zeroCells z.cells (G - (i+zz))=cur' at hrun
 have hcs:cur'.size=G*n:=by
  rw[←hcur']
  simp[Builtin.zeroCells,hzsz,hol]
  rw[←Nat.add_mul,←Nat.add_mul];congr 1;omega
 have hct:cur'.toList.take ((i+zz)*n)=olds++(List.replicate zz z.cells.toList).flatten:=by
  rw[←hcur',Array.toList_append,Array.toList_append,zeroCells_list z.cells zz (by omega)]
  rw[List.take_append,List.take_of_length_le (by simp[hol,hzsz,Nat.add_mul])]
  rw[show(i+zz)*n - (olds.toArray.toList++(List.replicate zz z.cells.toList).flatten).length=0 from by simp[hol,hzsz,Nat.add_mul]]
  simp
 obtain⟨g',ρ',r1,r2,r3⟩:=hsim.upd2 (w':=w.drew.alloc (.cells cur' e)) d ⟨rfl,rfl,rfl⟩ (by rw[World.size_alloc];exact Nat.le_succ _) (λb hb _=>heap_alloc_old w.drew _ hb) (x':=.slice (some ⟨w.heap.size,0,none⟩) (i+zz) G) (o':=.arr e n (rows.take i++List.replicate zz zs))
  (λb hb=>.inl (by simp only[fpO,blk,Option.some.injEq]at hb;omega))
  (λM' ρ' hK _=>by
   have hcl:Cells M' (w.drew.alloc (.cells cur' e)) ((rows.take i++List.replicate zz zs).flatten) (olds++(List.replicate zz z.cells.toList).flatten):=by
    rw[List.flatten_append]
    have c1:=hoc.mono hK
    have c2:=zero_cells (M:=M') (w:=w.drew.alloc (.cells cur' e)) hzs hv zz
    refine⟨by simp[c1.1,c2.1],λj x u hj hu=>?_⟩
    rcases Nat.lt_or_ge j olds.length with hjo|hjo
    ·rw[List.getElem?_append_left (by rw[←c1.1];exact hjo)]at hj
     rw[List.getElem?_append_left hjo]at hu
     exact c1.2 j x u hj hu
    ·rw[List.getElem?_append_right (by rw[←c1.1];exact hjo)]at hj
     rw[List.getElem?_append_right hjo]at hu
     rw[←c1.1]at hj
     exact c2.2 _ x u hj hu
   have hlen':(rows.take i++List.replicate zz zs).length=i+zz:=by simp;omega
   obtain⟨vals',hv1,hv2⟩:=rows_of_flat (rows:=rows.take i++List.replicate zz zs) (L:=olds++(List.replicate zz z.cells.toList).flatten) (M:=M') (w:=w.drew.alloc (.cells cur' e)) (λq hq=>by
    rcases List.mem_append.1 hq with hq|hq
    ·exact hun q (List.mem_of_mem_take hq)
    ·rw[List.eq_of_mem_replicate hq];exact hzl) (by rw[hlen'];simp[hol,hzsz,Nat.add_mul]) (λq c' z' hq hz'=>hcl.2 q c' z' hq hz')
   refine⟨vals',⟨by rw[hv1,hlen'];simp[hol,hzsz,Nat.add_mul],.inr ⟨w.heap.size,G,cur',by rw[hlen'],Nat.zero_le _,heap_alloc_new w.drew _,by rw[hlen'];exact hG,hGm,hcs,by rw[hlen',hct,hv1]⟩⟩,hv2,⟨_,G,by rw[hlen']⟩,by rw[hlen'];simp only[maxI];omega,λb hb=>?_⟩
   simp only[blk,Option.some.injEq]at hb
   subst hb
   exact .inl hsim.ext.size)
 refine wpList_plain hg λK hK=>wp_upon ?_
 have e:(execOp a.eval o).run P w=.ok (.value (.slice (some ⟨w.heap.size,0,none⟩) (i+zz) G)) (w.drew.alloc (.cells cur' e)):=by
  simp only[execOp,ho,resolve,invoke,builtin,Sem.run_bind,Sem.run_pure,Result.andThen_ok,List.map_toArray,List.map_cons,List.map_nil,k2,h2,Nat.sub_zero,hrun]
 rw[e]
 refine hK _ _ ((hr g').out _ _ ⟨ρ',?_⟩)
 rw[hd]
 exact r1.set hN ⟨r2,rfl⟩
theorem Al_appendOw {d k g k2 g2:Nat}{s x:Operand}{t T T2:TypeId}{n bytes:Nat}{rows news:List (List AV)}(ho:o.op=.call ⟨.builtin .append,#[s,x],#[t,t]⟩) (hg:o.guard=none) (hd:o.dst=some d) (hN:d<N) (hc:conB o=true) (hT:R.ElemT P t T n bytes) (hn:1≤n) (hsz:∀w,(sizeOf T).run P w=.ok n w)
  (hs:st.ev s=.ow k g) (hob:st.ob k=some (g,.arr T n rows)) (hx:st.ev x=.ow k2 g2) (hob2:st.ob k2=some (g2,.arr T2 n news)) (hn0:0<news.length) (hlen:rows.length+news.length≤4294967296) (hby:bytes≤32768)
  (h:∀g',Al P N M0 w0 ops Q l ((st.put k g' (.arr T n (rows++news))).set d (.ow k g'))):Al P N M0 w0 ops Q (o::l) st:=by
 refine⟨?_⟩
 rintro a w ⟨ρ,hsim⟩
 have hev:=hsim.ev hc
 have h1:=hev s (mem_call ho s (by simp))
 have h2:=hev x (mem_call ho x (by simp))
 rw[hs]at h1
 rw[hx]at h2
 obtain⟨v,hv1,vals,hown,hrows,⟨va,vc,hvf⟩,_,hlb⟩:=hsim.obj k g _ hob
 have hvs:a.eval s=v:=by
  have:=h1.1
  rw[hv1]at this
  exact(Option.some.inj this).symm
 have hvlen:∀r∈vals,r.length=n:=λr hr=>by
  obtain⟨i,hi,rfl⟩:=List.getElem_of_mem hr
  have hi':i<rows.length:=by rw[←hrows.1];exact hi
  exact(hrows.2 i rows[i] vals[i] (by simp[hi']) (by simp[hi])).2.1
 obtain⟨us,hul,hur,hrun⟩:∃us:List (List Value),(∀r∈us,r.length=n)∧Rows (Mt M0 ρ st.ob) w n us news ∧
   ∃v' w',(Builtin.append_ #[t,t] o.type #[v,a.eval x]).run P w=.ok v' w'∧w'.ownsRow 0 T n v' (rows.length+news.length) (vals.flatten++us.flatten)∧w.grownBy w' v.ownBlock∧(v'.ownBlock=v.ownBlock∨v'.ownBlock=some w.heap.size):=by
  obtain⟨q1,_⟩:=h2
  obtain⟨u,hu,hO⟩:=hsim.obj k2 g2 _ hob2
  rw[q1]at hu;cases hu
  obtain⟨a2,c2,he2,hc2,_,hb2⟩:=hO.form
  obtain⟨b2,rfl⟩:=hb2 (by omega)
  rw[he2]at hO ⊢
  obtain⟨cap,cur,us,he,hgb,hnc,hcm,hsz,htk,hrw,hl,hlb⟩:=arr_at hO (b:=b2) rfl
  have hul:∀r∈us,r.length=n:=λr hr=>by
   obtain⟨i,hi,rfl⟩:=List.getElem_of_mem hr
   have hi':i<news.length:=by rw[←hrw.1];exact hi
   exact(hrw.2 i news[i] us[i] (by simp[hi']) (by simp[hi])).2.1
  have hul2:us.length=news.length:=hrw.1
  obtain⟨v',w',h3,h4,h5,h6⟩:=R.run_append (P:=P) w 0 t o.type T n bytes hT hn v rows.length vals.flatten hown ⟨b2,0,none⟩ news.length c2 us.flatten (by rw[flatten_len hul,hul2]) (λq u hq=>by
    rw[add_addr,Nat.zero_add]
    rw[←htk,List.getElem?_take]at hq
    split at hq
    ·exact(cell_of_row w b2 q cur T2 (0,0) hgb).trans (by simpa using hq)
    ·cases hq) (λu hu=>by
    obtain⟨q,hq,rfl⟩:=List.getElem_of_mem hu
    have hfn:=flat_lenA (unif_rows hrw)
    have hq2:q<news.flatten.length:=by rw[hfn,←hul2,←flatten_len hul];exact hq
    obtain⟨z,m1,m2,m3⟩:=rows_flat hrw (List.getElem?_eq_getElem hq2)
    rw[List.getElem?_eq_getElem hq]at m1;cases m1
    exact m3) (by unfold maxLen;omega) (Nat.le_trans (Nat.mul_le_mul hlen hby) (by decide)) (Nat.zero_le _)
  exact⟨us,hul,hrw,v',w',h3,h4,h5,h6⟩
 obtain⟨v',w',h3,h4,h5,h6⟩:=hrun
 have hblk:∀y:Value,(∃a c m,y=.slice a m c)→blk y=y.ownBlock:=λy ⟨a,c,m,e⟩=>by
  subst e
  cases a<;>rfl
 have hv':∃a c,v'=.slice a (rows.length+news.length) c:=by
  rcases h4.2 with⟨rfl,e⟩|⟨g2,cap,cur,rfl,_⟩
  ·exact⟨none,0,by rw[e]⟩
  ·exact⟨_,cap,rfl⟩
 have hbv:=hblk v ⟨va,vc,_,hvf⟩
 have hbv':=hblk v' (by obtain⟨a,c,e⟩:=hv';exact⟨a,c,_,e⟩)
 have huniq:∀g2 o2 x,st.ob k=some (g2,o2)→ρ k g2=some x→x=v:=λg2 o2 x e1 e2=>by
  rw[hob]at e1
  simp only[Option.some.injEq,Prod.mk.injEq]at e1
  obtain⟨rfl,rfl⟩:=e1
  rw[hv1]at e2
  exact(Option.some.inj e2).symm
 obtain⟨g',ρ',k1,k2⟩:=hsim.upd (w':=w') k ⟨h5.os,h5.tape,h5.output⟩ h5.size (λb hb hne=>h5.block b hb (by rw[←hbv];exact λe=>hne g _ v hob hv1 e.symm)) (x':=v') (o':=.arr T n (rows++news))
  (λb hb=>by
   have hb:blk v'=some b:=hb
   rw[hbv']at hb
   rcases h6 with e|e
   ·rw[e,←hbv]at hb
    exact .inr ⟨g,_,v,hob,hv1,hb⟩
   ·rw[e]at hb
    simp at hb
    exact .inl (by omega))
  (λM' ρ' hK _=>⟨vals++us,by rw[List.length_append,List.flatten_append];exact h4,by
   have r1:=hrows.mono hK
   have r2:=hur.mono hK
   refine⟨by simp[r1.1,r2.1],λi r v h7 h8=>?_⟩
   rcases Nat.lt_or_ge i rows.length with hi|hi
   ·rw[List.getElem?_append_left hi]at h7
    rw[List.getElem?_append_left (by rw[r1.1];exact hi)]at h8
    exact r1.2 i r v h7 h8
   ·rw[List.getElem?_append_right hi]at h7
    rw[List.getElem?_append_right (by rw[r1.1];exact hi),r1.1]at h8
    exact r2.2 _ r v h7 h8,by obtain⟨a,c,e⟩:=hv';exact⟨a,c,by rw[e,List.length_append]⟩,by simp[maxI];omega,λb hb=>by
   rw[hbv']at hb
   rcases h6 with e|e
   ·rw[e,←hbv]at hb
    exact hlb b hb
   ·rw[e]at hb
    simp at hb
    exact .inl (by have:=hsim.ext.size;omega)⟩)
 refine wpList_plain hg λK hK=>wp_upon ?_
 have e:(execOp a.eval o).run P w=.ok (.value v') w':=by
  simp only[execOp,ho,resolve,invoke,builtin,Sem.run_bind,Sem.run_pure,Result.andThen_ok,List.map_toArray,List.map_cons,List.map_nil,hvs,h3]
 rw[e]
 refine hK _ _ ((h g').out _ _ ⟨ρ',?_⟩)
 rw[hd]
 exact k1.set hN ⟨k2,by obtain⟨a,c,e⟩:=hv';rw[e];rfl⟩
theorem Al_overlaps {f:FuncId}{d k g k2 g2 n lo h:Nat}{x y:Operand}{tS tR e T T2:TypeId}{ts:Array TypeId}{rows rows2:List (List AV)}(hcf:∀(args:Array Value) (w:World),(callFunc f args).run P w=((Extern.SlicesOverlaps.overlaps #[tS,tS] #[tR] args).run P w).andThen λv w'=>.ok (.value v) w') (ho:o.op=.call ⟨.value (.func f),#[x,y],ts⟩) (hg:o.guard=none) (hd:o.dst=some d) (hN:d<N) (hc:conB o=true) (ht:P.underlying tS=some (.slice e)) (hz:∀w,(sizeOf e).run P w=.ok n w) (hn:0<n)
  (hx:st.ev x=.ow k2 g2) (hob2:st.ob k2=some (g2,.arr T2 n rows2)) (hr2:0<rows2.length) (hy:st.ev y=.ows k g n lo h) (hob:st.ob k=some (g,.arr T n rows)) (hkk:Nat.beq k2 k=false) (hlh:lo<h)
  (hr:Al P N M0 w0 ops Q l (st.set d (.d (.v (.bool false))))):Al P N M0 w0 ops Q (o::l) st:=by
 refine⟨?_⟩
 rintro a w ⟨ρ,hsim⟩
 have hev:=hsim.ev hc
 have h1:=hev x (mem_call ho x (by simp))
 have h2:=hev y (mem_call ho y (by simp))
 rw[hx]at h1
 rw[hy]at h2
 obtain⟨k1,_⟩:=h1
 obtain⟨u,hu,hO⟩:=hsim.obj k2 g2 _ hob2
 rw[k1]at hu;cases hu
 obtain⟨ad,len,cp,a',m1,m2,m3,m4,m5⟩:=h2
 obtain⟨b,rfl,rfl⟩:=m5 hlh
 obtain⟨u,hu,hO1⟩:=hsim.obj k g _ hob
 rw[m1]at hu;cases hu
 obtain⟨cap,cur,vals,he,hgb,hnc,hcp,hsz,htk,hrw,hl,hlb⟩:=arr_at hO1 (b:=b) rfl
 obtain⟨a2,c2,he2,hc2,_,hb2⟩:=hO.form
 obtain⟨b2,rfl⟩:=hb2 (by omega)
 rw[he2]at hO k1
 obtain⟨cap2,cur2,vals2,he3,hgb2,hnc2,_,hsz2,_⟩:=arr_at hO (b:=b2) rfl
 have hne:b2≠b:=λe=>by
  have:=hsim.apart k2 g2 _ k g _ _ _ b hob2 hob k1 m1 (by simp[blk,e]) (by simp[blk])
  subst this
  simp at hkk
 have hcap:0<cap:=by cases he;omega
 refine wpList_plain hg λK hK=>wp_upon ?_
 have hov:=Lib.run_overlaps_apart (P:=P) w tS tR e ht n hz ⟨b2,0,none⟩ ⟨b,lo*n,none⟩ rows2.length c2 (h - lo) (cp - lo) hne T2 T cur2.size cur.size (by simp[World.shape?,hgb2]) (by simp[World.shape?,hgb]) (by rw[hsz];exact Nat.pos_iff_ne_zero.1 (Nat.mul_pos hcap hn)) (by simp[World.frozen?,hgb2]) (by simp[World.frozen?,hgb2])
 have e:(execOp a.eval o).run P w=.ok (.value (.bool false)) w:=by
  simp only[execOp,ho,resolve,Act.eval,Deferred.ofValue,invoke,Sem.run_bind,Sem.run_pure,Result.andThen_ok,List.map_toArray,List.map_cons,List.map_nil]
  rw[hcf]
  have hx':a.eval x=.slice (some ⟨b2,0,none⟩) rows2.length c2:=he2
  have hy':a.eval y=.slice (some ⟨b,lo*n,none⟩) (h - lo) (cp - lo):=m2
  show((Extern.SlicesOverlaps.overlaps #[tS,tS] #[tR] #[a.eval x,a.eval y]).run P w).andThen _=_
  rw[hx',hy',hov]
  rfl
 rw[e]
 refine hK _ _ (hr.out _ _ ⟨ρ,?_⟩)
 rw[hd]
 exact hsim.set hN (.v _ trivial)
theorem Al_eqnil {d:Nat}{x:Operand}{t e yt:TypeId}{n:Nat}{rows:List (List AV)}(ho:o.op=.binOp .eql t x (.const (.slice none 0 0)) yt) (hg:o.guard=none) (hd:o.dst=some d) (hN:d<N) (hc:conB o=true) (ht:P.underlying t=some (.slice e)) (hx:st.ev x=.d (.sl n rows))
  (hr:∀b:Bool,(b=true→rows=[])→Al P N M0 w0 ops Q l (st.set d (.d (.v (.bool b))))):Al P N M0 w0 ops Q (o::l) st:=by
 refine⟨?_⟩
 rintro a w ⟨ρ,hsim⟩
 have h1:=hsim.ev hc x (by simp[opsOf,ho,Op.operands])
 rw[hx]at h1
 have h1:Rep (Mt M0 ρ st.ob) w (.sl n rows) (a.eval x):=h1
 have hf:∃ad len cap,a.eval x=.slice ad len cap∧(ad=none→rows=[]):=by
  generalize a.eval x=y at h1
  cases h1 with
  | nil n a c=>exact⟨_,_,_,rfl,λ_=>rfl⟩
  | sl n rows b o' cap f hl hcap=>exact⟨_,_,_,rfl,λh=>by cases h⟩
 obtain⟨ad,len,cap,he,hn⟩:=hf
 refine wpList_plain hg λK hK=>wp_upon ?_
 have e:(execOp a.eval o).run P w=.ok (.value (.bool ad.isNone)) w:=by
  simp only[execOp,ho,he,Sem.run_bind,Sem.run_pure,Result.andThen_ok]
  have hq:(eqGuard .eql t x (.const (.slice none 0 0)) (.slice ad len cap) (a.eval (.const (.slice none 0 0)))).run P w=.ok () w:=by
   simp[eqGuard,Act.eval]
  have h2:=Lib.run_eql_slice_nil (P:=P) w t e ad len cap 0 0 ht
  first|(rw[hq];simp only[Result.andThen_ok];exact(by simp[Act.eval,h2]))|simp[Act.eval,h2]
 rw[e]
 refine hK _ _ ((hr ad.isNone (λh=>hn (by simpa using h))).out _ _ ⟨ρ,?_⟩)
 rw[hd]
 exact hsim.set hN (.v _ trivial)
def plainA:AV→Bool
 | .v _=>true
 | .row cs=>cs.all fun|.v _=>true|_=>false
 | .tup cs=>cs.all fun|.v _=>true|_=>false
 | _=>false
theorem Rep.plain {M M':Nat→Prop}{w:World}{a:AV}{x:Value}(h:Rep M w a x) (hp:plainA a=true):Rep M' w a x:=by
 cases h with
 | v _ h=>exact .v _ h
 | row cs vs hl h1 hr =>
  refine .row cs vs hl h1 λj a x h2 h3=>?_
  have h4:=hr j a x h2 h3
  have:=List.all_eq_true.1 (show cs.all _=true from hp) a (List.mem_of_getElem? h2)
  cases h4 with
  | v _ h=>exact .v _ h
  | _=>simp at this
 | tup cs vs hl hr =>
  refine .tup cs vs hl λj a x h2 h3=>?_
  have h4:=hr j a x h2 h3
  have:=List.all_eq_true.1 (show cs.all _=true from hp) a (List.mem_of_getElem? h2)
  cases h4 with
  | v _ h=>exact .v _ h
  | _=>simp at this
 | _=>cases hp
def ArgsR (st:ASt):List Operand→List AV→Prop
 | [],[]=>True
 | x::xs,a::aa=>(Sub (st.ev x) (.d a)∨∃k g T n rows,st.ev x=.ow k g∧st.ob k=some (g,.arr T n rows)∧a=.sl n rows)∧ArgsR st xs aa
 | _,_=>False
def NoRows (M:Nat→Prop) (ρ:Rho) (ob:Nat→Option (Nat×AO)):Nat→Prop:=λb=>M b∧¬∃k g T n rows h,ob k=some (g,.arr T n rows)∧ρ k g=some h∧blk h=some b
theorem ArgsR.rep {B:Base}{M:Nat→Prop}{w:World}{ρ:Rho}{a:Act}(h3:∀k g ob,st.ob k=some (g,ob)→∃h,ρ k g=some h∧ORep B M w ρ h ob):∀{xs:List Operand}{aa:List AV},ArgsR st xs aa→(∀x∈xs,SRep M w ρ (st.ev x) (a.eval x))→AllRep (NoRows M ρ st.ob) w aa (xs.map a.eval)
 | [],[],_,_=>⟨rfl,λj a x h=>by simp at h⟩
 | x::xs,b::aa,h,hs=>by
  have ih:=ArgsR.rep h3 h.2 λy hy=>hs y (by simp[hy])
  have h1:=hs x (by simp)
  have hx:Rep (NoRows M ρ st.ob) w b (a.eval x):=by
   rcases h.1 with h5|⟨k,g,T,n,rows,h5,h6,rfl⟩
   ·exact(show Rep M w b (a.eval x)from h5 M w ρ _ h1).mono (Known.sub λb hb=>hb.1)
   ·rw[h5]at h1
    obtain⟨k1,_⟩:=h1
    obtain⟨u,hu,hO⟩:=h3 k g _ h6
    rw[k1]at hu;cases hu
    exact hO.frz (Known.sub λb hb=>hb.1) λb hb hm=>hm.2 ⟨k,g,T,n,rows,_,h6,k1,hb⟩
  refine⟨by simp[ih.1],λj c y h5 h6=>?_⟩
  cases j with
  | zero=>simp at h5 h6;subst h5 h6;exact hx
  | succ j=>exact ih.2 j c y (by simpa using h5) (by simpa using h6)
theorem Pu_callR {f:FuncId}{xs:Array Operand}{ts:Array TypeId}{aa:List AV}{res:AV}(hc:ACall P f aa res) (ho:o.op=.call ⟨.value (.func f),xs,ts⟩) (hp:plainA res=true) (ha:ArgsR st xs.toList aa):Pu P st o (.d res):=λB M ρ w a hM h2 h3 hev K hK=>by
 have h4:=ha.rep (a:=a) h3 λx hx=>h2 x (mem_call ho x (by simpa using hx))
 have h5:=hc.2 (NoRows M ρ st.ob) w _ (λb hb=>hM b hb.1) h4
 have e:(execOp a.eval o).run P w=.ok (.enter f (xs.toList.map a.eval).toArray) w:=by
  simp only[execOp,ho,resolve,Act.eval,Deferred.ofValue,invoke,Sem.run_bind,Sem.run_pure,Result.andThen_ok]
  rw[hc.1]
  congr 2
  apply Array.ext'
  simp
 rw[e]
 exact h5.mono λe w' ⟨v,h6,h7,h8⟩=>⟨v,h6,hK v w' (Kn.ext h7) (h8.plain hp)⟩
end
end Go.Proofs.YtdnijgdmohinlaaGreat.A
end
section
namespace Go.Proofs.YtdnijgdmohinlaaGreat.R
open Go Go.RowKit Go.Maps Go.MapKept Go.ChangeMaps
structure KeyT (P:Program) (k:TypeId) (κ:Type) (kv:κ→Value) (ok:κ→Prop):Prop where
 check:∀(w:World) (em:Bool) (a:κ),ok a→(Instr.checkKey em 10000 k (kv a)).run P w=.ok () w
 find:∀(w:World) (a:κ),ok a→∀es:List MapEntry,(∀e∈es,∃c,ok c∧e.key=kv c) →
  ((Instr.findKey k (kv a) es).run P w=.ok none w∧∀e∈es,e.key≠kv a)∨∃j e,(Instr.findKey k (kv a) es).run P w=.ok (some (j,e.val)) w∧es[j]?=some e∧e.key=kv a
 stays:∀(w:World) (a:κ),ok a→(Instr.keyThatStays (kv a) (kv a)).run P w=.ok (kv a) w
 inj:∀a b,kv a=kv b→a=b
theorem KeyT.of {P:Program}{k:TypeId}{κ:Type}{kv:κ→Value}{ok:κ→Prop}(K:Keyed P k) (lit:∀a,ok a→∃l,keyOf P k (kv a)=some l) (inj:∀a b,kv a=kv b→a=b):KeyT P k κ kv ok where
 check w em a ha:=by obtain⟨l,hl⟩:=lit a ha;exact K.check w em hl
 find w a ha es he:=by
  obtain⟨l,hl⟩:=lit a ha
  exact K.find w hl es λe h=>by obtain⟨c,hc,hk⟩:=he e h;rw[hk];exact lit c hc
 stays w a ha:=by obtain⟨l,hl⟩:=lit a ha;exact K.stays w hl
 inj:=inj
def Mp {κ α:Type}(kv:κ→Value) (ok:κ→Prop) (V:World→Value→α→Prop) (w:World) (b n:Nat) (m:κ→Option α):Prop :=
 ∃es clock,w.heap[b]?=some (.map es clock)∧Stamped es clock∧es.size≤n∧(∀e∈es.toList,∃a x,ok a∧e.key=kv a∧m a=some x∧V w e.val x)∧(∀a x,m a=some x→∃e∈es.toList,e.key=kv a)
section
variable {P:Program}{k t e:TypeId}{κ α:Type}{kv:κ→Value}{ok:κ→Prop}{V V':World→Value→α→Prop}{w w':World}{b n:Nat}{m:κ→Option α}
theorem Mp.made (kv:κ→Value) (ok:κ→Prop) (V:World→Value→α→Prop) (w:World):Mp kv ok V (w.alloc (.map #[] 0)) w.heap.size 0 (λ_=>none) :=
 ⟨#[],0,(MapKept.heap_alloc w _).1,stamped_empty 0,by simp,by simp,by simp⟩
theorem Mp.mono (h:Mp kv ok V w b n m) (hb:w'.heap[b]?=w.heap[b]?) (hV:∀v x,V w v x→V' w' v x):Mp kv ok V' w' b n m:=by
 obtain⟨es,clock,h1,h2,h3,h4,h5⟩:=h
 refine⟨es,clock,hb.trans h1,h2,h3,λe he=>?_,h5⟩
 obtain⟨a,x,ha,hk,hm,hv⟩:=h4 e he
 exact⟨a,x,ha,hk,hm,hV _ _ hv⟩
theorem Mp.lt (h:Mp kv ok V w b n m):b<w.heap.size:=by
 obtain⟨es,clock,h1,_⟩:=h
 exact(Array.getElem?_eq_some_iff.1 h1).1
theorem Mp.look (h:Mp kv ok V w b n m) (T:KeyT P k κ kv ok) (ht:P.underlying t=some (.map k e)) {z:Value}(hz:∀w,(zeroValue e).run P w=.ok z w) (a:κ) (ha:ok a) (c:Bool) :
  ∃v,(Instr.lookup t (.map (some b)) (kv a) c).run P w=.ok (if c then .tuple #[v,.bool (m a).isSome]else v) w∧(∀x,m a=some x→V w v x)∧(m a=none→v=z):=by
 obtain⟨es,clock,h1,h2,h3,h4,h5⟩:=h
 have hes:∀e∈es.toList,∃c,ok c∧e.key=kv c:=λe he=>by
  obtain⟨a',x',ha',hk',_,_⟩:=h4 e he
  exact⟨a',ha',hk'⟩
 rcases T.find w a ha es.toList hes with⟨g1,g2⟩|⟨j,e0,g1,g2,g3⟩
 ·have hn:m a=none:=by
   cases hm:m a with
   | none=>rfl
   | some x=>obtain⟨e,he,hk⟩:=h5 a x hm;exact(g2 e he hk).elim
  refine⟨z,?_,λx hx=>(by rw[hn]at hx;cases hx),λ_=>rfl⟩
  cases c<;>simp[Instr.lookup,run_underlying ht,MapKept.run_getObj_map h1,T.check w _ a ha,g1,hz,Result.andThen,hn]
 ·have he0:e0∈es.toList:=List.mem_of_getElem? g2
  obtain⟨a',x',ha',hk',hm',hv'⟩:=h4 e0 he0
  obtain rfl:=T.inj _ _ (g3.symm.trans hk')
  refine⟨e0.val,?_,λx hx=>(by rw[hm']at hx;cases hx;exact hv'),λhx=>(by rw[hm']at hx;cases hx)⟩
  cases c<;>simp[Instr.lookup,run_underlying ht,MapKept.run_getObj_map h1,T.check w _ a ha,g1,Result.andThen,hm']
theorem grown_set (w:World) (b:Nat) (o:Obj):w.grownBy (setBlock w b o) (some b) :=
 ⟨rfl,rfl,rfl,by simp[setBlock],λi _ hi=>by simp[setBlock,Array.getElem?_setIfInBounds];intro e;exact(hi (by rw[e])).elim⟩
theorem set_at {w:World}{b:Nat}(h:b<w.heap.size) (o:Obj):(setBlock w b o).heap[b]?=some o:=by simp[setBlock,h]
theorem Mp.store [DecidableEq κ] (h:Mp kv ok V w b n m) (T:KeyT P k κ kv ok) (ht:P.underlying t=some (.map k e)) (hn:n<maxLen) (a:κ) (ha:ok a) (v:Value) (x:α)
  (hst:∀w',w.grownBy w' (some b)→w'.heap.size=w.heap.size→∀v x,V w v x→V w' v x) (hv:V w v x) :
  ∃w',(Instr.mapUpdate t (.map (some b)) (kv a) v).run P w=.ok () w'∧Mp kv ok V w' b (n+1) (λc=>if c=a then some x else m c)∧w.grownBy w' (some b)∧w'.heap.size=w.heap.size:=by
 have hlt:=h.lt
 obtain⟨es,clock,h1,h2,h3,h4,h5⟩:=h
 have hes:∀e∈es.toList,∃c,ok c∧e.key=kv c:=λe he=>by
  obtain⟨a',x',ha',hk',_,_⟩:=h4 e he
  exact⟨a',ha',hk'⟩
 have hsz:∀o,(setBlock w b o).heap.size=w.heap.size:=λo=>by simp[setBlock]
 rcases T.find w a ha es.toList hes with⟨g1,g2⟩|⟨j,e0,g1,g2,g3⟩
 ·refine⟨setBlock w b (.map (es.push ⟨kv a,v,clock⟩) (clock+1)),?_,⟨_,_,set_at hlt _,stamped_push h2 g2,by simp;omega,λe he=>?_,λc y hc=>?_⟩,grown_set _ _ _,hsz _⟩
  ·simp[Instr.mapUpdate,run_underlying ht,MapKept.run_getObj_map h1,T.check w false a ha,g1,MapKept.run_setObj_map _ h1,Result.andThen,setBlock]
  ·simp only[Array.toList_push,List.mem_append,List.mem_singleton]at he
   rcases he with he|rfl
   ·obtain⟨a',x',ha',hk',hm',hv'⟩:=h4 e he
    refine⟨a',x',ha',hk',?_,hst _ (grown_set _ _ _) (hsz _) _ _ hv'⟩
    dsimp only;rw[if_neg (λe1=>g2 e he (by rw[hk',e1]))];exact hm'
   ·exact⟨a,x,ha,rfl,by simp,hst _ (grown_set _ _ _) (hsz _) _ _ hv⟩
  ·by_cases e1:c=a
   ·subst e1;exact⟨_,by simp;exact .inr rfl,rfl⟩
   ·dsimp only at hc;rw[if_neg e1]at hc
    obtain⟨e,he,hk⟩:=h5 c y hc
    exact⟨e,by simp at he ⊢;exact .inl he,hk⟩
 ·have hj:es[j]?=some e0:=by simpa using g2
  have hjl:j<es.toList.length:=(List.getElem?_eq_some_iff.1 g2).1
  have hlist:(es.modify j (λe'=>{e' with key:=kv a,val:=v})).toList=es.toList.set j {e0 with key:=kv a,val:=v}:=by rw[Array.toList_modify,modify_eq_set _ _ _ _ g2]
  have hap:=((stamped_iff es clock).1 h2).2.2
  have other:∀(i:Nat) (y:MapEntry),es.toList[i]?=some y→i≠j→y.key≠kv a:=λi y hi hne hk=>by
   have hil:i<es.toList.length:=(List.getElem?_eq_some_iff.1 hi).1
   have e1:=(List.getElem?_eq_some_iff.1 hi).2
   have e2:=(List.getElem?_eq_some_iff.1 g2).2
   rcases Nat.lt_or_gt_of_ne hne with hlt|hlt
   ·exact List.pairwise_iff_getElem.1 hap i j hil hjl hlt (by rw[e1,e2,hk,g3])
   ·exact List.pairwise_iff_getElem.1 hap j i hjl hil hlt (by rw[e1,e2,hk,g3])
  refine⟨setBlock w b (.map (es.modify j (λe'=>{e' with key:=kv a,val:=v})) clock),?_,⟨_,_,set_at hlt _,stamped_modify h2 _ _ (λ_ _=>rfl) (λe' _ he'=>by rw[hj]at he';cases he';exact g3.symm),by simp;omega,λe he=>?_,λc y hc=>?_⟩,grown_set _ _ _,hsz _⟩
  ·simp[Instr.mapUpdate,run_underlying ht,MapKept.run_getObj_map h1,T.check w false a ha,g1,hj,g3,T.stays w a ha,MapKept.run_setObj_map _ h1,Result.andThen,setBlock]
  ·rw[hlist]at he
   obtain⟨i,hi,ex⟩:=List.getElem_of_mem he
   rw[List.getElem_set]at ex
   split at ex
   ·subst ex
    exact⟨a,x,ha,rfl,by simp,hst _ (grown_set _ _ _) (hsz _) _ _ hv⟩
   ·rename_i hne
    have hi':i<es.toList.length:=by simpa using hi
    have hie:es.toList[i]?=some e:=by rw[List.getElem?_eq_getElem hi',ex]
    obtain⟨a',x',ha',hk',hm',hv'⟩:=h4 e (List.mem_of_getElem? hie)
    refine⟨a',x',ha',hk',?_,hst _ (grown_set _ _ _) (hsz _) _ _ hv'⟩
    dsimp only;rw[if_neg (λe1=>other i e hie (λh=>hne h.symm) (by rw[hk',e1]))];exact hm'
  ·rw[hlist]
   by_cases e1:c=a
   ·subst e1;exact⟨{e0 with key:=kv c,val:=v},List.mem_iff_getElem.2 ⟨j,by simpa using hjl,by simp⟩,rfl⟩
   ·dsimp only at hc;rw[if_neg e1]at hc
    obtain⟨e,he,hk⟩:=h5 c y hc
    obtain⟨i,hi,ex⟩:=List.getElem_of_mem he
    have hne:j≠i:=λhh=>by
     subst hh
     have:es.toList[j]=e0:=(List.getElem?_eq_some_iff.1 g2).2
     rw[ex]at this
     subst this
     exact e1 (T.inj _ _ (hk.symm.trans g3))
    exact⟨e,List.mem_iff_getElem.2 ⟨i,by simpa using hi,by rw[List.getElem_set_ne hne];exact ex⟩,hk⟩
end
section
variable {P:Program}{w:World}{ops:Array Oper}{rest:List Oper}{o:Oper}{a:Act}{Q:Exit→Act→World→Prop}
end
end Go.Proofs.YtdnijgdmohinlaaGreat.R
namespace Go.Proofs.YtdnijgdmohinlaaGreat.R
open Go Go.RowKit
theorem flat_take {n:Nat}:∀(cur:List (List Value)) (i:Nat),(∀r∈cur,r.length=n)→cur.flatten.take (i*n)=(cur.take i).flatten
 | [],i,_=>by simp
 | r::c,0,_=>by simp
 | r::c,i+1,h=>by
  have hr:=h r (by simp)
  have ih:=flat_take c i λx hx=>h x (by simp[hx])
  rw[List.flatten_cons,List.take_succ_cons,List.flatten_cons,←ih,show(i+1)*n=r.length+i*n from by rw[hr,Nat.add_mul];omega,List.take_length_add_append]
theorem flat_drop {n:Nat}:∀(cur:List (List Value)) (i:Nat),(∀r∈cur,r.length=n)→cur.flatten.drop (i*n)=(cur.drop i).flatten
 | [],i,_=>by simp
 | r::c,0,_=>by simp
 | r::c,i+1,h=>by
  have hr:=h r (by simp)
  have ih:=flat_drop c i λx hx=>h x (by simp[hx])
  rw[List.flatten_cons,List.drop_succ_cons,←ih,show(i+1)*n=r.length+i*n from by rw[hr,Nat.add_mul];omega,List.drop_append,List.drop_of_length_le (by omega:r.length≤r.length+i*n),Nat.add_sub_cancel_left,List.nil_append]
section
variable {α:Type}{n:Nat}{e:TypeId}
variable {w w':World}{g:Nat}{L:List (List Value×α)}{tail:List Value}{p:α→Bool}{i j k:Nat}
end
end Go.Proofs.YtdnijgdmohinlaaGreat.R
namespace Go.Proofs.YtdnijgdmohinlaaGreat
open Go.RowKit R
structure Dep where
 key:ByteArray
 n:Int
 s:Int
def inI (x:Int):Prop:= -9223372036854775808≤x∧x≤9223372036854775807
instance:GoT Dep where
 n:=3
 pos:=by decide
 rep _ _ cs d:=cs=[.string d.key,.int .i64 d.n,.int .i64 d.s]∧d.key.size≤9223372036854775807∧inI d.n∧inI d.s
 len h:=by rw[h.1];rfl
 one h c hc:=by rw[h.1]at hc;simp at hc;rcases hc with rfl|rfl|rfl<;>rfl
 mono _ h:=h
structure Event where
 kind:Int
 client:Int
 key:ByteArray
 n:Int
 s:Int
 seen:List Dep
instance:GoT Event where
 n:=6
 pos:=by decide
 rep K w cs e:=∃v,cs=[.int .i64 e.kind,.int .i64 e.client,.string e.key,.int .i64 e.n,.int .i64 e.s,v]∧(e.key.size≤9223372036854775807∧inI e.kind∧inI e.client∧inI e.n∧inI e.s)∧Sl K w v e.seen
 len h:=by obtain⟨v,h,_⟩:=h;rw[h];rfl
 one h c hc:=by
  obtain⟨v,h,_,a,cap,hv,_⟩:=h
  rw[h]at hc;simp at hc
  rcases hc with rfl|rfl|rfl|rfl|rfl|rfl
  all_goals first|rfl|(rw[hv];rfl)
 mono hk h:=by
  obtain⟨v,h1,h2,h3⟩:=h
  exact⟨v,h1,h2,h3.mono hk⟩
theorem event_elem:ElemT Tryz.prog 61 107 6 72:=⟨Tryz.underlying61,by
 have h:(Tryz.prog.info? 107).map (λi=>(i.zero,i.size,i.bytes))=some (some (.agg #[.int .i64 0,.int .i64 0,.string ⟨#[]⟩,.int .i64 0,.int .i64 0,.slice none 0 0]),6,72):=by kernel_rfl
 obtain⟨i,hi,h1,h2,h3⟩:=info_parts h
 exact⟨i,_,hi,h1,h2,h3,rfl⟩⟩
end Go.Proofs.YtdnijgdmohinlaaGreat
end
section
namespace Go.Proofs.YtdnijgdmohinlaaGreat.A
open Go Go.RowKit
section
variable {P:Program}{N:Nat}{M0:Nat→Prop}{w0:Base}{ops:Array Oper}{Q:Exit→ASt→Prop}{o:Oper}{l:List Oper}{st:ASt}
theorem made_list {z:Value}(hz:z.cells=#[z]) (n:Nat):(madeCells z.cells (n*1)).toList=List.replicate n z:=by
 rw[hz,Nat.mul_one]
 apply List.ext_getElem
 ·simp[madeCells]
 ·intro i h1 h2
  simp[madeCells,Nat.mod_one]
theorem rep_flat {α:Type}(n:Nat) (z:α):(List.replicate n [z]).flatten=List.replicate n z:=by
 induction n with
 | zero=>rfl
 | succ n ih=>rw[List.replicate_succ,List.flatten_cons,ih,List.replicate_succ];rfl
theorem Al_make1 {d:Nat}{t e:TypeId}{x y:Operand}{n bytes:Nat}{z:Value}(ho:o.op=.makeSlice t x y) (hg:o.guard=none) (hd:o.dst=some d) (hN:d<N) (hc:conB o=true) (ht:P.underlying t=some (.slice e)) (hi:(P.info? e).map (λi=>(i.zero,i.size,i.bytes))=some (some z,1,bytes)) (hz:z.cells=#[z]) (hv:vok z) (hx:st.ev x=.d (.v (.int .i64 n))) (hy:st.ev y=.d (.v (.int .i64 n))) (hn:n≤4294967296) (hby:bytes≤32768)
  (h:∀g,Al P N M0 w0 ops Q l ((st.put d g (.arr e 1 (List.replicate n [.v z]))).set d (.ow d g))):Al P N M0 w0 ops Q (o::l) st:=by
 refine⟨?_⟩
 rintro a w ⟨ρ,hsim⟩
 have hev:=hsim.ev hc
 have h1:=hev x (by simp[opsOf,ho,Op.operands])
 have h2:=hev y (by simp[opsOf,ho,Op.operands])
 rw[hx]at h1
 rw[hy]at h2
 obtain⟨e1,_⟩:=rep_v h1
 obtain⟨e2,_⟩:=rep_v h2
 obtain⟨i,hi1,hi2⟩:=Option.map_eq_some_iff.1 hi
 simp only[Prod.mk.injEq]at hi2
 obtain⟨i1,i2,i3⟩:=hi2
 have hmul:bytes*n≤32768*4294967296:=Nat.mul_le_mul hby hn
 obtain⟨w',hr,hown,hgr⟩:=run_make_full (P:=P) w 0 t e i z 1 ht hi1 i1 i2 .i64 .i64 n (by rw[i3];omega) (by unfold maxLen;omega) (Nat.zero_le _)
 rw[made_list hz]at hown
 have hmax:n≤maxI:=by unfold maxI;omega
 have hE:Ev.Ext w w':=⟨hgr.os,hgr.tape,hgr.output,hgr.size,λb hb=>hgr.block b hb (λe=>by cases e)⟩
 obtain⟨g',ρ',k1,k2⟩:=hsim.upd (w':=w') d ⟨hgr.os,hgr.tape,hgr.output⟩ hgr.size (λb hb _=>hE.block b hb) (x':=.slice (some ⟨w.heap.size,0,none⟩) n n) (o':=.arr e 1 (List.replicate n [.v z])) (λb hb=>by simp[blk]at hb;exact .inl (by omega))
  (λM' ρ' hK _=>⟨List.replicate n [z],⟨by simp,by
   rw[rep_flat,List.length_replicate]
   exact hown.2⟩,⟨by simp,λi r v h3 h4=>by
   rw[List.getElem?_replicate]at h3 h4
   split at h3
   ·rename_i hin
    rw[if_pos hin]at h4
    simp only[Option.some.injEq]at h3 h4
    subst h3 h4
    refine⟨rfl,rfl,λj c x h5 h6=>?_⟩
    match j,h5,h6 with
    | 0,h5,h6 =>
     simp only[List.getElem?_cons_zero,Option.some.injEq]at h5 h6
     subst h5 h6
     exact⟨.v _ hv,hv.one⟩
    | j+1,h5,h6=>simp at h5
   ·cases h3⟩,⟨_,n,by rw[List.length_replicate]⟩,by rw[List.length_replicate];exact hmax,λb hb=>by
   simp only[blk,Option.some.injEq]at hb
   subst hb
   exact .inl hsim.ext.size⟩)
 refine wpList_plain hg λK hK=>wp_upon ?_
 have e':(execOp a.eval o).run P w=.ok (.value (.slice (some ⟨w.heap.size,0,none⟩) n n)) w':=by
  simp only[execOp,ho,Sem.run_bind,e1,e2,hr,Result.andThen_ok,Sem.run_pure]
 rw[e']
 refine hK _ _ ((h g').out _ _ ⟨ρ',?_⟩)
 rw[hd]
 exact k1.set hN ⟨k2,rfl⟩
end
end Go.Proofs.YtdnijgdmohinlaaGreat.A
namespace Go.Proofs.YtdnijgdmohinlaaGreat.A
open Go Go.RowKit
def mapO {κ α:Type}(kv:κ→Value) (ok:κ→Prop) (enc:α→AV) (b n:Nat) (m:κ→Option α):OP where
 F:=λc=>c=b
 I:=λM w _ h=>h=.map (some b)∧R.Mp kv ok (λw v x=>Rep M w (enc x) v) w b n m
 mono:=λ{M M' w w' ρ h} k hb hI=>⟨hI.1,hI.2.mono (hb b rfl) λv x hv=>hv.mono k⟩
 rho:=λ_ h=>h
 lt:=λ{M w ρ h} hI c hc=>by subst hc;exact hI.2.lt
section
variable {P:Program}{N:Nat}{M0:Nat→Prop}{w0:Base}{ops:Array Oper}{Q:Exit→ASt→Prop}{o:Oper}{l:List Oper}{st:ASt}
theorem Al_makeMap {κ α:Type}(kv:κ→Value) (ok:κ→Prop) (enc:α→AV) {d:Nat}{t:TypeId}(ho:o.op=.makeMap t none) (hg:o.guard=none) (hd:o.dst=some d) (hN:d<N)
  (h:∀b g,Al P N M0 w0 ops Q l ((st.put d g (.op (mapO kv ok enc b 0 (λ_=>none)))).set d (.ow d g))):Al P N M0 w0 ops Q (o::l) st:=by
 refine⟨?_⟩
 rintro a w ⟨ρ,hsim⟩
 obtain⟨g',ρ',r1,r2,r3⟩:=hsim.upd2 (w':=w.alloc (.map #[] 0)) d ⟨rfl,rfl,rfl⟩ (by simp) (λb hb _=>heap_alloc_old w _ hb) (x':=.map (some w.heap.size)) (o':=.op (mapO kv ok enc w.heap.size 0 (λ_=>none))) (λb hb=>.inl (by have:b=w.heap.size:=hb;omega))
  (λM' ρ' hK _=>⟨λb hb=>.inl (by have:b=w.heap.size:=hb;have:=hsim.ext.size;omega),rfl,R.Mp.made kv ok _ w⟩)
 refine wpList_plain hg λK hK=>wp_upon ?_
 have e:(execOp a.eval o).run P w=.ok (.value (.map (some w.heap.size))) (w.alloc (.map #[] 0)):=by
  simp only[execOp,ho,Option.map_none,Sem.run_bind,run_makeMap,Result.andThen_ok,Sem.run_pure]
 rw[e]
 refine hK _ _ ((h w.heap.size g').out _ _ ⟨ρ',?_⟩)
 rw[hd]
 exact r1.set hN ⟨r2,rfl⟩
def Only (a:AV) (x:Value):Prop:=∀(M:Nat→Prop) (w:World) (y:Value),Rep M w a y→y=x
theorem Only.v (x:Value):Only (.v x) x:=λM w y h=>by cases h;rfl
theorem Only.row (us:List Value):Only (.row (us.map .v)) (.agg us.toArray):=λM w y h=>by
 cases h with
 | row cs vs hl h1 hr =>
  congr 2
  apply List.ext_getElem?
  intro j
  rw[List.length_map]at hl
  rcases Nat.lt_or_ge j us.length with hj|hj
  ·have h2:=hr j (.v us[j]) (vs[j]'(by omega)) (by simp[hj]) (by simp[hl,hj])
   have:vs[j]'(by omega)=us[j]:=by generalize vs[j]'(by omega)=u at h2;cases h2;rfl
   rw[List.getElem?_eq_getElem hj,List.getElem?_eq_getElem (by omega),this]
  ·rw[List.getElem?_eq_none hj,List.getElem?_eq_none (by omega)]
def lookA {α:Type}(enc:α→AV) (z:AV):Option α→AV
 | some x=>enc x
 | none=>z
theorem Pu_lookup {κ α:Type}{kv:κ→Value}{ok:κ→Prop}{enc:α→AV}{b n:Nat}{m:κ→Option α}{t kt e:TypeId}{x y:Operand}{k g:Nat}{ky z:AV}{zv:Value}{c:κ}(T:R.KeyT P kt κ kv ok) (ho:o.op=.lookup t x y false) (ht:P.underlying t=some (.map kt e)) (hz:∀w,(zeroValue e).run P w=.ok zv w) (hzr:∀M w,Rep M w z zv) (hx:st.ev x=.ow k g) (hob:st.ob k=some (g,.op (mapO kv ok enc b n m))) (hy:st.ev y=.d ky) (hky:Only ky (kv c)) (hok:ok c):Pu P st o (.d (lookA enc z (m c))):=λB M ρ w a hM h2 h3 hev K hK=>by
 have h1:=h2 x (by simp[opsOf,ho,Op.operands])
 have h4:=h2 y (by simp[opsOf,ho,Op.operands])
 rw[hx]at h1
 rw[hy]at h4
 obtain⟨k1,_⟩:=h1
 obtain⟨u,hu,_,he,hmp⟩:=h3 k g _ hob
 rw[k1]at hu;cases hu
 have hyv:=hky _ _ _ h4
 obtain⟨v,hr,hv1,hv2⟩:=hmp.look T ht hz c hok false
 have e:(execOp a.eval o).run P w=.ok (.value v) w:=by
  simp only[execOp,ho,he,hyv,hr,Sem.run_bind,Result.andThen_ok,Sem.run_pure,Bool.false_eq_true,if_false]
 rw[e]
 refine hK _ _ (Kn.refl _) ?_
 cases hm:m c with
 | none=>rw[hv2 hm];exact hzr M w
 | some x=>exact hv1 x hm
theorem Al_mapUpdate {κ α:Type}[DecidableEq κ] {kv:κ→Value}{ok:κ→Prop}{enc:α→AV}{b n:Nat}{m:κ→Option α}{t kt e:TypeId}{x y z:Operand}{k g:Nat}{ky:AV}{c:κ}{v:α}(T:R.KeyT P kt κ kv ok) (ho:o.op=.mapUpdate t x y z) (hg:o.guard=none) (hd:o.dst=none) (hc:conB o=true) (ht:P.underlying t=some (.map kt e)) (hn:n<maxLen) (hx:st.ev x=.ow k g) (hob:st.ob k=some (g,.op (mapO kv ok enc b n m))) (hy:st.ev y=.d ky) (hky:Only ky (kv c)) (hok:ok c) (hz:Sub (st.ev z) (.d (enc v)))
  (h:Al P N M0 w0 ops Q l (st.put k g (.op (mapO kv ok enc b (n+1) (λc'=>if c'=c then some v else m c'))))):Al P N M0 w0 ops Q (o::l) st:=by
 refine⟨?_⟩
 rintro a w ⟨ρ,hsim⟩
 have hev:=hsim.ev hc
 have h1:=hev x (by simp[opsOf,ho,Op.operands])
 have h4:=hev y (by simp[opsOf,ho,Op.operands])
 have h5:=hz _ _ _ _ (hev z (by simp[opsOf,ho,Op.operands]))
 rw[hx]at h1
 rw[hy]at h4
 obtain⟨k1,_⟩:=h1
 obtain⟨u,hu,hF,he,hmp⟩:=hsim.obj k g _ hob
 rw[k1]at hu;cases hu
 have hyv:=hky _ _ _ h4
 have hb:Mt M0 ρ st.ob b:=.inr ⟨k,g,_,_,hob,k1,rfl⟩
 have hkn:∀w',w.grownBy w' (some b)→w'.heap.size=w.heap.size→Known (Mt M0 ρ st.ob) (Mt M0 ρ st.ob) w w':=λw' hgr _ c' hc' hm=>⟨hm,hgr.block c' hc' (λe=>hm (by simp only[Option.some.injEq]at e;exact e▸hb))⟩
 obtain⟨w',hr,hmp',hgr,hsz⟩:=hmp.store T ht hn c hok (a.eval z) v (λw' hgr hs v x hv=>hv.mono (hkn w' hgr hs)) h5
 have hs2:=hsim.mod (w':=w') hob k1 ⟨hgr.os,hgr.tape,hgr.output⟩ hgr.size (λc' hc' hne=>hgr.block c' hc' (λe=>hne (by simp only[Option.some.injEq]at e;exact e))) (o':=.op (mapO kv ok enc b (n+1) (λc'=>if c'=c then some v else m c'))) (λM' hK hle=>⟨hF,he,hmp'.mono rfl λv x hv=>hv.mono (Known.sub hle)⟩) (λc' hc'=>hc')
 refine wpList_plain hg λK hK=>wp_upon ?_
 have e:(execOp a.eval o).run P w=.ok .skip w':=by
  simp only[execOp,ho,he,hyv,hr,Sem.run_bind,Result.andThen_ok,Sem.run_pure]
 rw[e]
 refine hK _ _ (h.out _ _ ⟨ρ,?_⟩)
 rw[hd]
 exact hs2
end
end Go.Proofs.YtdnijgdmohinlaaGreat.A
end
