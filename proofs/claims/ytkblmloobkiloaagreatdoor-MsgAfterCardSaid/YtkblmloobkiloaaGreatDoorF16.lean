/-
  MO2 MAO MTP MP4: what the laws of package msg need of them.
-/
import Derived.Test.YtkblmloobkiloaaGreatDoorF00
import Derived.Test.YtkblmloobkiloaaGreatDoorF03
import Derived.Test.YtkblmloobkiloaaGreatDoorF07
import Derived.Test.YtkblmloobkiloaaGreatDoorF15
import Derived.Test.YtkblmloobkiloaaGreatDoorF12
import Derived.Laws.RangeString
set_option maxRecDepth 100000
set_option maxHeartbeats 6400000
namespace Go.Proofs.YtkblmloobkiloaaGreatDoor
open Go.Lib (hid)
open Go.ChangeShapes Go.WideShapes Go.ChangeAt Go.RowKit
theorem ay{α:Type}{l:List α}{n:Nat}(h:l.length=n+1):∃a t,l=a::t∧t.length=n:=by
 cases l with
 |nil=>simp at h
 |cons a t=>exact⟨a,t,rfl,by simpa using h⟩
theorem len_nil{α:Type}{l:List α}(h:l.length=0):l=[]:=List.length_eq_zero_iff.1 h
section
variable {P:Program} {w:World} {r:Reach} {b0:Nat} {t:TypeId} {c:Value}
end
section
variable {H:Type} {enc:TypeId×Value→H} {P:Program} {w:World} {base fuel:Nat} {spare:Nat→Bool} {held:Bool} {t:TypeId} {cs:List Value} {x:DataW H×List MemPlace}
theorem aa_{fs:Array Field}(ht:P.underlying t=some (.struct fs))(h:DataW.trod enc P w base spare held fuel t cs=some x){j:Nat}{f:Field}(hf:fs[j]? =some f):
  ∃n y,DataW.trod enc P w base spare held n f.type ((cs.drop f.offset).take (P.cellsOf f.type))=some y∧∀k∈y.1.weights P f.type,k∈x.1.weights P t:=by
 obtain⟨xs,n,_,rfl,_,hl,hg⟩:=DataW.trod_struct ht h
 have hj:j<xs.length:=by rw[hl];exact(Array.getElem?_eq_some_iff.1 hf).1
 refine⟨n,xs[j],(hg j f hf).trans (List.getElem?_eq_getElem hj),fun k hk=> ?_⟩
 simp only[DataW.weights,ht]
 refine DataW.weights_mem_each (j:=j) (t:=f.type) (d:=xs[j].1) ?_ ?_ k hk
 ·rw[List.getElem?_map,Array.getElem?_toList,hf];rfl
 ·rw[List.getElem?_map,List.getElem?_eq_getElem hj];rfl
theorem cu{fs:Array Field}(ht:P.underlying t=some (.struct fs))(h:DataW.trod enc P w base spare held fuel t cs=some x)(j:Nat){f:Field}(hf:fs[j]? =some f)(u:TypeId){n:Nat}(hu:f.type=u)(hn:P.cellsOf u=n)(cs':List Value)(hcs:(cs.drop f.offset).take n=cs'):
  ∃m y,DataW.trod enc P w base spare held m u cs'=some y∧∀k∈y.1.weights P u,k∈x.1.weights P t:=by
 subst hu
 subst hn
 subst hcs
 exact aa_ ht h hf
theorem Aq(ht:P.underlying t=some .string){s:ByteArray}(h:DataW.trod enc P w base spare held fuel t [.string s]=some x):s.size∈x.1.weights P t:=by
 obtain⟨s',h1,hx,_⟩:=DataW.trod_string ht h
 simp at h1
 subst h1
 subst hx
 simp[DataW.weights]
end
section
variable {H:Type} {enc:TypeId×Value→H} {w:World} {base:Nat} {held:Bool} {fuel:Nat}
theorem aa7{t e:TypeId}{k:IntKind}{cs:List Value}{x:DataW H×List MemPlace}(ht:Tryz.prog.underlying t=some (.slice e))(he:Tryz.prog.underlying e=some (.int k))(hc:Tryz.prog.cellsOf e=1)
  (h:DataW.trod enc Tryz.prog w base (fun _=>true) held fuel t cs=some x):∃(A:Option Addr) (n cap:Nat) (zs:List Int),cs=[.slice A n cap]∧n≤cap∧cap≤maxLen∧zs.length=n∧Reads w w.heap.size 1 A n (zs.map (.int k))∧(∀z∈zs,(Lit.int k z).wf=true)∧
   ∀B,(∀q∈x.1.weights Tryz.prog t,q≤B)→n*Tryz.prog.bytesOf e≤B:=by
 rcases open_ints ht he hc h with⟨rfl,_⟩|⟨a,l,c,zs,rfl,_,hl,hm,hz,rfl,hcell,hwz⟩
 ·exact⟨none,0,0,[],rfl,Nat.le_refl _,Nat.zero_le _,rfl,Reads.none_,fun z hz=>(by cases hz),fun B _=>(by rw[Nat.zero_mul];exact Nat.zero_le _)⟩
 ·have hz':zs.length=c:=by simpa using hz
  have htl:(zs.take l).length=l:=by rw[List.length_take];omega
  refine⟨some a,l,c,zs.take l,rfl,hl,hm,htl,⟨by rw[List.length_map,htl];omega,fun hn=>⟨a,rfl,Go.Clock.block_lt (hcell 0 (by omega)),fun j u hu=> ?_⟩⟩,fun z hz=>hwz z (List.mem_of_mem_take hz),fun B hB=> ?_⟩
  ·rw[List.getElem?_map,Option.map_eq_some_iff]at hu
   obtain⟨z,hz1,rfl⟩:=hu
   have hj:j<l:=by
    have:=(List.getElem?_eq_some_iff.1 hz1).1
    omega
   rw[List.getElem?_take_of_lt hj]at hz1
   rw[hcell j (by omega),List.getD_eq_getElem?_getD,hz1]
   rfl
  ·have h1:=hB (((lits (H:=H) k (zs.take l)).length+(lits (H:=H) k (zs.drop l)).length)*Tryz.prog.bytesOf e) (by simp[DataW.weights,ht])
   have h2:(lits (H:=H) k (zs.take l)).length=l:=by simp only[lits,List.length_map,htl]
   rw[h2]at h1
   exact Nat.le_trans (Nat.mul_le_mul_right _ (Nat.le_add_right _ _)) h1
theorem aaX{cs:List Value}{x:DataW H×List MemPlace}(h:DataW.trod enc Tryz.prog w base (fun _=>true) held fuel 22 cs=some x):∃v l,cs=[v]∧Bys w w.heap.size v l∧((∀q∈x.1.weights Tryz.prog 22,q≤reachBytes)→l.length≤140737488355327):=by
 obtain⟨A,n,cap,zs,rfl,h1,h2,h3,h4,h5,h6⟩:=aa7 Tryz.underlying22 Tryz.underlying5 (by kernel_rfl) h
 obtain⟨l,hl1,hl2⟩:=zZ zs h5
 subst h3
 rw[←hl2,←hl1]at h4
 refine⟨_,l,rfl,⟨A,cap,by rw[hl1],by omega,h2,h4⟩,fun hq=> ?_⟩
 have h7:=h6 reachBytes hq
 rw[show Tryz.prog.bytesOf 5=1 from by kernel_rfl,Nat.mul_one,←hl1]at h7
 unfold reachBytes at h7
 omega
theorem Am{P:Program}{e:TypeId}:∀ {l:List (DataW H)} {d:DataW H},d∈l→∀k∈d.weights P e,k∈DataW.weightsAll P e l
 |x::l,d,hd,k,hk=>by
  rw[DataW.weightsAll,List.mem_append]
  rcases List.mem_cons.1 hd with rfl|hd
  ·exact .inl hk
  ·exact .inr (Am hd k hk)
theorem range_map_get{α:Type}(f:Nat→α){n j:Nat}{u:α}(h:((List.range n).map f)[j]? =some u):j<n∧u=f j:=by
 rw[List.getElem?_map,Option.map_eq_some_iff]at h
 obtain⟨i,hi,rfl⟩:=h
 obtain⟨hl,he⟩:=List.getElem?_eq_some_iff.1 hi
 rw[List.length_range]at hl
 rw[List.getElem_range]at he
 exact⟨hl,by rw[he]⟩
theorem CQ{cs:List Value}{x:DataW H×List MemPlace}(h:DataW.trod enc Tryz.prog w base (fun _=>true) held fuel 33 cs=some x):∃v l,cs=[v]∧iW w w.heap.size v l∧((∀q∈x.1.weights Tryz.prog 33,q≤reachBytes)→l.length≤140737488355327∧∀s∈l,s.size≤140737488355327):=by
 rcases Go.Deep.open_strs Tryz.underlying33 Tryz.underlying9 (by kernel_rfl) h with⟨rfl,_⟩|⟨a,len,cap,m,Sx,rfl,_,hl,hm,hmm,rfl,hx⟩
 ·exact⟨_,[],rfl,iW.nil_ _ _,fun _=>⟨Nat.zero_le _,fun s hs=>(by cases hs)⟩⟩
 ·have hmc:len≤m:=by rw[hmm];split<;>omega
  have hlen:((List.range len).map Sx).length=len:=by rw[List.length_map,List.length_range]
  refine⟨_,(List.range len).map Sx,rfl,⟨some a,cap,by rw[hlen],by rw[hlen];exact hl,hm,⟨by rw[h_,List.length_map,Nat.mul_one],fun hn=>⟨a,rfl,Go.Clock.block_lt (hx 0 (by omega)).1,fun j u hu=> ?_⟩⟩⟩,fun hq=>⟨?_,fun s hs=> ?_⟩⟩
  ·rw[h_,List.getElem?_map,Option.map_eq_some_iff]at hu
   obtain⟨s,hs,rfl⟩:=hu
   obtain⟨h1,rfl⟩:=range_map_get Sx hs
   exact(hx j (by omega)).1
  ·have h1:=hq (((((List.range len).map fun i=>(DataW.lit (.string (Sx i).data.toList):DataW H))).length+((List.range (m-len)).map fun j=>(DataW.lit (.string (Sx (len+j)).data.toList):DataW H)).length)*Tryz.prog.bytesOf 9) (by simp[DataW.weights,Tryz.underlying33])
   rw[show Tryz.prog.bytesOf 9=16 from by kernel_rfl,List.length_map,List.length_range]at h1
   rw[hlen]
   unfold reachBytes at h1
   omega
  ·obtain⟨i,hi,rfl⟩:=List.mem_map.1 hs
   have h1:=hq (Sx i).size (by
    simp only[DataW.weights,Tryz.underlying33]
    refine .tail _ (List.mem_append_left _ (Am (List.mem_map.2 ⟨i,hi,rfl⟩) _ ?_))
    simp[DataW.weights])
   unfold reachBytes at h1
   omega
instance:Inhabited Qd:=⟨⟨0,0,0⟩⟩
theorem aa8{cs:List Value}{x:DataW H×List MemPlace}(h:DataW.trod enc Tryz.prog w base (fun _=>true) held fuel 34 cs=some x):∃v l,cs=[v]∧lX w w.heap.size v l∧(∀q∈l,q.ok)∧((∀q∈x.1.weights Tryz.prog 34,q≤reachBytes)→l.length≤140737488355327):=by
 rcases Go.Deep.open_slice Tryz.underlying34 h with⟨rfl,_⟩|⟨a,len,cap,m,n,D,Pl,rfl,hb,hl,hm,hmm,rfl,hx⟩
 ·exact⟨_,[],rfl,lX.nil_ _ _,fun q hq=>(by cases hq),fun _=>Nat.zero_le _⟩
 ·have hmc:len≤m:=by rw[hmm];split<;>omega
  have hce:Tryz.prog.cellsOf 37=3:=by kernel_rfl
  obtain⟨f,hf⟩:=Go.Deep.choose_lt (n:=len) (p:=fun i (q:Qd)=>q.ok∧a.block<w.heap.size∧w.cell? (a.add (i*3))=some (.int .u8 (q.kind:Int))∧w.cell? (a.add (i*3+1))=some (.int .u32 (q.vers:Int))∧w.cell? (a.add (i*3+2))=some (.int .u64 (q.path:Int))) (fun i hi=>by
   obtain⟨cs',h1,h2⟩:=hx i (by omega)
   rw[hce]at h1
   obtain⟨_,hlen,hcell⟩:=World.cells?_some h1
   match cs',hlen with
   | [v0,v1,v2],_=>
    obtain⟨m0,y0,g0, -⟩:=cu Tryz.underlying37 h2 0 rfl 5 rfl (show Tryz.prog.cellsOf 5=1 by kernel_rfl) [v0] rfl
    obtain⟨m1,y1,g1, -⟩:=cu Tryz.underlying37 h2 1 rfl 32 rfl (show Tryz.prog.cellsOf 32=1 by kernel_rfl) [v1] rfl
    obtain⟨m2,y2,g2, -⟩:=cu Tryz.underlying37 h2 2 rfl 35 rfl (show Tryz.prog.cellsOf 35=1 by kernel_rfl) [v2] rfl
    have c0:=hcell 0 (by omega)
    have c1:=hcell 1 (by omega)
    have c2:=hcell 2 (by omega)
    rw[lU]at c0 c1 c2
    obtain⟨z0,e0, -,hw0⟩:=DataW.trod_int Tryz.underlying5 g0
    obtain⟨z1,e1, -,hw1⟩:=DataW.trod_int Tryz.underlying32 g1
    obtain⟨z2,e2, -,hw2⟩:=DataW.trod_int Tryz.underlying35 g2
    injection e0 with e0
    injection e1 with e1
    injection e2 with e2
    subst e0
    subst e1
    subst e2
    simp only[Lit.wf,IntKind.min,IntKind.max,IntKind.signed,IntKind.bits,Bool.and_eq_true]at hw0 hw1 hw2
    simp at hw0 hw1 hw2
    have t0:((z0.toNat:Nat):Int)=z0:=by omega
    have t1:((z1.toNat:Nat):Int)=z1:=by omega
    have t2:((z2.toNat:Nat):Int)=z2:=by omega
    exact⟨⟨z0.toNat,z1.toNat,z2.toNat⟩,⟨by dsimp only;omega,by dsimp only;omega,by dsimp only;omega⟩,by have:=Go.Clock.block_lt c0;rwa[nR]at this,by rw[t0];exact c0,by rw[t1];exact c1,by rw[t2];exact c2⟩)
  have hlen:((List.range len).map f).length=len:=by rw[List.length_map,List.length_range]
  refine⟨_,(List.range len).map f,rfl,⟨some a,cap,by rw[hlen],by rw[hlen];exact hl,hm,⟨by rw[aa1],fun hn=>⟨a,rfl,(hf 0 (by omega)).2.1,fun j u hu=> ?_⟩⟩⟩,fun q hq=> ?_,fun hq=> ?_⟩
  ·have hj:=(List.getElem?_eq_some_iff.1 hu).1
   rw[aa1,hlen]at hj
   have hk:j/3<len:=by omega
   have he:j=j/3*3∨j=j/3*3+1∨j=j/3*3+2:=by omega
   generalize j/3=k at hk he
   have hget:((List.range len).map f)[k]? =some (f k):=by rw[List.getElem?_map,List.getElem?_range hk];rfl
   obtain⟨q0,q1,q2⟩:=GK _ _ _ hget
   obtain⟨-, -,c0,c1,c2⟩:=hf k hk
   rcases he with rfl|rfl|rfl
   ·rw[q0]at hu;rw[c0];exact hu
   ·rw[q1]at hu;rw[c1];exact hu
   ·rw[q2]at hu;rw[c2];exact hu
  ·obtain⟨i,hi,rfl⟩:=List.mem_map.1 hq
   exact(hf i (List.mem_range.1 hi)).1
  ·have h1:=hq ((((List.range len).map D).length+((List.range (m-len)).map fun j=>D (len+j)).length)*Tryz.prog.bytesOf 37) (by simp[DataW.weights,Tryz.underlying34])
   rw[show Tryz.prog.bytesOf 37=16 from by kernel_rfl,List.length_map,List.length_range]at h1
   rw[hlen]
   unfold reachBytes at h1
   omega
end
structure Came(w:World)(m:Mg)(vn vq vd:Value):Prop where
 ok:m.ok
 l:Lists w w.heap.size m vn vq vd
 nl:m.names.length≤140737488355327
 ns:∀s∈m.names,s.size≤140737488355327
 ql:m.aV.length≤140737488355327
 dl:m.data.length≤140737488355327
 s3:m.version.size≤140737488355327
 s5:m.uname.size≤140737488355327
 s6:m.bF.size≤140737488355327
 s7:m.bH.size≤140737488355327
 s18:m.name.size≤140737488355327
 s32:m.stat.name.size≤140737488355327
 s33:m.stat.uid.size≤140737488355327
 s34:m.stat.gid.size≤140737488355327
 s35:m.stat.fE.size≤140737488355327
theorem nat_wf{k:IntKind}{n:Int}{b:Nat}(hk:k.min=0)(hb:k.max=(b:Int)-1)(h:(Lit.int k n).wf=true):∃m:Nat,n=(m:Int)∧m<b:=by
 simp only[Lit.wf,hk,hb,Bool.and_eq_true,decide_eq_true_iff]at h
 exact⟨n.toNat,by omega,by omega⟩
def BK(w:World)(B:Nat)(v:Value)(l:List (Mg×Value×Value×Value)):Prop:=∃A c,v= .slice A l.length c∧l.length≤c∧c≤maxLen∧∀k x,l[k]? =some x→(∃ad,A=some ad∧ad.block<B∧∀j u,(aF x.1 x.2.1 x.2.2.1 x.2.2.2)[j]? =some u→w.cell? ((ad.add (k*36)).add j)=some u)∧Lists w B x.1 x.2.1 x.2.2.1 x.2.2.2
def Frs(w:World)(B:Nat)(v:Value)(l:List (Value×List UInt8)):Prop:=∃A c,v= .slice A l.length c∧l.length≤c∧c≤maxLen∧∀k x,l[k]? =some x→(∃ad,A=some ad∧ad.block<B∧w.cell? (ad.add k)=some x.1)∧Bys w B x.1 x.2
theorem BK.below{w w':World}{B:Nat}{v:Value}{l:List (Mg×Value×Value×Value)}(h:BK w B v l)(hb:Below B w w'):BK w' B v l:=by
 obtain⟨A,c,e,h1,h2,h3⟩:=h
 refine⟨A,c,e,h1,h2,fun k x hx=> ?_⟩
 obtain⟨⟨ad,ha,hlt,hc⟩,hl⟩:=h3 k x hx
 refine⟨⟨ad,ha,hlt,fun j u hu=> ?_⟩,hl.below hb⟩
 have h4:=hc j u hu
 rwa[hb.cell (by rw[nR,nR];exact hlt)]
theorem Frs.below{w w':World}{B:Nat}{v:Value}{l:List (Value×List UInt8)}(h:Frs w B v l)(hb:Below B w w'):Frs w' B v l:=by
 obtain⟨A,c,e,h1,h2,h3⟩:=h
 refine⟨A,c,e,h1,h2,fun k x hx=> ?_⟩
 obtain⟨⟨ad,ha,hlt,hc⟩,hl⟩:=h3 k x hx
 refine⟨⟨ad,ha,hlt, ?_⟩,hl.below hb⟩
 rwa[hb.cell (by rw[nR];exact hlt)]
theorem aa2{P:Program}(w:World)(p:Addr)(ty:TypeId)(cs:List Value)(d:TypeDesc)(hc:∀j v,cs[j]? =some v→w.cell? (p.add j)=some v)(hu:P.underlying ty=some d)(hd:d.isRow=true)(hi:(P.info? ty).map (·.size)=some cs.length):(loadVar ty p).run P w= .ok (.agg cs.toArray) w:=by
 have hl:(loadCells p cs.length).run P w= .ok cs.toArray w:=run_loadCells_list w p cs hc
 have ha:(isAgg ty).run P w= .ok true w:=by
  unfold isAgg
  rw[Sem.run_bind,run_underlying hu w]
  cases d<;>simp_all
 obtain⟨i,hq,hs⟩:=Option.map_eq_some_iff.1 hi
 simp[loadVar,Sem.run_bind,ha,sizeOf,typeInfo,hq,hs,hl]
theorem wlA{w:World}{ops:Array Oper}{rest:List Oper}{op:Oper}{a:Act}{Q:Exit→Act→World→Prop}(p:Addr)(l:List Value)(hc:∀j v,l[j]? =some v→w.cell? (p.add j)=some v)(hgd:Region.wanted op (yielded ops a.tmps)=true)(ty:TypeId)(x:Operand)(ho:op.op= .load ty x)(hx:a.eval x= .pointer (some p))(d:TypeDesc)
  (hu:Tryz.prog.underlying ty=some d) (hd:d.isRow=true) (hi:(Tryz.prog.info? ty).map (·.size)=some l.length)
  (h:wpList Tryz.prog ops Q rest (a.put op.dst (.agg l.toArray)) w):wpList Tryz.prog ops Q (op::rest) a w:=
 wpList_step fun K hK=>by
  rw[if_pos hgd]
  unfold Oper.wp execOp
  simp only[ho,hx,Instr.loadAt,Instr.sureAddr,Sem.run_bind,Sem.run_pure,Result.andThen_ok,aa2 w p ty l d hc hu hd hi]
  exact hK _ _ h
section
variable {H:Type} {enc:TypeId×Value→H} {w:World} {base:Nat} {held:Bool} {fuel:Nat}
theorem abb{l0:List Value}{x:DataW H×List MemPlace}(e0:l0.length=36)(hf:DataW.trod enc Tryz.prog w base (fun _=>true) held fuel 41 l0=some x)(hs:∀k∈x.1.weights Tryz.prog 41,k≤reachBytes):
  ∃(m:Mg) (vn vq vd:Value),l0=aF m vn vq vd∧Came w m vn vq vd:=by
 obtain⟨c0,l1,rfl,e1⟩:=ay e0;clear e0
 obtain⟨c1,l2,rfl,e2⟩:=ay e1;clear e1
 obtain⟨c2,l3,rfl,e3⟩:=ay e2;clear e2
 obtain⟨c3,l4,rfl,e4⟩:=ay e3;clear e3
 obtain⟨c4,l5,rfl,e5⟩:=ay e4;clear e4
 obtain⟨c5,l6,rfl,e6⟩:=ay e5;clear e5
 obtain⟨c6,l7,rfl,e7⟩:=ay e6;clear e6
 obtain⟨c7,l8,rfl,e8⟩:=ay e7;clear e7
 obtain⟨c8,l9,rfl,e9⟩:=ay e8;clear e8
 obtain⟨c9,l10,rfl,e10⟩:=ay e9;clear e9
 obtain⟨c10,l11,rfl,e11⟩:=ay e10;clear e10
 obtain⟨c11,l12,rfl,e12⟩:=ay e11;clear e11
 obtain⟨c12,l13,rfl,e13⟩:=ay e12;clear e12
 obtain⟨c13,l14,rfl,e14⟩:=ay e13;clear e13
 obtain⟨c14,l15,rfl,e15⟩:=ay e14;clear e14
 obtain⟨c15,l16,rfl,e16⟩:=ay e15;clear e15
 obtain⟨c16,l17,rfl,e17⟩:=ay e16;clear e16
 obtain⟨c17,l18,rfl,e18⟩:=ay e17;clear e17
 obtain⟨c18,l19,rfl,e19⟩:=ay e18;clear e18
 obtain⟨c19,l20,rfl,e20⟩:=ay e19;clear e19
 obtain⟨c20,l21,rfl,e21⟩:=ay e20;clear e20
 obtain⟨c21,l22,rfl,e22⟩:=ay e21;clear e21
 obtain⟨c22,l23,rfl,e23⟩:=ay e22;clear e22
 obtain⟨c23,l24,rfl,e24⟩:=ay e23;clear e23
 obtain⟨c24,l25,rfl,e25⟩:=ay e24;clear e24
 obtain⟨c25,l26,rfl,e26⟩:=ay e25;clear e25
 obtain⟨c26,l27,rfl,e27⟩:=ay e26;clear e26
 obtain⟨c27,l28,rfl,e28⟩:=ay e27;clear e27
 obtain⟨c28,l29,rfl,e29⟩:=ay e28;clear e28
 obtain⟨c29,l30,rfl,e30⟩:=ay e29;clear e29
 obtain⟨c30,l31,rfl,e31⟩:=ay e30;clear e30
 obtain⟨c31,l32,rfl,e32⟩:=ay e31;clear e31
 obtain⟨c32,l33,rfl,e33⟩:=ay e32;clear e32
 obtain⟨c33,l34,rfl,e34⟩:=ay e33;clear e33
 obtain⟨c34,l35,rfl,e35⟩:=ay e34;clear e34
 obtain⟨c35,l36,rfl,e36⟩:=ay e35;clear e35
 obtain rfl:=len_nil e36
 clear e36
 obtain⟨m0,y0,g0,w0⟩:=cu Tryz.underlying41 hf 0 rfl 30 rfl (show Tryz.prog.cellsOf 30=1 by kernel_rfl) [c0] rfl
 obtain⟨z0,e0, -,h0⟩:=DataW.trod_int Tryz.underlying30 g0
 injection e0 with e0
 subst e0
 obtain⟨n0,rfl,b0⟩:=nat_wf (b:=256) (by decide) (by decide) h0
 clear h0 g0 w0
 obtain⟨m1,y1,g1,w1⟩:=cu Tryz.underlying41 hf 1 rfl 31 rfl (show Tryz.prog.cellsOf 31=1 by kernel_rfl) [c1] rfl
 obtain⟨z1,e1, -,h1⟩:=DataW.trod_int Tryz.underlying31 g1
 injection e1 with e1
 subst e1
 obtain⟨n1,rfl,b1⟩:=nat_wf (b:=65536) (by decide) (by decide) h1
 clear h1 g1 w1
 obtain⟨m2,y2,g2,w2⟩:=cu Tryz.underlying41 hf 2 rfl 32 rfl (show Tryz.prog.cellsOf 32=1 by kernel_rfl) [c2] rfl
 obtain⟨z2,e2, -,h2⟩:=DataW.trod_int Tryz.underlying32 g2
 injection e2 with e2
 subst e2
 obtain⟨n2,rfl,b2⟩:=nat_wf (b:=4294967296) (by decide) (by decide) h2
 clear h2 g2 w2
 obtain⟨m3,y3,g3,w3⟩:=cu Tryz.underlying41 hf 3 rfl 9 rfl (show Tryz.prog.cellsOf 9=1 by kernel_rfl) [c3] rfl
 obtain⟨x3,e3, -, -⟩:=DataW.trod_string Tryz.underlying9 g3
 injection e3 with e3
 subst e3
 obtain⟨m4,y4,g4,w4⟩:=cu Tryz.underlying41 hf 4 rfl 32 rfl (show Tryz.prog.cellsOf 32=1 by kernel_rfl) [c4] rfl
 obtain⟨z4,e4, -,h4⟩:=DataW.trod_int Tryz.underlying32 g4
 injection e4 with e4
 subst e4
 obtain⟨n4,rfl,b4⟩:=nat_wf (b:=4294967296) (by decide) (by decide) h4
 clear h4 g4 w4
 obtain⟨m5,y5,g5,w5⟩:=cu Tryz.underlying41 hf 5 rfl 9 rfl (show Tryz.prog.cellsOf 9=1 by kernel_rfl) [c5] rfl
 obtain⟨x5,e5, -, -⟩:=DataW.trod_string Tryz.underlying9 g5
 injection e5 with e5
 subst e5
 obtain⟨m6,y6,g6,w6⟩:=cu Tryz.underlying41 hf 6 rfl 9 rfl (show Tryz.prog.cellsOf 9=1 by kernel_rfl) [c6] rfl
 obtain⟨x6,e6, -, -⟩:=DataW.trod_string Tryz.underlying9 g6
 injection e6 with e6
 subst e6
 obtain⟨m7,y7,g7,w7⟩:=cu Tryz.underlying41 hf 7 rfl 9 rfl (show Tryz.prog.cellsOf 9=1 by kernel_rfl) [c7] rfl
 obtain⟨x7,e7, -, -⟩:=DataW.trod_string Tryz.underlying9 g7
 injection e7 with e7
 subst e7
 obtain⟨m8,y8,g8,w8⟩:=cu Tryz.underlying41 hf 8 rfl 31 rfl (show Tryz.prog.cellsOf 31=1 by kernel_rfl) [c8] rfl
 obtain⟨z8,e8, -,h8⟩:=DataW.trod_int Tryz.underlying31 g8
 injection e8 with e8
 subst e8
 obtain⟨n8,rfl,b8⟩:=nat_wf (b:=65536) (by decide) (by decide) h8
 clear h8 g8 w8
 obtain⟨m9,y9,g9,w9⟩:=cu Tryz.underlying41 hf 9 rfl 32 rfl (show Tryz.prog.cellsOf 32=1 by kernel_rfl) [c9] rfl
 obtain⟨z9,e9, -,h9⟩:=DataW.trod_int Tryz.underlying32 g9
 injection e9 with e9
 subst e9
 obtain⟨n9,rfl,b9⟩:=nat_wf (b:=4294967296) (by decide) (by decide) h9
 clear h9 g9 w9
 obtain⟨m10,y10,g10,w10⟩:=cu Tryz.underlying41 hf 10 rfl 32 rfl (show Tryz.prog.cellsOf 32=1 by kernel_rfl) [c10] rfl
 obtain⟨z10,e10, -,h10⟩:=DataW.trod_int Tryz.underlying32 g10
 injection e10 with e10
 subst e10
 obtain⟨n10,rfl,b10⟩:=nat_wf (b:=4294967296) (by decide) (by decide) h10
 clear h10 g10 w10
 obtain⟨m16,y16,g16,w16⟩:=cu Tryz.underlying41 hf 14 rfl 5 rfl (show Tryz.prog.cellsOf 5=1 by kernel_rfl) [c16] rfl
 obtain⟨z16,e16, -,h16⟩:=DataW.trod_int Tryz.underlying5 g16
 injection e16 with e16
 subst e16
 obtain⟨n16,rfl,b16⟩:=nat_wf (b:=256) (by decide) (by decide) h16
 clear h16 g16 w16
 obtain⟨m17,y17,g17,w17⟩:=cu Tryz.underlying41 hf 15 rfl 32 rfl (show Tryz.prog.cellsOf 32=1 by kernel_rfl) [c17] rfl
 obtain⟨z17,e17, -,h17⟩:=DataW.trod_int Tryz.underlying32 g17
 injection e17 with e17
 subst e17
 obtain⟨n17,rfl,b17⟩:=nat_wf (b:=4294967296) (by decide) (by decide) h17
 clear h17 g17 w17
 obtain⟨m18,y18,g18,w18⟩:=cu Tryz.underlying41 hf 16 rfl 9 rfl (show Tryz.prog.cellsOf 9=1 by kernel_rfl) [c18] rfl
 obtain⟨x18,e18, -, -⟩:=DataW.trod_string Tryz.underlying9 g18
 injection e18 with e18
 subst e18
 obtain⟨m19,y19,g19,w19⟩:=cu Tryz.underlying41 hf 17 rfl 32 rfl (show Tryz.prog.cellsOf 32=1 by kernel_rfl) [c19] rfl
 obtain⟨z19,e19, -,h19⟩:=DataW.trod_int Tryz.underlying32 g19
 injection e19 with e19
 subst e19
 obtain⟨n19,rfl,b19⟩:=nat_wf (b:=4294967296) (by decide) (by decide) h19
 clear h19 g19 w19
 obtain⟨m20,y20,g20,w20⟩:=cu Tryz.underlying41 hf 18 rfl 35 rfl (show Tryz.prog.cellsOf 35=1 by kernel_rfl) [c20] rfl
 obtain⟨z20,e20, -,h20⟩:=DataW.trod_int Tryz.underlying35 g20
 injection e20 with e20
 subst e20
 obtain⟨n20,rfl,b20⟩:=nat_wf (b:=18446744073709551616) (by decide) (by decide) h20
 clear h20 g20 w20
 obtain⟨m21,y21,g21,w21⟩:=cu Tryz.underlying41 hf 19 rfl 32 rfl (show Tryz.prog.cellsOf 32=1 by kernel_rfl) [c21] rfl
 obtain⟨z21,e21, -,h21⟩:=DataW.trod_int Tryz.underlying32 g21
 injection e21 with e21
 subst e21
 obtain⟨n21,rfl,b21⟩:=nat_wf (b:=4294967296) (by decide) (by decide) h21
 clear h21 g21 w21
 obtain⟨mQ,yQ,tQ,wQ⟩:=cu Tryz.underlying41 hf 13 rfl 37 rfl (show Tryz.prog.cellsOf 37=3 by kernel_rfl) [c13,c14,c15] rfl
 obtain⟨m13,y13,g13,w13⟩:=cu Tryz.underlying37 tQ 0 rfl 5 rfl (show Tryz.prog.cellsOf 5=1 by kernel_rfl) [c13] rfl
 obtain⟨z13,e13, -,h13⟩:=DataW.trod_int Tryz.underlying5 g13
 injection e13 with e13
 subst e13
 obtain⟨n13,rfl,b13⟩:=nat_wf (b:=256) (by decide) (by decide) h13
 clear h13 g13 w13
 obtain⟨m14,y14,g14,w14⟩:=cu Tryz.underlying37 tQ 1 rfl 32 rfl (show Tryz.prog.cellsOf 32=1 by kernel_rfl) [c14] rfl
 obtain⟨z14,e14, -,h14⟩:=DataW.trod_int Tryz.underlying32 g14
 injection e14 with e14
 subst e14
 obtain⟨n14,rfl,b14⟩:=nat_wf (b:=4294967296) (by decide) (by decide) h14
 clear h14 g14 w14
 obtain⟨m15,y15,g15,w15⟩:=cu Tryz.underlying37 tQ 2 rfl 35 rfl (show Tryz.prog.cellsOf 35=1 by kernel_rfl) [c15] rfl
 obtain⟨z15,e15, -,h15⟩:=DataW.trod_int Tryz.underlying35 g15
 injection e15 with e15
 subst e15
 obtain⟨n15,rfl,b15⟩:=nat_wf (b:=18446744073709551616) (by decide) (by decide) h15
 clear h15 g15 w15
 obtain⟨mS,yS,tS,wS⟩:=cu Tryz.underlying41 hf 21 rfl 39 rfl (show Tryz.prog.cellsOf 39=13 by kernel_rfl) [c23,c24,c25,c26,c27,c28,c29,c30,c31,c32,c33,c34,c35] rfl
 obtain⟨mT,yT,tT,wT⟩:=cu Tryz.underlying39 tS 2 rfl 37 rfl (show Tryz.prog.cellsOf 37=3 by kernel_rfl) [c25,c26,c27] rfl
 obtain⟨m25,y25,g25,w25⟩:=cu Tryz.underlying37 tT 0 rfl 5 rfl (show Tryz.prog.cellsOf 5=1 by kernel_rfl) [c25] rfl
 obtain⟨z25,e25, -,h25⟩:=DataW.trod_int Tryz.underlying5 g25
 injection e25 with e25
 subst e25
 obtain⟨n25,rfl,b25⟩:=nat_wf (b:=256) (by decide) (by decide) h25
 clear h25 g25 w25
 obtain⟨m26,y26,g26,w26⟩:=cu Tryz.underlying37 tT 1 rfl 32 rfl (show Tryz.prog.cellsOf 32=1 by kernel_rfl) [c26] rfl
 obtain⟨z26,e26, -,h26⟩:=DataW.trod_int Tryz.underlying32 g26
 injection e26 with e26
 subst e26
 obtain⟨n26,rfl,b26⟩:=nat_wf (b:=4294967296) (by decide) (by decide) h26
 clear h26 g26 w26
 obtain⟨m27,y27,g27,w27⟩:=cu Tryz.underlying37 tT 2 rfl 35 rfl (show Tryz.prog.cellsOf 35=1 by kernel_rfl) [c27] rfl
 obtain⟨z27,e27, -,h27⟩:=DataW.trod_int Tryz.underlying35 g27
 injection e27 with e27
 subst e27
 obtain⟨n27,rfl,b27⟩:=nat_wf (b:=18446744073709551616) (by decide) (by decide) h27
 clear h27 g27 w27
 obtain⟨m23,y23,g23,w23⟩:=cu Tryz.underlying39 tS 0 rfl 31 rfl (show Tryz.prog.cellsOf 31=1 by kernel_rfl) [c23] rfl
 obtain⟨z23,e23, -,h23⟩:=DataW.trod_int Tryz.underlying31 g23
 injection e23 with e23
 subst e23
 obtain⟨n23,rfl,b23⟩:=nat_wf (b:=65536) (by decide) (by decide) h23
 clear h23 g23 w23
 obtain⟨m24,y24,g24,w24⟩:=cu Tryz.underlying39 tS 1 rfl 32 rfl (show Tryz.prog.cellsOf 32=1 by kernel_rfl) [c24] rfl
 obtain⟨z24,e24, -,h24⟩:=DataW.trod_int Tryz.underlying32 g24
 injection e24 with e24
 subst e24
 obtain⟨n24,rfl,b24⟩:=nat_wf (b:=4294967296) (by decide) (by decide) h24
 clear h24 g24 w24
 obtain⟨m28,y28,g28,w28⟩:=cu Tryz.underlying39 tS 3 rfl 32 rfl (show Tryz.prog.cellsOf 32=1 by kernel_rfl) [c28] rfl
 obtain⟨z28,e28, -,h28⟩:=DataW.trod_int Tryz.underlying32 g28
 injection e28 with e28
 subst e28
 obtain⟨n28,rfl,b28⟩:=nat_wf (b:=4294967296) (by decide) (by decide) h28
 clear h28 g28 w28
 obtain⟨m29,y29,g29,w29⟩:=cu Tryz.underlying39 tS 4 rfl 32 rfl (show Tryz.prog.cellsOf 32=1 by kernel_rfl) [c29] rfl
 obtain⟨z29,e29, -,h29⟩:=DataW.trod_int Tryz.underlying32 g29
 injection e29 with e29
 subst e29
 obtain⟨n29,rfl,b29⟩:=nat_wf (b:=4294967296) (by decide) (by decide) h29
 clear h29 g29 w29
 obtain⟨m30,y30,g30,w30⟩:=cu Tryz.underlying39 tS 5 rfl 32 rfl (show Tryz.prog.cellsOf 32=1 by kernel_rfl) [c30] rfl
 obtain⟨z30,e30, -,h30⟩:=DataW.trod_int Tryz.underlying32 g30
 injection e30 with e30
 subst e30
 obtain⟨n30,rfl,b30⟩:=nat_wf (b:=4294967296) (by decide) (by decide) h30
 clear h30 g30 w30
 obtain⟨m31,y31,g31,w31⟩:=cu Tryz.underlying39 tS 6 rfl 35 rfl (show Tryz.prog.cellsOf 35=1 by kernel_rfl) [c31] rfl
 obtain⟨z31,e31, -,h31⟩:=DataW.trod_int Tryz.underlying35 g31
 injection e31 with e31
 subst e31
 obtain⟨n31,rfl,b31⟩:=nat_wf (b:=18446744073709551616) (by decide) (by decide) h31
 clear h31 g31 w31
 obtain⟨m32,y32,g32,w32⟩:=cu Tryz.underlying39 tS 7 rfl 9 rfl (show Tryz.prog.cellsOf 9=1 by kernel_rfl) [c32] rfl
 obtain⟨x32,e32, -, -⟩:=DataW.trod_string Tryz.underlying9 g32
 injection e32 with e32
 subst e32
 obtain⟨m33,y33,g33,w33⟩:=cu Tryz.underlying39 tS 8 rfl 9 rfl (show Tryz.prog.cellsOf 9=1 by kernel_rfl) [c33] rfl
 obtain⟨x33,e33, -, -⟩:=DataW.trod_string Tryz.underlying9 g33
 injection e33 with e33
 subst e33
 obtain⟨m34,y34,g34,w34⟩:=cu Tryz.underlying39 tS 9 rfl 9 rfl (show Tryz.prog.cellsOf 9=1 by kernel_rfl) [c34] rfl
 obtain⟨x34,e34, -, -⟩:=DataW.trod_string Tryz.underlying9 g34
 injection e34 with e34
 subst e34
 obtain⟨m35,y35,g35,w35⟩:=cu Tryz.underlying39 tS 10 rfl 9 rfl (show Tryz.prog.cellsOf 9=1 by kernel_rfl) [c35] rfl
 obtain⟨x35,e35, -, -⟩:=DataW.trod_string Tryz.underlying9 g35
 injection e35 with e35
 subst e35
 obtain⟨m11,y11,g11,w11⟩:=cu Tryz.underlying41 hf 11 rfl 33 rfl (show Tryz.prog.cellsOf 33=1 by kernel_rfl) [c11] rfl
 obtain⟨v11,abJ,e11,abK,abq⟩:=CQ g11
 injection e11 with e11
 subst e11
 have abq:=abq (fun q hq=>hs q (w11 q hq))
 obtain⟨m12,y12,g12,w12⟩:=cu Tryz.underlying41 hf 12 rfl 34 rfl (show Tryz.prog.cellsOf 34=1 by kernel_rfl) [c12] rfl
 obtain⟨v12,abL,e12,hl12,abE,abu⟩:=aa8 g12
 injection e12 with e12
 subst e12
 have abu:=abu (fun q hq=>hs q (w12 q hq))
 obtain⟨m22,y22,g22,w22⟩:=cu Tryz.underlying41 hf 20 rfl 22 rfl (show Tryz.prog.cellsOf 22=1 by kernel_rfl) [c22] rfl
 obtain⟨v22,abM,e22,abN,abv⟩:=aaX g22
 injection e22 with e22
 subst e22
 have abv:=abv (fun q hq=>hs q (w22 q hq))
 have s3:x3.size≤140737488355327:=by
  have:=hs _ (w3 _ (Aq Tryz.underlying9 g3))
  unfold reachBytes at this
  omega
 have s5:x5.size≤140737488355327:=by
  have:=hs _ (w5 _ (Aq Tryz.underlying9 g5))
  unfold reachBytes at this
  omega
 have s6:x6.size≤140737488355327:=by
  have:=hs _ (w6 _ (Aq Tryz.underlying9 g6))
  unfold reachBytes at this
  omega
 have s7:x7.size≤140737488355327:=by
  have:=hs _ (w7 _ (Aq Tryz.underlying9 g7))
  unfold reachBytes at this
  omega
 have s18:x18.size≤140737488355327:=by
  have:=hs _ (w18 _ (Aq Tryz.underlying9 g18))
  unfold reachBytes at this
  omega
 have s32:x32.size≤140737488355327:=by
  have:=hs _ (wS _ (w32 _ (Aq Tryz.underlying9 g32)))
  unfold reachBytes at this
  omega
 have s33:x33.size≤140737488355327:=by
  have:=hs _ (wS _ (w33 _ (Aq Tryz.underlying9 g33)))
  unfold reachBytes at this
  omega
 have s34:x34.size≤140737488355327:=by
  have:=hs _ (wS _ (w34 _ (Aq Tryz.underlying9 g34)))
  unfold reachBytes at this
  omega
 have s35:x35.size≤140737488355327:=by
  have:=hs _ (wS _ (w35 _ (Aq Tryz.underlying9 g35)))
  unfold reachBytes at this
  omega
 refine⟨⟨n0,n1,n2,x3,n4,x5,x6,x7,n8,n9,n10,abJ,abL,⟨n13,n14,n15⟩,n16,n17,x18,n19,n20,n21,abM,⟨n23,n24,⟨n25,n26,n27⟩,n28,n29,n30,n31,x32,x33,x34,x35⟩⟩,_,_,_,rfl, ?_⟩
 exact⟨⟨b0,b1,b2,b4,b9,b10,b17,b19,b21,b8,b16,b20,abE,⟨b13,b14,b15⟩,⟨b23,b24,⟨b25,b26,b27⟩,b28,b29,b30,b31⟩⟩,⟨abK,hl12,abN⟩,abq.1,abq.2,abu,abv,s3,s5,s6,s7,s18,s32,s33,s34,s35⟩
instance:Inhabited Mg:=⟨head 0 0⟩
instance:Inhabited Value:=⟨undef⟩
theorem abd{cs:List Value}{x:DataW H×List MemPlace}(h:DataW.trod enc Tryz.prog w base (fun _=>true) held fuel 53 cs=some x)(hq:∀q∈x.1.weights Tryz.prog 53,q≤reachBytes):∃v l,cs=[v]∧BK w w.heap.size v l∧(∀x∈l,Came w x.1 x.2.1 x.2.2.1 x.2.2.2)∧l.length≤140737488355327:=by
 rcases Go.Deep.open_slice Tryz.underlying53 h with⟨rfl,_⟩|⟨a,len,cap,m,n,D,Pl,rfl,hb,hl,hm,hmm,rfl,hx⟩
 ·exact⟨_,[],rfl,⟨none,0,rfl,Nat.le_refl _,Nat.zero_le _,fun k x hx=>(by cases hx)⟩,fun x hx=>(by cases hx),Nat.zero_le _⟩
 ·have hmc:len≤m:=by rw[hmm];split<;>omega
  have hce:Tryz.prog.cellsOf 41=36:=by kernel_rfl
  obtain⟨f,hf⟩:=Go.Deep.choose_lt (n:=len) (p:=fun i (q:Mg×Value×Value×Value)=>(a.block<w.heap.size∧∀j u,(aF q.1 q.2.1 q.2.2.1 q.2.2.2)[j]? =some u→w.cell? ((a.add (i*36)).add j)=some u)∧Came w q.1 q.2.1 q.2.2.1 q.2.2.2) (fun i hi=>by
   obtain⟨cs',h1,h2⟩:=hx i (by omega)
   have hqi:∀k∈(D i).weights Tryz.prog 41,k≤reachBytes:=fun k hk=>hq k (by
    simp only[DataW.weights,Tryz.underlying53]
    exact .tail _ (List.mem_append_left _ (Am (List.mem_map.2 ⟨i,List.mem_range.2 hi,rfl⟩) k hk)))
   rw[hce]at h1
   obtain⟨_,hlen,hcell⟩:=World.cells?_some h1
   obtain⟨mg,vn,vq,vd,rfl,hc⟩:=abb hlen h2 hqi
   have h0:=hcell 0 (by omega)
   rw[lU]at h0
   refine⟨(mg,vn,vq,vd),⟨by have:=Go.Clock.block_lt h0;rwa[nR]at this,fun j u hu=> ?_⟩,hc⟩
   have hj:j<36:=by have:=(List.getElem?_eq_some_iff.1 hu).1;exact this
   have h3:=hcell j hj
   rw[h3]
   exact hu)
  refine⟨_,(List.range len).map f,rfl,⟨some a,cap,by simp,by simpa using hl,hm,fun k x hx=> ?_⟩,fun x hx=> ?_, ?_⟩
  ·obtain⟨h1,rfl⟩:=range_map_get f hx
   exact⟨⟨a,rfl,(hf k h1).1.1,(hf k h1).1.2⟩,(hf k h1).2.l⟩
  ·obtain⟨i,hi,rfl⟩:=List.mem_map.1 hx
   exact(hf i (List.mem_range.1 hi)).2
  ·have h1:=hq ((((List.range len).map D).length+((List.range (m-len)).map fun j=>D (len+j)).length)*Tryz.prog.bytesOf 41) (by simp[DataW.weights,Tryz.underlying53])
   have h2:1≤Tryz.prog.bytesOf 41:=of_decide_eq_true (by kernel_rfl)
   rw[List.length_map,List.length_range]at h1⊢
   have h3:=Nat.le_trans (Nat.mul_le_mul_left _ h2) h1
   unfold reachBytes at h3
   omega
theorem abm{cs:List Value}{x:DataW H×List MemPlace}(h:DataW.trod enc Tryz.prog w base (fun _=>true) held fuel 25 cs=some x)(hq:∀q∈x.1.weights Tryz.prog 25,q≤reachBytes):∃v l,cs=[v]∧Frs w w.heap.size v l∧(∀x∈l,x.2.length≤140737488355327)∧l.length≤140737488355327:=by
 rcases Go.Deep.open_slice Tryz.underlying25 h with⟨rfl,_⟩|⟨a,len,cap,m,n,D,Pl,rfl,hb,hl,hm,hmm,rfl,hx⟩
 ·exact⟨_,[],rfl,⟨none,0,rfl,Nat.le_refl _,Nat.zero_le _,fun k x hx=>(by cases hx)⟩,fun x hx=>(by cases hx),Nat.zero_le _⟩
 ·have hmc:len≤m:=by rw[hmm];split<;>omega
  have hce:Tryz.prog.cellsOf 22=1:=by kernel_rfl
  obtain⟨f,hf⟩:=Go.Deep.choose_lt (n:=len) (p:=fun i (q:Value×List UInt8)=>(a.block<w.heap.size∧w.cell? (a.add i)=some q.1)∧Bys w w.heap.size q.1 q.2∧q.2.length≤140737488355327) (fun i hi=>by
   obtain⟨cs',h1,h2⟩:=hx i (by omega)
   have hqi:∀k∈(D i).weights Tryz.prog 22,k≤reachBytes:=fun k hk=>hq k (by
    simp only[DataW.weights,Tryz.underlying25]
    exact .tail _ (List.mem_append_left _ (Am (List.mem_map.2 ⟨i,List.mem_range.2 hi,rfl⟩) k hk)))
   rw[hce,Nat.mul_one]at h1
   obtain⟨_,hlen,hcell⟩:=World.cells?_some h1
   obtain⟨v,l,rfl,hv,hz⟩:=aaX h2
   have h0:=hcell 0 (by omega)
   rw[lU]at h0
   refine⟨(v,l),⟨by have:=Go.Clock.block_lt h0;rwa[nR]at this,h0⟩,hv,hz hqi⟩)
  refine⟨_,(List.range len).map f,rfl,⟨some a,cap,by simp,by simpa using hl,hm,fun k x hx=> ?_⟩,fun x hx=> ?_, ?_⟩
  ·obtain⟨h1,rfl⟩:=range_map_get f hx
   exact⟨⟨a,rfl,(hf k h1).1⟩,(hf k h1).2.1⟩
  ·obtain⟨i,hi,rfl⟩:=List.mem_map.1 hx
   exact(hf i (List.mem_range.1 hi)).2.2
  ·have h1:=hq ((((List.range len).map D).length+((List.range (m-len)).map fun j=>D (len+j)).length)*Tryz.prog.bytesOf 22) (by simp[DataW.weights,Tryz.underlying25])
   rw[show Tryz.prog.bytesOf 22=24 from by kernel_rfl,List.length_map,List.length_range]at h1
   rw[List.length_map,List.length_range]
   unfold reachBytes at h1
   omega
end
end Go.Proofs.YtkblmloobkiloaaGreatDoor
namespace Go.Proofs.YtkblmloobkiloaaGreatDoor
open Go.Lib (hid)
open Go.RowKit
def plC(c:UInt8):Bool:=decide (32≤c.toNat∧c.toNat<127∧c.toNat≠34∧c.toNat≠92)
theorem abY(l:List UInt8)(h:l.all plC=true):l.flatMap dw=l:=by
 induction l with
 |nil=>rfl
 |cons c l ih=>
  rw[List.all_cons,Bool.and_eq_true]at h
  have hc:=of_decide_eq_true h.1
  rw[List.flatMap_cons,ih h.2,dw,esc,ctl,decide_eq_false hc.2.2.1,decide_eq_false hc.2.2.2,decide_eq_false (by omega),decide_eq_false (by omega)]
  rfl
theorem X8(s:ByteArray)(hg:s.data.toList.all plC=true)(hz:s.size≤16777216):abZ s:=by
 intro w
 have hup:Below w.heap.size w (w.alloc (.cells #[.pointer none,.slice none 0 0] 197)):=(Below.refl _ _).alloc (Nat.le_refl _) _
 have HS:=hid (SB.new w)
 have HB:=hid hup
 have HG:=hid hg
 have HZZ:=hid hz
 have HQ:=hid (show bD s=34::(s.data.toList++[34])from by rw[bD,Ah,abY _ hg])
 clear hup hg
 go_enter Tryz.func140,Tryz.ntmps140
 go_upto_region 2 with(fail)
 generalize w.alloc (.cells #[.pointer none,.slice none 0 0] 197)=w0 at HS HB⊢
 generalize hzz:w.heap.size=z at HS HB⊢
 have HZ:=hid hzz;clear hzz
 go_wp2_with fail
 refine(jR z z _ 34 w0 HS.out (by decide) (by have:=SB.size HS.out;omega)).mono ?_
 rintro e w1 ⟨rfl,hs,hb, -⟩
 have HS1:=hid hs
 have HB1:=hid (HB.out.trans hb)
 have uF:=hid (SB.size hs)
 clear hs hb HS HB
 have UW:=hid (World.iter_heap w1 s 0)
 go_wp2_with fail
 go_loopw [5] (fun _ wr=>∃pos:Nat,wr.heap[w1.heap.size]? =some (.stringIter s pos)∧SB wr z z (aX (34::s.data.toList.take pos))∧Below z w wr∧pos≤s.size) (fun _ wr=>s.size-wr.iterPos w1.heap.size)
 case atStart=>exact⟨0,UW.out,HS1.out.alloc _,HB1.out.alloc (by have:=uF.out;omega) _,by omega⟩
 case round=>
  obtain⟨pos,hit,hs,hb,hps⟩:=hrel
  generalize Sm:w1.heap.size=it at*
  have HSR:=hid hs;clear hs
  have HBR:=hid hb;clear hb
  have HZI:=hid (show z<it from by have:=uF.out;omega)
  have HLN:=hid (show(aX (34::s.data.toList.take pos)).length≤67108865 from by
   rw[jQ,List.length_cons,List.length_take]
   have:=HZZ.out
   omega)
  clear Sm
  by_cases hp:pos<s.size
  ·have hpl:=of_decide_eq_true (List.all_eq_true.1 HG.out _ (Array.mem_toList_iff.2 (Array.getElem_mem hp)))
   have hnx:∀ty,(Instr.next (.pointer (some ⟨it,0,none⟩)) true ty).run Tryz.prog wr=_:=fun ty=>Lib.run_next_any_at wr it s pos ty hit hp
   rw[decode_ascii s pos hp (show(s.data[pos]'hp).toNat<128 by omega)]at hnx
   have HTK:=hid (show aX (34::s.data.toList.take (pos+1))=aX (34::s.data.toList.take pos)++Lib.runeCells ((s.data[pos]'hp).toNat:Int)from by
    rw[qE (by omega) (by omega),List.take_add_one,Array.getElem?_toList,Array.getElem?_eq_getElem hp,Option.toList_some,←List.cons_append,gy]
    rfl)
   have nT:=hid (Lib.iterAt_heap wr it s pos (pos+1) hit)
   have HB2:=hid (Lib.below_iterAt HBR.out (k:=it) (Nat.le_of_lt HZI.out) s (pos+1))
   have HS2:=hid (Lib.IsBuilderF.iterAt HSR.out hit (pos+1))
   have yu:=hid (show wr.iterPos it=pos from by simp[World.iterPos,hit])
   have HPS:=hid (show pos+1≤s.size from hp)
   generalize hc:(s.data[pos]'hp).toNat=r at hpl HTK
   have hcs:(s[pos]'hp).toNat=r:=hc
   rw[hcs]at hnx
   clear hc hcs hit HSR HBR hps
   generalize aX (34::s.data.toList.take pos)=L at*
   have hr1:((r:Int)==34)=false:=by rw[beq_eq_false_iff_ne];omega
   have hr2:((r:Int)==92)=false:=by rw[beq_eq_false_iff_ne];omega
   have hr3:¬(r:Int)<32:=by omega
   have hr4:((r:Int)==127)=false:=by rw[beq_eq_false_iff_ne];omega
   have HRB:=hid (show-2147483648≤(r:Int)∧(r:Int)≤2147483647 from by omega)
   clear hpl
   go_wp2_with fail
   generalize wr.iterAt it s (pos+1)=w2 at nT HB2 HS2⊢
   have HL3:=hid (show L.length+4≤140737488355328 from by have:=HLN.out;omega)
   have HZ3:=hid (Nat.le_of_lt (SB.size HS2.out))
   refine(nY z z L (r:Int) HRB.out.1 HRB.out.2 w2 HS2.out HL3.out HZ3.out).mono ?_
   rintro e w4 ⟨⟨u,v,rfl⟩,hs,hb,hok⟩
   have HS9:=hid hs
   have HB9:=hid (HB2.out.trans hb)
   have rJ:=hid (Lib.OthersKept.iter hok nT.out (by have:=HZI.out;omega))
   clear hs hb hok
   go_wp2_with fail
   go_roundw
   case rel=>
    refine⟨pos+1,rJ.out, ?_,HB9.out,HPS.out⟩
    rw[HTK.out]
    exact HS9.out
   case measure=>have:=HPS.out;rw[yu.out];simp only[World.iterPos,rJ.out];omega
  ·have hnx:∀ty,(Instr.next (.pointer (some ⟨it,0,none⟩)) true ty).run Tryz.prog wr=_:=fun ty=>Lib.run_next_end_at wr it s pos ty hit hp
   have hpe:pos=s.size:=by omega
   subst hpe
   rw[List.take_of_length_le (show s.data.toList.length≤s.size from Nat.le_of_eq (Array.length_toList ..))]at HSR HLN
   clear hit
   go_wp2_with fail
   refine(jR z z _ 34 wr HSR.out (by have:=HLN.out;omega) (by have:=SB.size HSR.out;omega)).mono ?_
   rintro e w3 ⟨rfl,hs,hb, -⟩
   have HS3:=hid (show SB w3 z z (Lib.byteCells (bD s))from by
    rw[HQ.out,show Lib.byteCells (34::(s.data.toList++[34]))=aX (34::s.data.toList)++[.int .u8 34]from gy (34::s.data.toList) [34]]
    exact hs)
   have HB3:=hid (HBR.out.trans hb)
   clear hs hb
   go_wp2_with fail
   refine(Tryz.Builder_String_any_k z z (bD s) w3 HS3.out (by have:=SB.size HS3.out;omega)).mono ?_
   rintro e w4 ⟨rfl, -,hb, -⟩
   have HB4:=hid (HB3.out.trans hb)
   clear hb
   go_wp2_with fail
   go_ret
   exact⟨rfl,by have hz:=HZ.out;rw[hz];exact HB4.out⟩
theorem jU{most v:Nat}{l r:List UInt8}(h:fZ most l= .ok (v,r)):v≤most:=by
 unfold fZ at h
 dsimp only at h
 split at h
 ·cases h
 ·rename_i hn
  injection h with h
  injection h with h1 h2
  rw[←h1]
  rcases Nat.lt_or_ge most (mZ (l.takeWhile iT))with h3|h3
  ·exact absurd (.inr (.inr h3)) hn
  ·exact h3
theorem dW.no{α:Type}{p:Nat}{s:ByteArray}{V:α→Ending→World→Prop}{r:Except Nat (α×List UInt8)}{w w':World}{n:Nat}(hr:r= .error n)(ho:Off (fun i=>i=p) w w'):dW p s V r w (.panicked [{v:= .iface 111 (.int .i64 ((s.size:Int)-(n:Int))),recovered:=false}]) w':=by
 subst hr
 exact⟨ho,rfl⟩
theorem zD(w:World){b o c i:Nat}{v u:Value}(_:Nat)(_:Nat)(h:(w.setCell ⟨c,i,none⟩ v).cell? ⟨b,o,none⟩=some u)(hne:o≠i):w.cell? ⟨b,o,none⟩=some u:=by
 rw[World.cell?_setCell_other _ _ _ _ (by simp[hne])]at h
 exact h
theorem qX(w:World)(b i:Nat)(v:Value){a:Addr}:(w.setCell ⟨b,i,none⟩ v).frozen? a=w.frozen? a:=by simp
abbrev zF:Qd→Ending→World→Prop:=fun q e _=>e= .returned (qdV q)
theorem mV{w:World}{p:Nat}{s:ByteArray}{at_:Nat}(hse:SE w)(h8:8≤p)(h:ScS w p s at_):
  Calls Tryz.prog 178 #[.pointer (some ⟨p,0,none⟩)] w (dW p s zF (gW (s.data.toList.drop at_)) w):=by
 obtain⟨wq,hwq⟩:∃wq,wq=w.alloc (.cells #[.int .u8 0,.int .u32 0,.int .u64 0] 37):=⟨_,rfl⟩
 have oz:Below w.heap.size w wq:=by rw[hwq];exact(Below.refl _ _).alloc (Nat.le_refl _) _
 have LH:wq.heap.size=w.heap.size+1:=by rw[hwq];exact World.size_alloc _ _
 obtain⟨w0,hw0⟩:∃w0,w0=wq.alloc (.cells #[.int .u8 0,.int .u32 0,.int .u64 0] 37):=⟨_,rfl⟩
 have hup0:Below wq.heap.size wq w0:=by rw[hw0];exact(Below.refl _ _).alloc (Nat.le_refl _) _
 have HZ:=hid (show Blk w0 w.heap.size 37 #[.int .u8 0,.int .u32 0,.int .u64 0]from by rw[hw0,hwq];exact(Blk.new w _ _).alloc _)
 have HF:=hid (show Blk w0 (w.heap.size+1) 37 #[.int .u8 0,.int .u32 0,.int .u64 0]from by rw[←LH,hw0];exact Blk.new wq _ _)
 have hb:=oz.trans (hup0.mono (by omega))
 have HS:=hid (h.below hb)
 have HO:=hid (show Off (fun i=>i=p∨w.heap.size≤i) w w0 from Off.of_below hb)
 have HPZ:=hid (show p<w.heap.size∧8≤p from⟨Blk.lt h.1,h8⟩)
 have HSE:=hid hse
 have HSS:=hid h.2.2
 clear h hse h8 oz hup0 LH hb
 go_enter Tryz.func178,Tryz.ntmps178
 go_upto_region 2 with(fail)
 change Code.wp _ _ _ _ ((w.alloc (.cells #[.int .u8 0,.int .u32 0,.int .u64 0] 37)).alloc (.cells #[.int .u8 0,.int .u32 0,.int .u64 0] 37))
 rw[←hwq,←hw0]
 clear hwq hw0
 generalize hz:w.heap.size=z at HZ HF HO HPZ⊢
 have HZZ:=hid hz;clear hz
 obtain⟨L,hL⟩:∃L,L=s.data.toList.drop at_:=⟨_,rfl⟩
 have HL:=hid hL;clear hL
 go_wp2_with fail
 refine(dO 255 (by decide) (HSE.out.low (HO.out.below (B:=8) (fun i hi=>by have:=HPZ.out;omega) (by have:=HPZ.out;have:=HZZ.out;omega)) (Nat.le_refl 8)) HPZ.out.2 (by have:=Blk.lt HZ.out;have:=HPZ.out;omega) HS.out).mono ?_
 rw[show s.data.toList.drop at_=L from HL.out.symm]
 rintro e w1 ⟨ho,hr⟩
 have HO1:=hid (HO.out.trans ho.toN)
 have HZ1:=hid (ho.blk HZ.out (by have:=HPZ.out;omega))
 have HF1:=hid (ho.blk HF.out (by have:=HPZ.out;omega))
 clear ho
 cases hp:fZ 255 L with
 |error n=>
  rw[hp]at hr
  have HR:=hid (show gW L= .error n from by
   unfold gW
   simp only[hp,bC]
   rfl)
  have hr:e=d_ _:=hr
  subst hr
  unfold d_
  clear hp
  go_wp2_with fail
  refine⟨rfl, ?_⟩
  have HN:=dW.no (V:=zF) (s:=s) HR.out (HO1.out.toR (by have:=HZZ.out;omega))
  first|exact HN|(rw[←HL.out];exact HN)
 |ok x=>
  obtain⟨x0,l0⟩:=x
  rw[hp]at hr
  obtain⟨he,a0,hs,hd⟩:=hr
  have he:e= .returned (.int .u64 (x0:Int)):=he
  subst he
  have HE0:=hid hp
  have HV0:=hid (jU hp)
  have HS1:=hid hs
  have HD0:=hid hd
  clear hp hs hd
  have hwv:IntKind.u8.wrap (x0:Int)=(x0:Int):=by have:=HV0.out;rw[IntKind.wrap_u8];omega
  have ks:w1.cell? ⟨z+1,0,none⟩=some (.int .u8 0):=HF1.out.cell 0
  have fs:w1.frozen? ⟨z+1,0,none⟩=false:=HF1.out.frozen 0
  have HF2:=hid (show Blk (w1.setCell ⟨z+1,0,none⟩ (.int .u8 (x0:Int))) (z+1) 37 #[.int .u8 (x0:Int),.int .u32 0,.int .u64 0]from HF1.out.aW 0 (.int .u8 (x0:Int)))
  have hso:=fun(S:Nat→Prop) (hS:S (z+1))=>(Off.refl S w1).setCell (p:=⟨z+1,0,none⟩) hS (.int .u8 (x0:Int))
  have HS2:=hid (HS1.out.off (hso (fun i=>i=z+1) rfl) (by have:=HPZ.out;omega))
  have HZ2:=hid ((hso (fun i=>i=z+1) rfl).blk HZ1.out (by omega))
  have HO2:=hid (HO1.out.trans (hso _ (.inr (Nat.le_succ _))))
  clear hso HF1 HS1 HZ1 HO1
  go_wp2_with fail
  clear ks fs hwv
  generalize w1.setCell ⟨z+1,0,none⟩ (.int .u8 (x0:Int))=w2 at HF2 HS2 HZ2 HO2⊢
  refine(dK ⟨#[46]⟩ HS2.out).mono ?_
  rw[show s.data.toList.drop a0=l0 from HD0.out]
  rintro e w3 ⟨ho,hr⟩
  have HO3:=hid (HO2.out.trans ho.toN)
  have HZ3:=hid (ho.blk HZ2.out (by have:=HPZ.out;omega))
  have HF3:=hid (ho.blk HF2.out (by have:=HPZ.out;omega))
  clear ho
  rw[show(⟨#[46]⟩:ByteArray).data.toList=[46]from rfl]at hr
  cases hp:dQ [46] l0 with
  |error n=>
   rw[hp]at hr
   have HR:=hid (show gW L= .error n from by
    unfold gW
    simp only[HE0.out,hp,bC]
    rfl)
   have hr:e=d_ _:=hr
   subst hr
   unfold d_
   clear hp
   go_wp2_with fail
   refine⟨rfl, ?_⟩
   have HN:=dW.no (V:=zF) (s:=s) HR.out (HO3.out.toR (by have:=HZZ.out;omega))
   first|exact HN|(rw[←HL.out];exact HN)
  |ok x1_=>
   rw[hp]at hr
   obtain⟨he,a1,hs,hd⟩:=hr
   have he:e= .returned (.tuple #[]):=he
   subst he
   have HE1:=hid hp
   have HS3:=hid hs
   have HD1:=hid hd
   clear hp hs hd
   go_wp2_with fail
   refine(dO 4294967295 (by decide) (HSE.out.low (HO3.out.below (B:=8) (fun i hi=>by have:=HPZ.out;omega) (by have:=HPZ.out;have:=HZZ.out;omega)) (Nat.le_refl 8)) HPZ.out.2 (by have:=Blk.lt HZ3.out;have:=HPZ.out;omega) HS3.out).mono ?_
   rw[show s.data.toList.drop a1=x1_ from HD1.out]
   rintro e w4 ⟨ho,hr⟩
   have HO4:=hid (HO3.out.trans ho.toN)
   have HZ4:=hid (ho.blk HZ3.out (by have:=HPZ.out;omega))
   have HF4:=hid (ho.blk HF3.out (by have:=HPZ.out;omega))
   clear ho
   cases hp:fZ 4294967295 x1_ with
   |error n=>
    rw[hp]at hr
    have HR:=hid (show gW L= .error n from by
     unfold gW
     simp only[HE0.out,HE1.out,hp,bC]
     rfl)
    have hr:e=d_ _:=hr
    subst hr
    unfold d_
    clear hp
    go_wp2_with fail
    refine⟨rfl, ?_⟩
    have HN:=dW.no (V:=zF) (s:=s) HR.out (HO4.out.toR (by have:=HZZ.out;omega))
    first|exact HN|(rw[←HL.out];exact HN)
   |ok x=>
    obtain⟨x1,l2⟩:=x
    rw[hp]at hr
    obtain⟨he,a2,hs,hd⟩:=hr
    have he:e= .returned (.int .u64 (x1:Int)):=he
    subst he
    have HE2:=hid hp
    have HV2:=hid (jU hp)
    have HS4:=hid hs
    have HD2:=hid hd
    clear hp hs hd
    have hwv:IntKind.u32.wrap (x1:Int)=(x1:Int):=by have:=HV2.out;rw[IntKind.wrap_u32];omega
    have ks:w4.cell? ⟨z+1,1,none⟩=some (.int .u32 0):=HF4.out.cell 1
    have fs:w4.frozen? ⟨z+1,1,none⟩=false:=HF4.out.frozen 1
    have HF5:=hid (show Blk (w4.setCell ⟨z+1,1,none⟩ (.int .u32 (x1:Int))) (z+1) 37 #[.int .u8 (x0:Int),.int .u32 (x1:Int),.int .u64 0]from HF4.out.aW 1 (.int .u32 (x1:Int)))
    have hso:=fun(S:Nat→Prop) (hS:S (z+1))=>(Off.refl S w4).setCell (p:=⟨z+1,1,none⟩) hS (.int .u32 (x1:Int))
    have HS5:=hid (HS4.out.off (hso (fun i=>i=z+1) rfl) (by have:=HPZ.out;omega))
    have HZ5:=hid ((hso (fun i=>i=z+1) rfl).blk HZ4.out (by omega))
    have HO5:=hid (HO4.out.trans (hso _ (.inr (Nat.le_succ _))))
    clear hso HF4 HS4 HZ4 HO4
    go_wp2_with fail
    clear ks fs hwv
    generalize w4.setCell ⟨z+1,1,none⟩ (.int .u32 (x1:Int))=w5 at HF5 HS5 HZ5 HO5⊢
    refine(dK ⟨#[46]⟩ HS5.out).mono ?_
    rw[show s.data.toList.drop a2=l2 from HD2.out]
    rintro e w6 ⟨ho,hr⟩
    have HO6:=hid (HO5.out.trans ho.toN)
    have HZ6:=hid (ho.blk HZ5.out (by have:=HPZ.out;omega))
    have HF6:=hid (ho.blk HF5.out (by have:=HPZ.out;omega))
    clear ho
    rw[show(⟨#[46]⟩:ByteArray).data.toList=[46]from rfl]at hr
    cases hp:dQ [46] l2 with
    |error n=>
     rw[hp]at hr
     have HR:=hid (show gW L= .error n from by
      unfold gW
      simp only[HE0.out,HE1.out,HE2.out,hp,bC]
      rfl)
     have hr:e=d_ _:=hr
     subst hr
     unfold d_
     clear hp
     go_wp2_with fail
     refine⟨rfl, ?_⟩
     have HN:=dW.no (V:=zF) (s:=s) HR.out (HO6.out.toR (by have:=HZZ.out;omega))
     first|exact HN|(rw[←HL.out];exact HN)
    |ok x3_=>
     rw[hp]at hr
     obtain⟨he,a3,hs,hd⟩:=hr
     have he:e= .returned (.tuple #[]):=he
     subst he
     have HE3:=hid hp
     have HS6:=hid hs
     have HD3:=hid hd
     clear hp hs hd
     go_wp2_with fail
     refine(dO 18446744073709551615 (by decide) (HSE.out.low (HO6.out.below (B:=8) (fun i hi=>by have:=HPZ.out;omega) (by have:=HPZ.out;have:=HZZ.out;omega)) (Nat.le_refl 8)) HPZ.out.2 (by have:=Blk.lt HZ6.out;have:=HPZ.out;omega) HS6.out).mono ?_
     rw[show s.data.toList.drop a3=x3_ from HD3.out]
     rintro e w7 ⟨ho,hr⟩
     have HO7:=hid (HO6.out.trans ho.toN)
     have HZ7:=hid (ho.blk HZ6.out (by have:=HPZ.out;omega))
     have HF7:=hid (ho.blk HF6.out (by have:=HPZ.out;omega))
     clear ho
     cases hp:fZ 18446744073709551615 x3_ with
     |error n=>
      rw[hp]at hr
      have HR:=hid (show gW L= .error n from by
       unfold gW
       simp only[HE0.out,HE1.out,HE2.out,HE3.out,hp,bC]
       rfl)
      have hr:e=d_ _:=hr
      subst hr
      unfold d_
      clear hp
      go_wp2_with fail
      refine⟨rfl, ?_⟩
      have HN:=dW.no (V:=zF) (s:=s) HR.out (HO7.out.toR (by have:=HZZ.out;omega))
      first|exact HN|(rw[←HL.out];exact HN)
     |ok x=>
      obtain⟨x2,l4⟩:=x
      rw[hp]at hr
      obtain⟨he,a4,hs,hd⟩:=hr
      have he:e= .returned (.int .u64 (x2:Int)):=he
      subst he
      have HE4:=hid hp
      have HV4:=hid (jU hp)
      have HS7:=hid hs
      have HD4:=hid hd
      clear hp hs hd
      have hwv:IntKind.u64.wrap (x2:Int)=(x2:Int):=by have:=HV4.out;rw[IntKind.wrap_u64];omega
      have ks:w7.cell? ⟨z+1,2,none⟩=some (.int .u64 0):=HF7.out.cell 2
      have fs:w7.frozen? ⟨z+1,2,none⟩=false:=HF7.out.frozen 2
      have HF8:=hid (show Blk (w7.setCell ⟨z+1,2,none⟩ (.int .u64 (x2:Int))) (z+1) 37 #[.int .u8 (x0:Int),.int .u32 (x1:Int),.int .u64 (x2:Int)]from HF7.out.aW 2 (.int .u64 (x2:Int)))
      have hso:=fun(S:Nat→Prop) (hS:S (z+1))=>(Off.refl S w7).setCell (p:=⟨z+1,2,none⟩) hS (.int .u64 (x2:Int))
      have HS8:=hid (HS7.out.off (hso (fun i=>i=z+1) rfl) (by have:=HPZ.out;omega))
      have HZ8:=hid ((hso (fun i=>i=z+1) rfl).blk HZ7.out (by omega))
      have HO8:=hid (HO7.out.trans (hso _ (.inr (Nat.le_succ _))))
      clear hso HF7 HS7 HZ7 HO7
      have kf0:w7.cell? ⟨z+1,0,none⟩=some (.int .u8 (x0:Int)):=zD w7 0 0 (HF8.out.cell 0) (by decide)
      have kf1:w7.cell? ⟨z+1,1,none⟩=some (.int .u32 (x1:Int)):=zD w7 0 0 (HF8.out.cell 1) (by decide)
      have hzz:z≠z+1:=by omega
      have kz0:w7.cell? ⟨z,0,none⟩=some (.int .u8 0):=(cell_far w7 hzz _).symm.trans (HZ8.out.cell 0)
      have kz1:w7.cell? ⟨z,1,none⟩=some (.int .u32 0):=(cell_far w7 hzz _).symm.trans (HZ8.out.cell 1)
      have kz2:w7.cell? ⟨z,2,none⟩=some (.int .u64 0):=(cell_far w7 hzz _).symm.trans (HZ8.out.cell 2)
      have fz0:w7.frozen? ⟨z,0,none⟩=false:=(qX w7 _ _ _).symm.trans (HZ8.out.frozen 0)
      have fz1:w7.frozen? ⟨z,1,none⟩=false:=(qX w7 _ _ _).symm.trans (HZ8.out.frozen 1)
      have fz2:w7.frozen? ⟨z,2,none⟩=false:=(qX w7 _ _ _).symm.trans (HZ8.out.frozen 2)
      have hso:=fun(S:Nat→Prop) (hS:S z)=>(((Off.refl S (w7.setCell ⟨z+1,2,none⟩ (.int .u64 (x2:Int)))).setCell (p:=⟨z,0,none⟩) hS (.int .u8 (x0:Int))).setCell (p:=⟨z,1,none⟩) hS (.int .u32 (x1:Int))).setCell (p:=⟨z,2,none⟩) hS (.int .u64 (x2:Int))
      have HZX:=hid (show Blk ((((w7.setCell ⟨z+1,2,none⟩ (.int .u64 (x2:Int))).setCell ⟨z,0,none⟩ (.int .u8 (x0:Int))).setCell ⟨z,1,none⟩ (.int .u32 (x1:Int))).setCell ⟨z,2,none⟩ (.int .u64 (x2:Int))) z 37 #[.int .u8 (x0:Int),.int .u32 (x1:Int),.int .u64 (x2:Int)]from((HZ8.out.aW 0 (.int .u8 (x0:Int))).aW 1 (.int .u32 (x1:Int))).aW 2 (.int .u64 (x2:Int)))
      have HOX:=hid (HO8.out.trans (hso _ (.inr (Nat.le_refl _))))
      have HSX:=hid (HS8.out.off (hso (fun i=>i=z) rfl) (by have:=HPZ.out;omega))
      have HR:=hid (show gW L= .ok (⟨x0,x1,x2⟩,l4)from by
       unfold gW
       simp only[HE0.out,HE1.out,HE2.out,HE3.out,HE4.out,bC]
       rfl)
      clear hso hzz
      go_wp2_with fail
      clear ks fs kf0 kf1 kz0 kz1 kz2 fz0 fz1 fz2
      generalize(((w7.setCell ⟨z+1,2,none⟩ (.int .u64 (x2:Int))).setCell ⟨z,0,none⟩ (.int .u8 (x0:Int))).setCell ⟨z,1,none⟩ (.int .u32 (x1:Int))).setCell ⟨z,2,none⟩ (.int .u64 (x2:Int))=wz at HZX HOX HSX⊢
      refine bodyPost_ret (bf (l:=[.int .u8 (x0:Int),.int .u32 (x1:Int),.int .u64 (x2:Int)]) rfl Tryz.underlying37 rfl rU rfl HZX.out) rfl ?_
      rw[←HL.out]
      refine⟨HOX.out.toR (by have:=HZZ.out;omega), ?_⟩
      rw[HR.out]
      exact⟨rfl,_,HSX.out,HD4.out⟩
end Go.Proofs.YtkblmloobkiloaaGreatDoor
