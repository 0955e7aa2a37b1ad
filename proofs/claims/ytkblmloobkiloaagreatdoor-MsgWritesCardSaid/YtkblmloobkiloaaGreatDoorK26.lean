/-
  MO2 MLC: what the laws of package msg need of them.
-/
import Derived.Test.YtkblmloobkiloaaGreatDoorK25
import Derived.Test.YtkblmloobkiloaaGreatDoorK06
import Derived.Test.YtkblmloobkiloaaGreatDoorK14
namespace Go.Proofs.YtkblmloobkiloaaGreatDoor
open Go.ChangeShapes Go.WideShapes Go.ChangeAt Go.RowKit
theorem ay{α:Type}{l:List α}{n:Nat}(h:l.length=n+1):∃a t,l=a::t∧t.length=n:=by
 cases l with
 |nil=>simp at h
 |cons a t=>exact⟨a,t,rfl,by simpa using h⟩
theorem len_nil{α:Type}{l:List α}(h:l.length=0):l=[]:=List.length_eq_zero_iff.1 h
section
variable {P:Program} {w:World} {r:Reach} {b0:Nat} {t:TypeId} {c:Value}
theorem uq{k:IntKind}(ht:P.underlying t=some (.int k))(h:Cell.okWide P w r b0 t c):∃n,c= .int k n∧k.has n:=by
 cases c<;>simp[Cell.okWide,Cell.ok,ht]at h
 obtain⟨rfl,h⟩:=h
 exact⟨_,rfl,h⟩
theorem acd(ht:P.underlying t=some .string)(h:Cell.okWide P w r b0 t c):∃s,c= .string s:=by
 cases c<;>simp[Cell.okWide,Cell.ok,ht]at h
 exact⟨_,rfl⟩
theorem ad8{ts:List TypeId}{cs:Array Value}(hts:P.cellTypes P.depth t=some ts)(h:Row.okWide P w r b0 t cs)(i:Nat){u:TypeId}(hu:ts[i]? =some u){v:Value}(hv:cs[i]? =some v):Cell.okWide P w r b0 u v:=by
 obtain⟨ts',h1,_,h2⟩:=h
 obtain rfl:=Option.some.inj (hts.symm.trans h1)
 obtain⟨u',h3,h4⟩:=h2 i v hv
 have hi:i<ts.length:=(List.getElem?_eq_some_iff.1 hu).1
 rw[Nat.mod_eq_of_lt hi]at h3
 obtain rfl:=Option.some.inj (hu.symm.trans h3)
 exact h4
end
section
variable {H:Type} {enc:TypeId×Value→H} {P:Program} {w:World} {base fuel:Nat} {spare:Nat→Bool} {held:Bool} {t:TypeId} {cs:List Value} {x:DataW H×List MemPlace}
theorem aa_{fs:Array Field}(ht:P.underlying t=some (.struct fs))(h:DataW.trod enc P w base spare held fuel t cs=some x){j:Nat}{f:Field}(hf:fs[j]? =some f):
  ∃n y,DataW.trod enc P w base spare held n f.type ((cs.drop f.offset).take (P.cellsOf f.type))=some y∧∀k∈y.1.weights P f.type,k∈x.1.weights P t:=by
 obtain⟨xs,n,_,rfl,_,hl,hg⟩:=DataW.trod_struct ht h
 have hj:j<xs.length:=by rw[hl];exact(Array.getElem?_eq_some_iff.1 hf).1
 refine⟨n,xs[j],(hg j f hf).trans (List.getElem?_eq_getElem hj),fun k hk=> ?_⟩
 simp only[DataW.weights,ht]
 refine DataW.weights_mem_each (j:=j) (t:=f.type) (d:=xs[j].1) ?_ ?_ k hk
 ·rw[List.getElem?_map,Array.getElem?_toList,hf];rfl
 ·rw[List.getElem?_map,List.getElem?_eq_getElem hj];rfl
theorem cu{fs:Array Field}(ht:P.underlying t=some (.struct fs))(h:DataW.trod enc P w base spare held fuel t cs=some x)(j:Nat){f:Field}(hf:fs[j]? =some f)(u:TypeId){n:Nat}(hu:f.type=u)(hn:P.cellsOf u=n)(cs':List Value)(hcs:(cs.drop f.offset).take n=cs'):
  ∃m y,DataW.trod enc P w base spare held m u cs'=some y∧∀k∈y.1.weights P u,k∈x.1.weights P t:=by
 subst hu
 subst hn
 subst hcs
 exact aa_ ht h hf
theorem Aq(ht:P.underlying t=some .string){s:ByteArray}(h:DataW.trod enc P w base spare held fuel t [.string s]=some x):s.size∈x.1.weights P t:=by
 obtain⟨s',h1,hx,_⟩:=DataW.trod_string ht h
 simp at h1
 subst h1
 subst hx
 simp[DataW.weights]
end
theorem ab1{k:IntKind}{n:Int}{b:Nat}(hk:k.min=0)(hb:k.max=(b:Int)-1)(h:k.has n):∃m:Nat,n=(m:Int)∧m<b:=by
 unfold IntKind.has at h
 rw[hk,hb]at h
 exact⟨n.toNat,by omega,by omega⟩
section
variable {H:Type} {enc:TypeId×Value→H} {w:World} {base:Nat} {held:Bool} {fuel:Nat}
theorem aa7{t e:TypeId}{k:IntKind}{cs:List Value}{x:DataW H×List MemPlace}(ht:Tryz.prog.underlying t=some (.slice e))(he:Tryz.prog.underlying e=some (.int k))(hc:Tryz.prog.cellsOf e=1)
  (h:DataW.trod enc Tryz.prog w base (fun _=>true) held fuel t cs=some x):∃(A:Option Addr) (n cap:Nat) (zs:List Int),cs=[.slice A n cap]∧n≤cap∧cap≤maxLen∧zs.length=n∧Reads w w.heap.size 1 A n (zs.map (.int k))∧(∀z∈zs,(Lit.int k z).wf=true)∧
   ∀B,(∀q∈x.1.weights Tryz.prog t,q≤B)→n*Tryz.prog.bytesOf e≤B:=by
 rcases open_ints ht he hc h with⟨rfl,_⟩|⟨a,l,c,zs,rfl,_,hl,hm,hz,rfl,hcell,hwz⟩
 ·exact⟨none,0,0,[],rfl,Nat.le_refl _,Nat.zero_le _,rfl,Reads.none_,fun z hz=>(by cases hz),fun B _=>(by rw[Nat.zero_mul];exact Nat.zero_le _)⟩
 ·have hz':zs.length=c:=by simpa using hz
  have htl:(zs.take l).length=l:=by rw[List.length_take];omega
  refine⟨some a,l,c,zs.take l,rfl,hl,hm,htl,⟨by rw[List.length_map,htl];omega,fun hn=>⟨a,rfl,Go.Clock.block_lt (hcell 0 (by omega)),fun j u hu=> ?_⟩⟩,fun z hz=>hwz z (List.mem_of_mem_take hz),fun B hB=> ?_⟩
  ·rw[List.getElem?_map,Option.map_eq_some_iff]at hu
   obtain⟨z,hz1,rfl⟩:=hu
   have hj:j<l:=by
    have:=(List.getElem?_eq_some_iff.1 hz1).1
    omega
   rw[List.getElem?_take_of_lt hj]at hz1
   rw[hcell j (by omega),List.getD_eq_getElem?_getD,hz1]
   rfl
  ·have h1:=hB (((lits (H:=H) k (zs.take l)).length+(lits (H:=H) k (zs.drop l)).length)*Tryz.prog.bytesOf e) (by simp[DataW.weights,ht])
   have h2:(lits (H:=H) k (zs.take l)).length=l:=by simp only[lits,List.length_map,htl]
   rw[h2]at h1
   exact Nat.le_trans (Nat.mul_le_mul_right _ (Nat.le_add_right _ _)) h1
theorem aaX{cs:List Value}{x:DataW H×List MemPlace}(h:DataW.trod enc Tryz.prog w base (fun _=>true) held fuel 22 cs=some x):∃v l,cs=[v]∧Bys w w.heap.size v l∧((∀q∈x.1.weights Tryz.prog 22,q≤reachBytes)→l.length≤140737488355327):=by
 obtain⟨A,n,cap,zs,rfl,h1,h2,h3,h4,h5,h6⟩:=aa7 Tryz.underlying22 Tryz.underlying5 (by kernel_rfl) h
 obtain⟨l,hl1,hl2⟩:=zZ zs h5
 subst h3
 rw[←hl2,←hl1]at h4
 refine⟨_,l,rfl,⟨A,cap,by rw[hl1],by omega,h2,h4⟩,fun hq=> ?_⟩
 have h7:=h6 reachBytes hq
 rw[show Tryz.prog.bytesOf 5=1 from by kernel_rfl,Nat.mul_one,←hl1]at h7
 unfold reachBytes at h7
 omega
theorem Am{P:Program}{e:TypeId}:∀ {l:List (DataW H)} {d:DataW H},d∈l→∀k∈d.weights P e,k∈DataW.weightsAll P e l
 |x::l,d,hd,k,hk=>by
  rw[DataW.weightsAll,List.mem_append]
  rcases List.mem_cons.1 hd with rfl|hd
  ·exact .inl hk
  ·exact .inr (Am hd k hk)
theorem range_map_get{α:Type}(f:Nat→α){n j:Nat}{u:α}(h:((List.range n).map f)[j]? =some u):j<n∧u=f j:=by
 rw[List.getElem?_map,Option.map_eq_some_iff]at h
 obtain⟨i,hi,rfl⟩:=h
 obtain⟨hl,he⟩:=List.getElem?_eq_some_iff.1 hi
 rw[List.length_range]at hl
 rw[List.getElem_range]at he
 exact⟨hl,by rw[he]⟩
theorem CQ{cs:List Value}{x:DataW H×List MemPlace}(h:DataW.trod enc Tryz.prog w base (fun _=>true) held fuel 33 cs=some x):∃v l,cs=[v]∧iW w w.heap.size v l∧((∀q∈x.1.weights Tryz.prog 33,q≤reachBytes)→l.length≤140737488355327∧∀s∈l,s.size≤140737488355327):=by
 rcases Go.Deep.open_strs Tryz.underlying33 Tryz.underlying9 (by kernel_rfl) h with⟨rfl,_⟩|⟨a,len,cap,m,Sx,rfl,_,hl,hm,hmm,rfl,hx⟩
 ·exact⟨_,[],rfl,iW.nil_ _ _,fun _=>⟨Nat.zero_le _,fun s hs=>(by cases hs)⟩⟩
 ·have hmc:len≤m:=by rw[hmm];split<;>omega
  have hlen:((List.range len).map Sx).length=len:=by rw[List.length_map,List.length_range]
  refine⟨_,(List.range len).map Sx,rfl,⟨some a,cap,by rw[hlen],by rw[hlen];exact hl,hm,⟨by rw[h_,List.length_map,Nat.mul_one],fun hn=>⟨a,rfl,Go.Clock.block_lt (hx 0 (by omega)).1,fun j u hu=> ?_⟩⟩⟩,fun hq=>⟨?_,fun s hs=> ?_⟩⟩
  ·rw[h_,List.getElem?_map,Option.map_eq_some_iff]at hu
   obtain⟨s,hs,rfl⟩:=hu
   obtain⟨h1,rfl⟩:=range_map_get Sx hs
   exact(hx j (by omega)).1
  ·have h1:=hq (((((List.range len).map fun i=>(DataW.lit (.string (Sx i).data.toList):DataW H))).length+((List.range (m-len)).map fun j=>(DataW.lit (.string (Sx (len+j)).data.toList):DataW H)).length)*Tryz.prog.bytesOf 9) (by simp[DataW.weights,Tryz.underlying33])
   rw[show Tryz.prog.bytesOf 9=16 from by kernel_rfl,List.length_map,List.length_range]at h1
   rw[hlen]
   unfold reachBytes at h1
   omega
  ·obtain⟨i,hi,rfl⟩:=List.mem_map.1 hs
   have h1:=hq (Sx i).size (by
    simp only[DataW.weights,Tryz.underlying33]
    refine .tail _ (List.mem_append_left _ (Am (List.mem_map.2 ⟨i,hi,rfl⟩) _ ?_))
    simp[DataW.weights])
   unfold reachBytes at h1
   omega
instance:Inhabited Qd:=⟨⟨0,0,0⟩⟩
theorem aa8{cs:List Value}{x:DataW H×List MemPlace}(h:DataW.trod enc Tryz.prog w base (fun _=>true) held fuel 34 cs=some x):∃v l,cs=[v]∧lX w w.heap.size v l∧(∀q∈l,q.ok)∧((∀q∈x.1.weights Tryz.prog 34,q≤reachBytes)→l.length≤140737488355327):=by
 rcases Go.Deep.open_slice Tryz.underlying34 h with⟨rfl,_⟩|⟨a,len,cap,m,n,D,Pl,rfl,hb,hl,hm,hmm,rfl,hx⟩
 ·exact⟨_,[],rfl,lX.nil_ _ _,fun q hq=>(by cases hq),fun _=>Nat.zero_le _⟩
 ·have hmc:len≤m:=by rw[hmm];split<;>omega
  have hce:Tryz.prog.cellsOf 37=3:=by kernel_rfl
  obtain⟨f,hf⟩:=Go.Deep.choose_lt (n:=len) (p:=fun i (q:Qd)=>q.ok∧a.block<w.heap.size∧w.cell? (a.add (i*3))=some (.int .u8 (q.kind:Int))∧w.cell? (a.add (i*3+1))=some (.int .u32 (q.vers:Int))∧w.cell? (a.add (i*3+2))=some (.int .u64 (q.path:Int))) (fun i hi=>by
   obtain⟨cs',h1,h2⟩:=hx i (by omega)
   rw[hce]at h1
   obtain⟨_,hlen,hcell⟩:=World.cells?_some h1
   match cs',hlen with
   | [v0,v1,v2],_=>
    obtain⟨m0,y0,g0, -⟩:=cu Tryz.underlying37 h2 0 rfl 5 rfl (show Tryz.prog.cellsOf 5=1 by kernel_rfl) [v0] rfl
    obtain⟨m1,y1,g1, -⟩:=cu Tryz.underlying37 h2 1 rfl 32 rfl (show Tryz.prog.cellsOf 32=1 by kernel_rfl) [v1] rfl
    obtain⟨m2,y2,g2, -⟩:=cu Tryz.underlying37 h2 2 rfl 35 rfl (show Tryz.prog.cellsOf 35=1 by kernel_rfl) [v2] rfl
    have c0:=hcell 0 (by omega)
    have c1:=hcell 1 (by omega)
    have c2:=hcell 2 (by omega)
    rw[lU]at c0 c1 c2
    obtain⟨z0,e0, -,hw0⟩:=DataW.trod_int Tryz.underlying5 g0
    obtain⟨z1,e1, -,hw1⟩:=DataW.trod_int Tryz.underlying32 g1
    obtain⟨z2,e2, -,hw2⟩:=DataW.trod_int Tryz.underlying35 g2
    injection e0 with e0
    injection e1 with e1
    injection e2 with e2
    subst e0
    subst e1
    subst e2
    simp only[Lit.wf,IntKind.min,IntKind.max,IntKind.signed,IntKind.bits,Bool.and_eq_true]at hw0 hw1 hw2
    simp at hw0 hw1 hw2
    have t0:((z0.toNat:Nat):Int)=z0:=by omega
    have t1:((z1.toNat:Nat):Int)=z1:=by omega
    have t2:((z2.toNat:Nat):Int)=z2:=by omega
    exact⟨⟨z0.toNat,z1.toNat,z2.toNat⟩,⟨by dsimp only;omega,by dsimp only;omega,by dsimp only;omega⟩,by have:=Go.Clock.block_lt c0;rwa[nR]at this,by rw[t0];exact c0,by rw[t1];exact c1,by rw[t2];exact c2⟩)
  have hlen:((List.range len).map f).length=len:=by rw[List.length_map,List.length_range]
  refine⟨_,(List.range len).map f,rfl,⟨some a,cap,by rw[hlen],by rw[hlen];exact hl,hm,⟨by rw[aa1],fun hn=>⟨a,rfl,(hf 0 (by omega)).2.1,fun j u hu=> ?_⟩⟩⟩,fun q hq=> ?_,fun hq=> ?_⟩
  ·have hj:=(List.getElem?_eq_some_iff.1 hu).1
   rw[aa1,hlen]at hj
   have hk:j/3<len:=by omega
   have he:j=j/3*3∨j=j/3*3+1∨j=j/3*3+2:=by omega
   generalize j/3=k at hk he
   have hget:((List.range len).map f)[k]? =some (f k):=by rw[List.getElem?_map,List.getElem?_range hk];rfl
   obtain⟨q0,q1,q2⟩:=GK _ _ _ hget
   obtain⟨-, -,c0,c1,c2⟩:=hf k hk
   rcases he with rfl|rfl|rfl
   ·rw[q0]at hu;rw[c0];exact hu
   ·rw[q1]at hu;rw[c1];exact hu
   ·rw[q2]at hu;rw[c2];exact hu
  ·obtain⟨i,hi,rfl⟩:=List.mem_map.1 hq
   exact(hf i (List.mem_range.1 hi)).1
  ·have h1:=hq ((((List.range len).map D).length+((List.range (m-len)).map fun j=>D (len+j)).length)*Tryz.prog.bytesOf 37) (by simp[DataW.weights,Tryz.underlying34])
   rw[show Tryz.prog.bytesOf 37=16 from by kernel_rfl,List.length_map,List.length_range]at h1
   rw[hlen]
   unfold reachBytes at h1
   omega
end
structure Came(w:World)(m:Mg)(vn vq vd:Value):Prop where
 ok:m.ok
 l:Lists w w.heap.size m vn vq vd
 nl:m.names.length≤140737488355327
 ns:∀s∈m.names,s.size≤140737488355327
 ql:m.aV.length≤140737488355327
 dl:m.data.length≤140737488355327
 s3:m.version.size≤140737488355327
 s5:m.uname.size≤140737488355327
 s6:m.bF.size≤140737488355327
 s7:m.bH.size≤140737488355327
 s18:m.name.size≤140737488355327
 s32:m.stat.name.size≤140737488355327
 s33:m.stat.uid.size≤140737488355327
 s34:m.stat.gid.size≤140737488355327
 s35:m.stat.fE.size≤140737488355327
set_option maxRecDepth 100000 in
set_option maxHeartbeats 3200000 in
theorem ad9{H:Type}{enc:TypeId×Value→H}{w:World}{base b0:Nat}{held:Bool}{v:Value}{d:DataW H}{ps:List MemPlace}(hv:Value.okWide Tryz.prog w .any b0 41 v)(h:DataW.Trod enc Tryz.prog w base (fun _=>true) held 41 v d ps)(hs:∀k∈d.weights Tryz.prog 41,k≤reachBytes):
  ∃(m:Mg) (vn vq vd:Value),v=iM m vn vq vd∧Came w m vn vq vd:=by
 simp only[Value.okWide,Tryz.underlying41]at hv
 obtain⟨cs,rfl,hsz,hrow⟩:=hv
 have hts:Tryz.prog.cellTypes Tryz.prog.depth 41=some [30,31,32,9,32,9,9,9,31,32,32,33,34,5,32,35,5,32,9,32,35,32,22,31,32,5,32,35,32,32,32,35,9,9,9,9]:=by kernel_rfl
 have hC:Tryz.prog.cellsOf 41=36:=by kernel_rfl
 rw[hC]at hsz
 have hc:=fun i u (hu:_) v (hv:_)=>ad8 hts hrow i (u:=u) hu (v:=v) hv
 clear hrow hts
 obtain⟨l0⟩:=cs
 have e0:l0.length=36:=hsz
 clear hsz
 obtain⟨c0,l1,rfl,e1⟩:=ay e0;clear e0
 obtain⟨c1,l2,rfl,e2⟩:=ay e1;clear e1
 obtain⟨c2,l3,rfl,e3⟩:=ay e2;clear e2
 obtain⟨c3,l4,rfl,e4⟩:=ay e3;clear e3
 obtain⟨c4,l5,rfl,e5⟩:=ay e4;clear e4
 obtain⟨c5,l6,rfl,e6⟩:=ay e5;clear e5
 obtain⟨c6,l7,rfl,e7⟩:=ay e6;clear e6
 obtain⟨c7,l8,rfl,e8⟩:=ay e7;clear e7
 obtain⟨c8,l9,rfl,e9⟩:=ay e8;clear e8
 obtain⟨c9,l10,rfl,e10⟩:=ay e9;clear e9
 obtain⟨c10,l11,rfl,e11⟩:=ay e10;clear e10
 obtain⟨c11,l12,rfl,e12⟩:=ay e11;clear e11
 obtain⟨c12,l13,rfl,e13⟩:=ay e12;clear e12
 obtain⟨c13,l14,rfl,e14⟩:=ay e13;clear e13
 obtain⟨c14,l15,rfl,e15⟩:=ay e14;clear e14
 obtain⟨c15,l16,rfl,e16⟩:=ay e15;clear e15
 obtain⟨c16,l17,rfl,e17⟩:=ay e16;clear e16
 obtain⟨c17,l18,rfl,e18⟩:=ay e17;clear e17
 obtain⟨c18,l19,rfl,e19⟩:=ay e18;clear e18
 obtain⟨c19,l20,rfl,e20⟩:=ay e19;clear e19
 obtain⟨c20,l21,rfl,e21⟩:=ay e20;clear e20
 obtain⟨c21,l22,rfl,e22⟩:=ay e21;clear e21
 obtain⟨c22,l23,rfl,e23⟩:=ay e22;clear e22
 obtain⟨c23,l24,rfl,e24⟩:=ay e23;clear e23
 obtain⟨c24,l25,rfl,e25⟩:=ay e24;clear e24
 obtain⟨c25,l26,rfl,e26⟩:=ay e25;clear e25
 obtain⟨c26,l27,rfl,e27⟩:=ay e26;clear e26
 obtain⟨c27,l28,rfl,e28⟩:=ay e27;clear e27
 obtain⟨c28,l29,rfl,e29⟩:=ay e28;clear e28
 obtain⟨c29,l30,rfl,e30⟩:=ay e29;clear e29
 obtain⟨c30,l31,rfl,e31⟩:=ay e30;clear e30
 obtain⟨c31,l32,rfl,e32⟩:=ay e31;clear e31
 obtain⟨c32,l33,rfl,e33⟩:=ay e32;clear e32
 obtain⟨c33,l34,rfl,e34⟩:=ay e33;clear e33
 obtain⟨c34,l35,rfl,e35⟩:=ay e34;clear e34
 obtain⟨c35,l36,rfl,e36⟩:=ay e35;clear e35
 obtain rfl:=len_nil e36
 obtain⟨z0,rfl,h0⟩:=uq Tryz.underlying30 (hc 0 _ rfl _ rfl)
 obtain⟨n0,rfl,b0⟩:=ab1 (b:=256) (by decide) (by decide) h0
 obtain⟨z1,rfl,h1⟩:=uq Tryz.underlying31 (hc 1 _ rfl _ rfl)
 obtain⟨n1,rfl,b1⟩:=ab1 (b:=65536) (by decide) (by decide) h1
 obtain⟨z2,rfl,h2⟩:=uq Tryz.underlying32 (hc 2 _ rfl _ rfl)
 obtain⟨n2,rfl,b2⟩:=ab1 (b:=4294967296) (by decide) (by decide) h2
 obtain⟨x3,rfl⟩:=acd Tryz.underlying9 (hc 3 _ rfl _ rfl)
 obtain⟨z4,rfl,h4⟩:=uq Tryz.underlying32 (hc 4 _ rfl _ rfl)
 obtain⟨n4,rfl,b4⟩:=ab1 (b:=4294967296) (by decide) (by decide) h4
 obtain⟨x5,rfl⟩:=acd Tryz.underlying9 (hc 5 _ rfl _ rfl)
 obtain⟨x6,rfl⟩:=acd Tryz.underlying9 (hc 6 _ rfl _ rfl)
 obtain⟨x7,rfl⟩:=acd Tryz.underlying9 (hc 7 _ rfl _ rfl)
 obtain⟨z8,rfl,h8⟩:=uq Tryz.underlying31 (hc 8 _ rfl _ rfl)
 obtain⟨n8,rfl,b8⟩:=ab1 (b:=65536) (by decide) (by decide) h8
 obtain⟨z9,rfl,h9⟩:=uq Tryz.underlying32 (hc 9 _ rfl _ rfl)
 obtain⟨n9,rfl,b9⟩:=ab1 (b:=4294967296) (by decide) (by decide) h9
 obtain⟨z10,rfl,h10⟩:=uq Tryz.underlying32 (hc 10 _ rfl _ rfl)
 obtain⟨n10,rfl,b10⟩:=ab1 (b:=4294967296) (by decide) (by decide) h10
 obtain⟨z13,rfl,h13⟩:=uq Tryz.underlying5 (hc 13 _ rfl _ rfl)
 obtain⟨n13,rfl,b13⟩:=ab1 (b:=256) (by decide) (by decide) h13
 obtain⟨z14,rfl,h14⟩:=uq Tryz.underlying32 (hc 14 _ rfl _ rfl)
 obtain⟨n14,rfl,b14⟩:=ab1 (b:=4294967296) (by decide) (by decide) h14
 obtain⟨z15,rfl,h15⟩:=uq Tryz.underlying35 (hc 15 _ rfl _ rfl)
 obtain⟨n15,rfl,b15⟩:=ab1 (b:=18446744073709551616) (by decide) (by decide) h15
 obtain⟨z16,rfl,h16⟩:=uq Tryz.underlying5 (hc 16 _ rfl _ rfl)
 obtain⟨n16,rfl,b16⟩:=ab1 (b:=256) (by decide) (by decide) h16
 obtain⟨z17,rfl,h17⟩:=uq Tryz.underlying32 (hc 17 _ rfl _ rfl)
 obtain⟨n17,rfl,b17⟩:=ab1 (b:=4294967296) (by decide) (by decide) h17
 obtain⟨x18,rfl⟩:=acd Tryz.underlying9 (hc 18 _ rfl _ rfl)
 obtain⟨z19,rfl,h19⟩:=uq Tryz.underlying32 (hc 19 _ rfl _ rfl)
 obtain⟨n19,rfl,b19⟩:=ab1 (b:=4294967296) (by decide) (by decide) h19
 obtain⟨z20,rfl,h20⟩:=uq Tryz.underlying35 (hc 20 _ rfl _ rfl)
 obtain⟨n20,rfl,b20⟩:=ab1 (b:=18446744073709551616) (by decide) (by decide) h20
 obtain⟨z21,rfl,h21⟩:=uq Tryz.underlying32 (hc 21 _ rfl _ rfl)
 obtain⟨n21,rfl,b21⟩:=ab1 (b:=4294967296) (by decide) (by decide) h21
 obtain⟨z23,rfl,h23⟩:=uq Tryz.underlying31 (hc 23 _ rfl _ rfl)
 obtain⟨n23,rfl,b23⟩:=ab1 (b:=65536) (by decide) (by decide) h23
 obtain⟨z24,rfl,h24⟩:=uq Tryz.underlying32 (hc 24 _ rfl _ rfl)
 obtain⟨n24,rfl,b24⟩:=ab1 (b:=4294967296) (by decide) (by decide) h24
 obtain⟨z25,rfl,h25⟩:=uq Tryz.underlying5 (hc 25 _ rfl _ rfl)
 obtain⟨n25,rfl,b25⟩:=ab1 (b:=256) (by decide) (by decide) h25
 obtain⟨z26,rfl,h26⟩:=uq Tryz.underlying32 (hc 26 _ rfl _ rfl)
 obtain⟨n26,rfl,b26⟩:=ab1 (b:=4294967296) (by decide) (by decide) h26
 obtain⟨z27,rfl,h27⟩:=uq Tryz.underlying35 (hc 27 _ rfl _ rfl)
 obtain⟨n27,rfl,b27⟩:=ab1 (b:=18446744073709551616) (by decide) (by decide) h27
 obtain⟨z28,rfl,h28⟩:=uq Tryz.underlying32 (hc 28 _ rfl _ rfl)
 obtain⟨n28,rfl,b28⟩:=ab1 (b:=4294967296) (by decide) (by decide) h28
 obtain⟨z29,rfl,h29⟩:=uq Tryz.underlying32 (hc 29 _ rfl _ rfl)
 obtain⟨n29,rfl,b29⟩:=ab1 (b:=4294967296) (by decide) (by decide) h29
 obtain⟨z30,rfl,h30⟩:=uq Tryz.underlying32 (hc 30 _ rfl _ rfl)
 obtain⟨n30,rfl,b30⟩:=ab1 (b:=4294967296) (by decide) (by decide) h30
 obtain⟨z31,rfl,h31⟩:=uq Tryz.underlying35 (hc 31 _ rfl _ rfl)
 obtain⟨n31,rfl,b31⟩:=ab1 (b:=18446744073709551616) (by decide) (by decide) h31
 obtain⟨x32,rfl⟩:=acd Tryz.underlying9 (hc 32 _ rfl _ rfl)
 obtain⟨x33,rfl⟩:=acd Tryz.underlying9 (hc 33 _ rfl _ rfl)
 obtain⟨x34,rfl⟩:=acd Tryz.underlying9 (hc 34 _ rfl _ rfl)
 obtain⟨x35,rfl⟩:=acd Tryz.underlying9 (hc 35 _ rfl _ rfl)
 clear hc e36
 obtain⟨fuel,hf⟩:=h
 obtain⟨m11,y11,g11,w11⟩:=cu Tryz.underlying41 hf 11 rfl 33 rfl (show Tryz.prog.cellsOf 33=1 by kernel_rfl) [c11] rfl
 obtain⟨v11,abJ,e11,abK,abq⟩:=CQ g11
 injection e11 with e11
 subst e11
 have abq:=abq (fun q hq=>hs q (w11 q hq))
 obtain⟨m12,y12,g12,w12⟩:=cu Tryz.underlying41 hf 12 rfl 34 rfl (show Tryz.prog.cellsOf 34=1 by kernel_rfl) [c12] rfl
 obtain⟨v12,abL,e12,hl12,abE,abu⟩:=aa8 g12
 injection e12 with e12
 subst e12
 have abu:=abu (fun q hq=>hs q (w12 q hq))
 obtain⟨m22,y22,g22,w22⟩:=cu Tryz.underlying41 hf 20 rfl 22 rfl (show Tryz.prog.cellsOf 22=1 by kernel_rfl) [c22] rfl
 obtain⟨v22,abM,e22,abN,abv⟩:=aaX g22
 injection e22 with e22
 subst e22
 have abv:=abv (fun q hq=>hs q (w22 q hq))
 obtain⟨nS,yS,tS,wS⟩:=cu Tryz.underlying41 hf 21 rfl 39 rfl (show Tryz.prog.cellsOf 39=13 by kernel_rfl) [.int .u16 n23,.int .u32 n24,.int .u8 n25,.int .u32 n26,.int .u64 n27,.int .u32 n28,.int .u32 n29,.int .u32 n30,.int .u64 n31,.string x32,.string x33,.string x34,.string x35] rfl
 have cS:Tryz.prog.cellsOf 9=1:=by kernel_rfl
 have s3:x3.size≤140737488355327:=by
  obtain⟨m,y,ty,wy⟩:=cu Tryz.underlying41 hf 3 rfl 9 rfl cS [.string x3] rfl
  have:=hs _ (wy _ (Aq Tryz.underlying9 ty))
  unfold reachBytes at this
  omega
 have s5:x5.size≤140737488355327:=by
  obtain⟨m,y,ty,wy⟩:=cu Tryz.underlying41 hf 5 rfl 9 rfl cS [.string x5] rfl
  have:=hs _ (wy _ (Aq Tryz.underlying9 ty))
  unfold reachBytes at this
  omega
 have s6:x6.size≤140737488355327:=by
  obtain⟨m,y,ty,wy⟩:=cu Tryz.underlying41 hf 6 rfl 9 rfl cS [.string x6] rfl
  have:=hs _ (wy _ (Aq Tryz.underlying9 ty))
  unfold reachBytes at this
  omega
 have s7:x7.size≤140737488355327:=by
  obtain⟨m,y,ty,wy⟩:=cu Tryz.underlying41 hf 7 rfl 9 rfl cS [.string x7] rfl
  have:=hs _ (wy _ (Aq Tryz.underlying9 ty))
  unfold reachBytes at this
  omega
 have s18:x18.size≤140737488355327:=by
  obtain⟨m,y,ty,wy⟩:=cu Tryz.underlying41 hf 16 rfl 9 rfl cS [.string x18] rfl
  have:=hs _ (wy _ (Aq Tryz.underlying9 ty))
  unfold reachBytes at this
  omega
 have s32:x32.size≤140737488355327:=by
  obtain⟨m,y,ty,wy⟩:=cu Tryz.underlying39 tS 7 rfl 9 rfl cS [.string x32] rfl
  have:=hs _ (wS _ (wy _ (Aq Tryz.underlying9 ty)))
  unfold reachBytes at this
  omega
 have s33:x33.size≤140737488355327:=by
  obtain⟨m,y,ty,wy⟩:=cu Tryz.underlying39 tS 8 rfl 9 rfl cS [.string x33] rfl
  have:=hs _ (wS _ (wy _ (Aq Tryz.underlying9 ty)))
  unfold reachBytes at this
  omega
 have s34:x34.size≤140737488355327:=by
  obtain⟨m,y,ty,wy⟩:=cu Tryz.underlying39 tS 9 rfl 9 rfl cS [.string x34] rfl
  have:=hs _ (wS _ (wy _ (Aq Tryz.underlying9 ty)))
  unfold reachBytes at this
  omega
 have s35:x35.size≤140737488355327:=by
  obtain⟨m,y,ty,wy⟩:=cu Tryz.underlying39 tS 10 rfl 9 rfl cS [.string x35] rfl
  have:=hs _ (wS _ (wy _ (Aq Tryz.underlying9 ty)))
  unfold reachBytes at this
  omega
 refine⟨⟨n0,n1,n2,x3,n4,x5,x6,x7,n8,n9,n10,abJ,abL,⟨n13,n14,n15⟩,n16,n17,x18,n19,n20,n21,abM,⟨n23,n24,⟨n25,n26,n27⟩,n28,n29,n30,n31,x32,x33,x34,x35⟩⟩,c11,c12,c22,rfl, ?_⟩
 exact⟨⟨b0,b1,b2,b4,b9,b10,b17,b19,b21,b8,b16,b20,abE,⟨b13,b14,b15⟩,⟨b23,b24,⟨b25,b26,b27⟩,b28,b29,b30,b31⟩⟩,⟨abK,hl12,abN⟩,abq.1,abq.2,abu,abv,s3,s5,s6,s7,s18,s32,s33,s34,s35⟩
end Go.Proofs.YtkblmloobkiloaaGreatDoor
namespace Go.Proofs.YtkblmloobkiloaaGreatDoor
open Go.RowKit
structure BkW(w0 w:World)(b j:Nat):Prop where
 up:Below w0.heap.size w0 w
 bb:w0.heap.size≤b
 ex:∃Y N Q CY CN CQ,BkS w b b Y N Q∧Fam w b 5 1 Y CY∧Fam w b 9 1 N CN∧Fam w b 37 3 Q CQ∧(Y.length=j∧N.length=j∧Q.length=j)∧∀(v:Value),v∈Y++N++Q→∀A n c,v= .slice A n c→n≤16777216
theorem BkW.new{w0 w w':World}{b j:Nat}(h:BkW w0 w b j)(hb:Below w.heap.size w w'):BkW w0 w' b j:=by
 obtain⟨h1,h2,Y,N,Q,CY,CN,CQ,⟨vy,vn,vq,k1,k2,k3,k4⟩,f1,f2,f3,hl,hs⟩:=h
 exact⟨h1.trans (hb.mono h1.size),h2,Y,N,Q,CY,CN,CQ,⟨vy,vn,vq,Blk.below k1 hb (Blk.lt k1),aI k2 hb,aI k3 hb,aI k4 hb⟩,f1.new hb,f2.new hb,f3.new hb,hl,hs⟩
theorem BkW.start{w0 w:World}(h:Below w0.heap.size w0 w):BkW w0 (w.alloc (.cells #[.slice none 0 0,.slice none 0 0,.slice none 0 0] 29)) w.heap.size 0:=
 ⟨h.alloc h.size _,h.size,[],[],[],fun _=>[],fun _=>[],fun _=>[],⟨_,_,_,Blk.new w _ _,dS _ _ _ _,dS _ _ _ _,dS _ _ _ _⟩,Fam.nil_ ..,Fam.nil_ ..,Fam.nil_ ..,⟨rfl,rfl,rfl⟩,fun v hv=>by simp at hv⟩
theorem Ns{{w w':World}}{{base n m c s b:Nat}}{{e:TypeId}}{{A:Option Addr}}{{xs:List Value}}(h:w.ownsRow base e s (.slice A n c) m xs)(hl:∀g,(Value.slice A n c).ownBlock=some g→g<b)(hb:Below b w w'):w'.ownsRow base e s (.slice A n c) m xs:=by
 refine⟨h.1, ?_⟩
 rcases h.2 with h0|⟨g,cap,cur,e,hbs,hg,r⟩
 ·exact .inl h0
 ·exact .inr ⟨g,cap,cur,e,hbs,(hb.block g (hl g (by rw[e];rfl))).trans hg,r⟩
theorem Nu{{w:World}}{{base n c i s:Nat}}{{e:TypeId}}{{A:Option Addr}}{{xs:List Value}}{{v:Value}}(h:w.ownsRow base e s (.slice A n c) n xs)(hv:xs[i]? =some v):∃ad,A=some ad∧base≤ad.block∧w.cell? (ad.add i)=some v∧w.frozen? (ad.add i)=false∧(∃cur fr,w.heap[ad.block]? =some (Obj.cells cur e fr))∧∀x,(w.setCell (ad.add i) x).ownsRow base e s (.slice A n c) n (xs.set i x):=by
 obtain⟨g,cap,cur,hvv,hb,hg, -, -, -,ht⟩:=ql h (by have:=(List.getElem?_eq_some_iff.1 hv).1;omega)
 have ha:(⟨g,0,none⟩:Addr).add i=⟨g,i,none⟩:=by rw[Addr.add_mid,Nat.zero_add]
 have hcell:=h.cells (g:=g) (by rw[hvv];rfl) i v hv
 have WR:=hvv
 injection hvv with e1 e2 e3
 subst e1
 exact⟨⟨g,0,none⟩,rfl,hb,hcell,by rw[ha];exact Blk.frozen hg i,⟨cur,_,hg⟩,fun x=>by rw[ha];exact H_ h WR hg⟩
end Go.Proofs.YtkblmloobkiloaaGreatDoor
