/-
  MUF MUG MUH MUI: what the laws of package msg need of them.
-/
import Derived.Test.YtkblmloobkiloaaGreatDoorT00
import Derived.Test.YtkblmloobkiloaaGreatDoorT34
import Derived.Test.YtkblmloobkiloaaGreatDoorT28
set_option maxRecDepth 100000
set_option maxHeartbeats 12800000
namespace Go.Proofs.YtkblmloobkiloaaGreatDoor
open Go.Lib (hid)
open Go.RowKit
theorem XZ.then{α β:Type}{o:Except Nat (α×List UInt8)}{x:α}{st1:Except Nat (List UInt8)}(h:XZ o x st1)(f:α→List UInt8→Except Nat β):(o >>= fun p=>f p.1 p.2)=(st1 >>= fun l=>f x l):=by
 unfold XZ at h
 cases o with
 |error k=>subst h;rfl
 |ok p=>obtain⟨h1,h2⟩:=h;subst h1 h2;rfl
theorem ZH{β:Type}(u:ByteArray)(st:Except Nat (List UInt8))(f:List UInt8→Except Nat β):(st >>= fun l=>dQ u.data.toList l >>= f)=(Ye u st >>= f):=by
 cases st<;>rfl
theorem XZ.last{α:Type}(x:α)(st:Except Nat (List UInt8)):XZ (st >>= fun l=> .ok (x,l)) x st:=by
 cases st with
 |error k=>rfl
 |ok l=>exact⟨rfl,rfl⟩
def aaI(p:Nat)(s:ByteArray)(r:Except Nat (List UInt8×List UInt8))(w:World)(e:Ending)(w':World):Prop:=
 ∃(x:List UInt8) (v:Value) (st':Except Nat (List UInt8)),e= .returned v∧x.length≤16777216∧w'.ownsRow w.heap.size 5 1 v x.length (aX x)∧RwS w' p s st'∧XZ r x st'∧Off (fun i=>i=p) w w'
theorem Zo{w:World}{p:Nat}{s:ByteArray}{st:Except Nat (List UInt8)}(h:RwS w p s st):
  Calls Tryz.prog 105 #[.pointer (some ⟨p,0,none⟩)] w (aaI p s (st >>= nG) w):=by
 have ZU:=hid (show Calls Tryz.prog 100 #[.pointer (some ⟨p,0,none⟩),.int .i64 16] w _ from YN true h)
 have hrl:=Zm true h
 obtain⟨a,b,hb,ha,hz,hst⟩:=h
 have HBK:=hid hb
 have HST:=hid hst
 clear hb hst
 obtain⟨d,hd⟩:∃d,d=Y6 true st:=⟨_,rfl⟩
 have HP:=hid (show(st >>= nG)=if d.length%2=1 then .error (s.size-a)else st.map (fun l=>(pairs d,l.drop d.length))from by
  rw[HST.out]at hd⊢
  cases b with
  |true=>subst hd;rfl
  |false=>
   show nG (s.data.toList.drop a)=_
   unfold nG
   rw[show List.takeWhile dG (s.data.toList.drop a)=d from hd.symm]
   dsimp only
   split
   ·rw[List.length_drop,Array.length_toList];rfl
   ·rfl)
 have HDA:=hid (show∀c∈d,dG c=true from by
  rw[hd,HST.out]
  cases b with
  |true=>intro c hc;cases hc
  |false=>exact(lI (p:=dG) (s.data.toList.drop a)).2.1)
 have HAD:=hid (show a+d.length≤s.size from by
  rw[hd,HST.out]
  cases b with
  |true=>exact ha
  |false=>
   have h:=(List.takeWhile_sublist (l:=s.data.toList.drop a) dG).length_le
   rw[List.length_drop,Array.length_toList]at h
   have h:((s.data.toList.drop a).takeWhile dG).length≤s.size-a:=h
   show a+((s.data.toList.drop a).takeWhile dG).length≤s.size
   omega)
 have HGS:=hid (show∀wx:World,Blk wx p 106 #[.string s,.int .i64 (a:Int),.bool b]→RwS (wx.setCell ⟨p,1,none⟩ (.int .i64 ((a:Int)+(d.length:Int)))) p s (st.map fun l=>l.drop d.length)from fun wx hx=>by
  rw[HST.out]at hd⊢
  cases b with
  |true=>
   subst hd
   refine⟨a,true, ?_,ha,hz,rfl⟩
   have h:=hx.aW 1 (.int .i64 (a:Int))
   rw[show(a:Int)+(((Y6 true (if true=true then .error (s.size-a)else .ok (s.data.toList.drop a))).length:Nat):Int)=(a:Int)from by show(a:Int)+((0:Nat):Int)=_;omega]
   exact h
  |false=>
   have h:=RwS.go (k:=d.length) hx rfl HAD.out hz
   exact h)
 rw[←hd]at hrl
 rw[←hd]at ZU
 clear hd
 go_enter Tryz.func105,Tryz.ntmps105
 go_wp2_with fail
 refine ZU.out.mono ?_
 rintro e w1 ⟨rfl,hb⟩
 have HB1:=hid (Blk.below HBK.out hb (Blk.lt HBK.out))
 have HO:=hid (Off.of_below (S:=fun i=>i=p) hb)
 have HSZ:=hid hb.size
 clear hb HBK ZU
 have k1:w1.cell? ⟨p,1,none⟩=some (.int .i64 (a:Int)):=HB1.out.cell 1
 have k2:w1.cell? ⟨p,2,none⟩=some (.bool b):=HB1.out.cell 2
 have z1:w1.frozen? ⟨p,1,none⟩=false:=HB1.out.frozen 1
 have z2:w1.frozen? ⟨p,2,none⟩=false:=HB1.out.frozen 2
 obtain⟨X,hX⟩:∃X,X=ofL d:=⟨_,rfl⟩
 rw[←hX]
 have HXS:=hid (show X.size=d.length from by rw[hX,dU])
 have HXL:=hid (show X.data.toList=d from by rw[hX];simp[ofL])
 have hxz:X.size≤16777216:=by rw[HXS.out];exact hrl
 clear hX hrl
 by_cases hodd:X.size%2=1
 ·have HPO:=hid (show(st >>= nG)= .error (s.size-a)from by rw[HP.out,if_pos (by rw[←HXS.out];exact hodd)])
  have hm:((X.size:Int)%2 != 0)=true:=by rw[bne_iff_ne];omega
  have HBAD:=hid (RwS.bad HB1.out ha hz)
  have HOB:=hid (HO.out.trans (Yk w1 p 2 (.bool true)))
  clear hodd
  go_wp2_with fail
  refine bodyPost_ret (v:= .slice none 0 0) (by simp[results,Tryz.results105]) rfl ⟨[],_,_,rfl,Nat.zero_le _,dS _ _ _ _,HBAD.out, ?_,HOB.out⟩
  rw[HPO.out]
  rfl
 ·have hm:((X.size:Int)%2 != 0)=false:=by rw[bne_eq_false_iff_eq];omega
  have HG1:=hid (HGS.out w1 HB1.out)
  have HO1:=hid (HO.out.trans (Yk w1 p 1 (.int .i64 ((a:Int)+(d.length:Int)))))
  have HPO:=hid (show(st >>= nG)=st.map (fun l=>(pairs d,l.drop d.length))from by rw[HP.out,if_neg (by rw[←HXS.out];exact hodd)])
  have HXI:=hid (show(X.size:Int)=(d.length:Int)from by rw[HXS.out])
  go_upto_region 8 with(fail)
  rw[HXI.out]
  clear k1 k2 z1 z2 HGS HP hm
  have QZ:=hid (show w1.heap.size≤(w1.setCell ⟨p,1,none⟩ (.int .i64 ((a:Int)+(d.length:Int)))).heap.size from(Yk w1 p 1 (.int .i64 ((a:Int)+(d.length:Int)))).size)
  have aaS:=hid (show p<w1.heap.size from Blk.lt HB1.out)
  generalize w1.setCell ⟨p,1,none⟩ (.int .i64 ((a:Int)+(d.length:Int)))=w2 at HG1 HO1 QZ⊢
  go_loopw [4,5] (fun b i wr=>∃(j:Nat) (B:List UInt8),i= .int .i64 (j:Int)∧j%2=0∧j≤X.size∧wr.ownsRow w2.heap.size 5 1 b B.length (aX B)∧Below w2.heap.size w2 wr∧Hid (pairs d=B++pairs (d.drop j))∧B.length≤j) (fun _ i _=>X.size-(intOf i).toNat)
  case atStart=>exact⟨0,[],rfl,rfl,Nat.zero_le _,dS _ _ _ _,Below.refl _ _,hid rfl,Nat.zero_le _⟩
  case round=>
   obtain⟨j,B,rfl,hj2,hj,ho,hb,HPL,hBl⟩:=hrel
   have HOW:=hid ho;clear ho
   have HBR:=hid hb;clear hb
   obtain⟨A0,cap,rfl,hc0,hm0⟩:=aJ HOW.out
   by_cases hlt:j<X.size
   ·have hj3:j+1<X.size:=by omega
    obtain⟨h,hh⟩:∃h,h=X[j]'hlt:=⟨_,rfl⟩
    obtain⟨k,hk⟩:∃k,k=X[j+1]'hj3:=⟨_,rfl⟩
    have HHA:=hid (show d[j]? =some h from by rw[←HXL.out,hh];exact byte_at X j hlt)
    have HKA:=hid (show d[j+1]? =some k from by rw[←HXL.out,hk];exact byte_at X (j+1) hj3)
    have hidx:X[j]'hlt=h:=hh.symm
    have hidx1:X[j+1]'hj3=k:=hk.symm
    clear hh hk
    have HNX:=hid (show pairs (d.drop j)=UInt8.ofNat (X_ h*16+X_ k)::pairs (d.drop (j+2))from by
     rw[YP HHA.out HKA.out,X_,X_,if_pos (HDA.out h (List.mem_of_getElem? HHA.out)),if_pos (HDA.out k (List.mem_of_getElem? HKA.out))]
     rfl)
    have g1:=Yy h
    have g2:=Yy k
    go_wp2_with fail
    refine(Yb h _).mono ?_
    rintro e w4 ⟨rfl,rfl⟩
    go_wp2_with fail
    refine(Yb k _).mono ?_
    rintro e w4 ⟨rfl,rfl⟩
    generalize X_ h=x at HNX g1⊢
    generalize X_ k=y at HNX g2⊢
    clear hidx hidx1 HHA HKA
    have HQ:=hid (show(x:Int)*16+(y:Int)=((UInt8.ofNat (x*16+y)).toNat:Int)from by rw[iK _ (by omega)];omega)
    obtain⟨q,hq⟩:∃q,q=UInt8.ofNat (x*16+y):=⟨_,rfl⟩
    rw[←hq]at HNX HQ
    clear hq
    have hup:Below wr.heap.size wr (wr.alloc (.cells #[.int .u8 ((x:Int)*16+(y:Int))] 5)):=(Below.refl _ _).alloc (Nat.le_refl _) _
    have HBA:=hid (HBR.out.trans (hup.mono HBR.out.size))
    have HOA:=hid (aI HOW.out hup)
    have HRA:=hid (show Reads (wr.alloc (.cells #[.int .u8 ((x:Int)*16+(y:Int))] 5)) (wr.heap.size+1) 1 (some ⟨wr.heap.size,0,none⟩) ([q]:List UInt8).length (aX [q])from by rw[HQ.out];exact Yd wr [q])
    have HLL:=hid (show B.length+([q]:List UInt8).length≤140737488355327 from by simp only[List.length_cons,List.length_nil];omega)
    clear hup
    go_wp2_with(at_builtin;refine kY (.tmp 50) (.tmp 55) rfl rfl w2.heap.size _ B rfl HOA.out (wr.heap.size+1) _ 1 [q] rfl HRA.out HLL.out HBA.out.size ?_;intro v2 w3 hown hgr hor;have HO2:=hid hown;have HB2:=hid (HBA.out.grown hgr HBA.out.size (fun g hg=>dH HOA.out g hg));clear hown hgr hor)
    go_roundw
    case rel=>
     refine⟨j+2,B++[q],by go_num,by omega,by omega,HO2.out,HB2.out,hid ?_, ?_⟩
     ·rw[HPL.out,HNX.out,List.append_assoc];rfl
     ·rw[List.length_append];simp only[List.length_cons,List.length_nil];omega
    case measure=>first|(simp[intOf];done)|(simp[intOf];omega)
   ·have HT:=hid (show pairs d=B from by rw[HPL.out,List.drop_eq_nil_of_le (by rw[←HXS.out];omega)];exact List.append_nil _)
    go_wp2_with fail
    refine bodyPost_ret (v:= .slice A0 B.length cap) (by simp[results,Tryz.results105]) rfl ⟨B,_,_,rfl,by omega,iw HOW.out (by have:=HSZ.out;have:=QZ.out;omega),HG1.out.off (Off.of_below (S:=fun _=>False) HBR.out) (fun h=>h), ?_,HO1.out.trans (Off.of_below HBR.out)⟩
    rw[HPO.out]
    cases st with
    |error k=>rfl
    |ok l=>exact⟨HT.out.symm,rfl⟩
def Ch{β:Type}(r:Except Nat β)(st:Except Nat (List UInt8))(f:List UInt8→Except Nat β):Prop:=r=(st >>= f)
theorem Ch.word{β:Type}{r:Except Nat β}{st:Except Nat (List UInt8)}{f:List UInt8→Except Nat β}(u:ByteArray)(h:Ch r st (fun l=>dQ u.data.toList l >>= f)):Ch r (Ye u st) f:=by
 unfold Ch at*
 rw[h,ZH]
theorem Ch.part{α β:Type}{r:Except Nat β}{st st1:Except Nat (List UInt8)}{p:List UInt8→Except Nat (α×List UInt8)}{f:α×List UInt8→Except Nat β}{x:α}(h:Ch r st (fun l=>p l >>= f))(g:XZ (st >>= p) x st1):Ch r st1 (fun l=>f (x,l)):=by
 unfold Ch XZ at*
 cases st with
 |error k=>subst h;subst g;rfl
 |ok l=>
  rw[h]
  show(p l >>= f)=_
  change(match p l with| .ok (t,r)=>x=t∧st1= .ok r| .error k=>st1= .error k)at g
  cases hp:p l with
  |error k=>rw[hp]at g;rw[g];rfl
  |ok q=>rw[hp]at g;rw[g.1,g.2];rfl
theorem Ch.end_{α:Type}{r:Except Nat (α×List UInt8)}{st:Except Nat (List UInt8)}{x:α}(h:Ch r st (fun l=> .ok (x,l))):XZ r x st:=by
 unfold Ch at h
 rw[h]
 exact XZ.last x st
theorem Y8{w0 w w':World}{S:Nat→Prop}{z:Nat}(h:Off S w0 w)(ho:Off (fun i=>i=z) w w')(hz:w0.heap.size≤z):Off S w0 w':=
 ⟨ho.os.trans h.os,ho.tape.trans h.tape,ho.output.trans h.output,Nat.le_trans h.size ho.size,fun i hi hn=>(ho.block i (Nat.lt_of_lt_of_le hi h.size) (fun e=>by have e:i=z:=e;omega)).trans (h.block i hi hn)⟩
structure PtS(w0 w:World)(p z:Nat)(s:ByteArray)(st:Except Nat (List UInt8))(t:TypeId)(cs:Array Value)(u:TypeId)(rs:Array Value)(y:Nat):Prop where
 ln:RwS w p s st
 zb:Blk w z t cs
 rb:Blk w y u rs
 of_:Off (fun i=>i=p) w0 w
 pz:p<w0.heap.size
 bz:w0.heap.size≤z
 by_:w0.heap.size≤y
section
variable {w0 w w':World} {p z y:Nat} {s:ByteArray} {st st':Except Nat (List UInt8)} {t u:TypeId} {cs rs:Array Value}
theorem PtS.call(h:PtS w0 w p z s st t cs u rs y)(hs:RwS w' p s st')(ho:Off (fun i=>i=p) w w'):PtS w0 w' p z s st' t cs u rs y:=by
 have h1:=h.pz
 have h2:=h.bz
 have h3:=h.by_
 exact⟨hs,ho.blk h.zb (fun e=>by have e:z=p:=e;omega),ho.blk h.rb (fun e=>by have e:y=p:=e;omega),h.of_.trans ho,h1,h2,h3⟩
theorem PtS.set(h:PtS w0 w p z s st t cs u rs y)(k:Nat)(v:Value)(hzy:z≠y):PtS w0 (w.setCell ⟨z,k,none⟩ v) p z s st t (cs.setIfInBounds k v) u rs y:=by
 have h1:=h.pz
 have h2:=h.bz
 have h3:=h.by_
 have ho:Off (fun i=>i=z) w (w.setCell ⟨z,k,none⟩ v):=(Off.refl (fun i=>i=z) w).setCell (p:=⟨z,k,none⟩) rfl v
 exact⟨h.ln.off ho (fun e=>by have e:p=z:=e;omega),h.zb.aW k v,ho.blk h.rb (fun e=>hzy (by have e:y=z:=e;exact e.symm)),Y8 h.of_ ho h2,h1,h2,h3⟩
end
theorem Ym{w:World}{p:Nat}{s:ByteArray}{st:Except Nat (List UInt8)}(h:RwS w p s st):
  Calls Tryz.prog 103 #[.pointer (some ⟨p,0,none⟩)] w (Yn p s qdV Qd.ok (st >>= gW) (fun i=>i=p) w):=by
 have hup:Below w.heap.size w (w.alloc (.cells #[.int .u8 0,.int .u32 0,.int .u64 0] 37)):=(Below.refl _ _).alloc (Nat.le_refl _) _
 have HF:=hid (show PtS w (w.alloc (.cells #[.int .u8 0,.int .u32 0,.int .u64 0] 37)) p w.heap.size s st 37 #[.int .u8 0,.int .u32 0,.int .u64 0] 37 #[.int .u8 0,.int .u32 0,.int .u64 0] w.heap.size from⟨h.below hup,Blk.new w 37 _,Blk.new w 37 _,Off.of_below hup,h.lt,Nat.le_refl _,Nat.le_refl _⟩)
 have HC:=hid (show Ch (st >>= gW) st (fun l=>fZ 255 l >>= fun q=>dQ (⟨#[46]⟩:ByteArray).data.toList q.2 >>= fun l=>fZ 4294967295 l >>= fun r=>dQ (⟨#[46]⟩:ByteArray).data.toList r.2 >>= fun l=>fZ 18446744073709551615 l >>= fun v=> .ok ((⟨q.1,r.1,v.1⟩:Qd),v.2))from rfl)
 generalize(st >>= gW)=R at HC⊢
 clear h hup
 go_enter Tryz.func103,Tryz.ntmps103
 go_upto_region 1 with(fail)
 generalize w.alloc (.cells #[.int .u8 0,.int .u32 0,.int .u64 0] 37)=w0 at HF⊢
 generalize w.heap.size=z at HF⊢
 go_wp2_with fail
 refine(XU 255 (by decide) (by decide) HF.out.ln).mono ?_
 rintro e w1 ⟨n1,st1,rfl,b1,hs,hg,ho⟩
 replace HF:=hid (HF.out.call hs ho)
 have HC2:=HC.out.part hg
 dsimp only at HC2
 replace HC:=hid HC2
 clear hs ho hg HC2
 go_wp2_with fail
 refine(zS ⟨#[46]⟩ (by decide) HF.out.ln).mono ?_
 rintro e w2 ⟨rfl,hs,ho⟩
 replace HF:=hid (HF.out.call hs ho)
 replace HC:=hid (HC.out.word ⟨#[46]⟩)
 clear hs ho
 go_wp2_with fail
 refine(XU 4294967295 (by decide) (by decide) HF.out.ln).mono ?_
 rintro e w3 ⟨n2,st3,rfl,b2,hs,hg,ho⟩
 replace HF:=hid (HF.out.call hs ho)
 have HC2:=HC.out.part hg
 dsimp only at HC2
 replace HC:=hid HC2
 clear hs ho hg HC2
 go_wp2_with fail
 refine(zS ⟨#[46]⟩ (by decide) HF.out.ln).mono ?_
 rintro e w4 ⟨rfl,hs,ho⟩
 replace HF:=hid (HF.out.call hs ho)
 replace HC:=hid (HC.out.word ⟨#[46]⟩)
 clear hs ho
 go_wp2_with fail
 refine(XU 18446744073709551615 (by decide) (by decide) HF.out.ln).mono ?_
 rintro e w5 ⟨n3,st5,rfl,b3,hs,hg,ho⟩
 replace HF:=hid (HF.out.call hs ho)
 have HC2:=HC.out.part hg
 dsimp only at HC2
 replace HC:=hid HC2
 clear hs ho hg HC2
 have hw1:IntKind.u8.wrap (n1:Int)=(n1:Int):=by rw[IntKind.wrap_u8];omega
 have hw2:IntKind.u32.wrap (n2:Int)=(n2:Int):=by rw[IntKind.wrap_u32];omega
 have HZ:=hid HF.out.zb
 have k0:w5.cell? ⟨z,0,none⟩=some (.int .u8 0):=HZ.out.cell 0
 have k1:w5.cell? ⟨z,1,none⟩=some (.int .u32 0):=HZ.out.cell 1
 have k2:w5.cell? ⟨z,2,none⟩=some (.int .u64 0):=HZ.out.cell 2
 have f0:w5.frozen? ⟨z,0,none⟩=false:=HZ.out.frozen 0
 have f1:w5.frozen? ⟨z,1,none⟩=false:=HZ.out.frozen 1
 have f2:w5.frozen? ⟨z,2,none⟩=false:=HZ.out.frozen 2
 have HBK:=hid (show Blk (((w5.setCell ⟨z,0,none⟩ (.int .u8 (n1:Int))).setCell ⟨z,1,none⟩ (.int .u32 (n2:Int))).setCell ⟨z,2,none⟩ (.int .u64 (n3:Int))) z 37 (nU ⟨n1,n2,n3⟩).toArray from Blk.aW (Blk.aW (Blk.aW HZ.out 0 _) 1 _) 2 _)
 have HOW:=hid (show Off (fun i=>i=z) w5 (((w5.setCell ⟨z,0,none⟩ (.int .u8 (n1:Int))).setCell ⟨z,1,none⟩ (.int .u32 (n2:Int))).setCell ⟨z,2,none⟩ (.int .u64 (n3:Int)))from(((Off.refl (fun i=>i=z) w5).setCell (p:=⟨z,0,none⟩) rfl _).setCell (p:=⟨z,1,none⟩) rfl _).setCell (p:=⟨z,2,none⟩) rfl _)
 go_wp2_with fail
 generalize((w5.setCell ⟨z,0,none⟩ (.int .u8 (n1:Int))).setCell ⟨z,1,none⟩ (.int .u32 (n2:Int))).setCell ⟨z,2,none⟩ (.int .u64 (n3:Int))=w6 at HBK HOW⊢
 refine bodyPost_ret (bf (l:=nU ⟨n1,n2,n3⟩) rfl Tryz.underlying37 rfl tH rfl HBK.out) rfl ⟨⟨n1,n2,n3⟩,_,rfl,⟨by show n1<256;omega,by show n2<4294967296;omega,by show n3<18446744073709551616;omega⟩,HF.out.ln.off HOW.out (fun e=>by have e:p=z:=e;have:=HF.out.pz;have:=HF.out.bz;omega),HC.out.end_,Y8 HF.out.of_ HOW.out HF.out.bz⟩
def Sta.rd(s:Sta):Prop:=s.ok∧s.name.size≤16777216∧s.uid.size≤16777216∧s.gid.size≤16777216∧s.fE.size≤16777216
theorem ZI(st:Except Nat (List UInt8)):Ch (st >>= g_) st (fun l=>(dQ (⟨#[123,116,121,112,101,61]⟩:ByteArray).data.toList l >>= fun l=>fZ 65535 l >>= fun q0=>(dQ (⟨#[32,100,101,118,61]⟩:ByteArray).data.toList q0.2 >>= fun l=>fZ 4294967295 l >>= fun q1=>(dQ (⟨#[32,113,105,100,61]⟩:ByteArray).data.toList q1.2 >>= fun l=>gW l >>= fun q2=>(dQ (⟨#[32,109,111,100,101,61]⟩:ByteArray).data.toList q2.2 >>= fun l=>fZ 4294967295 l >>= fun q3=>(dQ (⟨#[32,97,116,105,109,101,61]⟩:ByteArray).data.toList q3.2 >>= fun l=>fZ 4294967295 l >>= fun q4=>(dQ (⟨#[32,109,116,105,109,101,61]⟩:ByteArray).data.toList q4.2 >>= fun l=>fZ 4294967295 l >>= fun q5=>(dQ (⟨#[32,108,101,110,103,116,104,61]⟩:ByteArray).data.toList q5.2 >>= fun l=>fZ 18446744073709551615 l >>= fun q6=>(dQ (⟨#[32,110,97,109,101,61]⟩:ByteArray).data.toList q6.2 >>= fun l=>dJ l >>= fun q7=>(dQ (⟨#[32,117,105,100,61]⟩:ByteArray).data.toList q7.2 >>= fun l=>dJ l >>= fun q8=>(dQ (⟨#[32,103,105,100,61]⟩:ByteArray).data.toList q8.2 >>= fun l=>dJ l >>= fun q9=>(dQ (⟨#[32,109,117,105,100,61]⟩:ByteArray).data.toList q9.2 >>= fun l=>dJ l >>= fun q10=>(dQ (⟨#[125]⟩:ByteArray).data.toList q10.2 >>= fun l=> .ok ((⟨q0.1,q1.1,q2.1,q3.1,q4.1,q5.1,q6.1,q7.1,q8.1,q9.1,q10.1⟩:Sta),l)))))))))))))):=rfl
theorem Y0{w:World}{p:Nat}{s:ByteArray}{st:Except Nat (List UInt8)}(h:RwS w p s st):
  Calls Tryz.prog 104 #[.pointer (some ⟨p,0,none⟩)] w (Yn p s stV Sta.rd (st >>= g_) (fun i=>i=p) w):=by
 have hu1:Below w.heap.size w (w.alloc (.cells (stL zst).toArray 39)):=(Below.refl _ _).alloc (Nat.le_refl _) _
 have hu2:Below w.heap.size w ((w.alloc (.cells (stL zst).toArray 39)).alloc (.cells (stL zst).toArray 39)):=hu1.alloc (by rw[World.size_alloc];omega) _
 have HF:=hid (show PtS w ((w.alloc (.cells (stL zst).toArray 39)).alloc (.cells (stL zst).toArray 39)) p (w.heap.size+1) s st 39 #[.int .u16 0,.int .u32 0,.int .u8 0,.int .u32 0,.int .u64 0,.int .u32 0,.int .u32 0,.int .u32 0,.int .u64 0,.string ⟨#[]⟩,.string ⟨#[]⟩,.string ⟨#[]⟩,.string ⟨#[]⟩] 39 (stL zst).toArray w.heap.size from⟨h.below hu2,(by have h:=Blk.new (w.alloc (.cells (stL zst).toArray 39)) 39 (stL zst).toArray;rw[World.size_alloc]at h;exact h),(Blk.new w 39 _).alloc _,Off.of_below hu2,h.lt,Nat.le_succ _,Nat.le_refl _⟩)
 have HC:=hid (ZI st)
 generalize(st >>= g_)=R at HC⊢
 clear h hu1 hu2
 go_enter Tryz.func104,Tryz.ntmps104
 go_upto_region 2 with(fail)
 change Code.wp _ _ _ _ ((w.alloc (.cells (stL zst).toArray 39)).alloc (.cells (stL zst).toArray 39))
 generalize((w.alloc (.cells (stL zst).toArray 39)).alloc (.cells (stL zst).toArray 39))=w0 at HF⊢
 have hzy:w.heap.size+1≠w.heap.size:=by omega
 have HZY:=hid hzy
 clear hzy
 generalize w.heap.size+1=z at HF HZY⊢
 generalize w.heap.size=y at HF HZY⊢
 go_wp2_with fail
 refine(zS ⟨#[123,116,121,112,101,61]⟩ (by decide) HF.out.ln).mono ?_
 rintro e w1 ⟨rfl,hs,ho⟩
 replace HF:=hid (HF.out.call hs ho)
 replace HC:=hid (HC.out.word ⟨#[123,116,121,112,101,61]⟩)
 clear hs ho
 go_wp2_with fail
 refine(XU 65535 (by decide) (by decide) HF.out.ln).mono ?_
 rintro e w2 ⟨m0,st2,rfl,b0,hs,hg,ho⟩
 replace HF:=hid (HF.out.call hs ho)
 have HC2:=HC.out.part hg
 dsimp only at HC2
 replace HC:=hid HC2
 clear hs ho hg HC2
 have hw:IntKind.u16.wrap (m0:Int)=(m0:Int):=by rw[IntKind.wrap_u16];omega
 have k0:w2.cell? ⟨z,0,none⟩=some (.int .u16 0):=HF.out.zb.cell 0
 have f0:w2.frozen? ⟨z,0,none⟩=false:=HF.out.zb.frozen 0
 replace HF:=hid (show PtS w (w2.setCell ⟨z,0,none⟩ (.int .u16 (m0:Int))) p z s st2 39 #[.int .u16 (m0:Int),.int .u32 0,.int .u8 0,.int .u32 0,.int .u64 0,.int .u32 0,.int .u32 0,.int .u32 0,.int .u64 0,.string ⟨#[]⟩,.string ⟨#[]⟩,.string ⟨#[]⟩,.string ⟨#[]⟩] 39 (stL zst).toArray y from(HF.out.set 0 (.int .u16 (m0:Int)) HZY.out))
 go_upto_region 4 with(fail)
 clear k0 f0 hw
 generalize(w2.setCell ⟨z,0,none⟩ (.int .u16 (m0:Int)))=v0 at HF⊢
 go_wp2_with fail
 refine(zS ⟨#[32,100,101,118,61]⟩ (by decide) HF.out.ln).mono ?_
 rintro e w3 ⟨rfl,hs,ho⟩
 replace HF:=hid (HF.out.call hs ho)
 replace HC:=hid (HC.out.word ⟨#[32,100,101,118,61]⟩)
 clear hs ho
 go_wp2_with fail
 refine(XU 4294967295 (by decide) (by decide) HF.out.ln).mono ?_
 rintro e w4 ⟨m1,st4,rfl,b1,hs,hg,ho⟩
 replace HF:=hid (HF.out.call hs ho)
 have HC2:=HC.out.part hg
 dsimp only at HC2
 replace HC:=hid HC2
 clear hs ho hg HC2
 have hw:IntKind.u32.wrap (m1:Int)=(m1:Int):=by rw[IntKind.wrap_u32];omega
 have k0:w4.cell? ⟨z,1,none⟩=some (.int .u32 0):=HF.out.zb.cell 1
 have f0:w4.frozen? ⟨z,1,none⟩=false:=HF.out.zb.frozen 1
 replace HF:=hid (show PtS w (w4.setCell ⟨z,1,none⟩ (.int .u32 (m1:Int))) p z s st4 39 #[.int .u16 (m0:Int),.int .u32 (m1:Int),.int .u8 0,.int .u32 0,.int .u64 0,.int .u32 0,.int .u32 0,.int .u32 0,.int .u64 0,.string ⟨#[]⟩,.string ⟨#[]⟩,.string ⟨#[]⟩,.string ⟨#[]⟩] 39 (stL zst).toArray y from(HF.out.set 1 (.int .u32 (m1:Int)) HZY.out))
 go_upto_region 6 with(fail)
 clear k0 f0 hw
 generalize(w4.setCell ⟨z,1,none⟩ (.int .u32 (m1:Int)))=v1 at HF⊢
 go_wp2_with fail
 refine(zS ⟨#[32,113,105,100,61]⟩ (by decide) HF.out.ln).mono ?_
 rintro e w5 ⟨rfl,hs,ho⟩
 replace HF:=hid (HF.out.call hs ho)
 replace HC:=hid (HC.out.word ⟨#[32,113,105,100,61]⟩)
 clear hs ho
 go_wp2_with fail
 refine(Ym HF.out.ln).mono ?_
 rintro e w6 ⟨m2,st6,rfl,b2,hs,hg,ho⟩
 replace HF:=hid (HF.out.call hs ho)
 have HC2:=HC.out.part hg
 dsimp only at HC2
 replace HC:=hid HC2
 clear hs ho hg HC2
 unfold qdV
 have k0:w6.cell? ⟨z,2,none⟩=some (.int .u8 0):=HF.out.zb.cell 2
 have f0:w6.frozen? ⟨z,2,none⟩=false:=HF.out.zb.frozen 2
 have k1:w6.cell? ⟨z,3,none⟩=some (.int .u32 0):=HF.out.zb.cell 3
 have f1:w6.frozen? ⟨z,3,none⟩=false:=HF.out.zb.frozen 3
 have k2:w6.cell? ⟨z,4,none⟩=some (.int .u64 0):=HF.out.zb.cell 4
 have f2:w6.frozen? ⟨z,4,none⟩=false:=HF.out.zb.frozen 4
 replace HF:=hid (show PtS w (((w6.setCell ⟨z,2,none⟩ (.int .u8 (m2.kind:Int))).setCell ⟨z,3,none⟩ (.int .u32 (m2.vers:Int))).setCell ⟨z,4,none⟩ (.int .u64 (m2.path:Int))) p z s st6 39 #[.int .u16 (m0:Int),.int .u32 (m1:Int),.int .u8 (m2.kind:Int),.int .u32 (m2.vers:Int),.int .u64 (m2.path:Int),.int .u32 0,.int .u32 0,.int .u32 0,.int .u64 0,.string ⟨#[]⟩,.string ⟨#[]⟩,.string ⟨#[]⟩,.string ⟨#[]⟩] 39 (stL zst).toArray y from(((HF.out.set 2 (.int .u8 (m2.kind:Int)) HZY.out).set 3 (.int .u32 (m2.vers:Int)) HZY.out).set 4 (.int .u64 (m2.path:Int)) HZY.out))
 go_upto_region 8 with(fail)
 clear k0 f0 k1 f1 k2 f2
 generalize(((w6.setCell ⟨z,2,none⟩ (.int .u8 (m2.kind:Int))).setCell ⟨z,3,none⟩ (.int .u32 (m2.vers:Int))).setCell ⟨z,4,none⟩ (.int .u64 (m2.path:Int)))=v2 at HF⊢
 go_wp2_with fail
 refine(zS ⟨#[32,109,111,100,101,61]⟩ (by decide) HF.out.ln).mono ?_
 rintro e w7 ⟨rfl,hs,ho⟩
 replace HF:=hid (HF.out.call hs ho)
 replace HC:=hid (HC.out.word ⟨#[32,109,111,100,101,61]⟩)
 clear hs ho
 go_wp2_with fail
 refine(XU 4294967295 (by decide) (by decide) HF.out.ln).mono ?_
 rintro e w8 ⟨m3,st8,rfl,b3,hs,hg,ho⟩
 replace HF:=hid (HF.out.call hs ho)
 have HC2:=HC.out.part hg
 dsimp only at HC2
 replace HC:=hid HC2
 clear hs ho hg HC2
 have hw:IntKind.u32.wrap (m3:Int)=(m3:Int):=by rw[IntKind.wrap_u32];omega
 have k0:w8.cell? ⟨z,5,none⟩=some (.int .u32 0):=HF.out.zb.cell 5
 have f0:w8.frozen? ⟨z,5,none⟩=false:=HF.out.zb.frozen 5
 replace HF:=hid (show PtS w (w8.setCell ⟨z,5,none⟩ (.int .u32 (m3:Int))) p z s st8 39 #[.int .u16 (m0:Int),.int .u32 (m1:Int),.int .u8 (m2.kind:Int),.int .u32 (m2.vers:Int),.int .u64 (m2.path:Int),.int .u32 (m3:Int),.int .u32 0,.int .u32 0,.int .u64 0,.string ⟨#[]⟩,.string ⟨#[]⟩,.string ⟨#[]⟩,.string ⟨#[]⟩] 39 (stL zst).toArray y from(HF.out.set 5 (.int .u32 (m3:Int)) HZY.out))
 go_upto_region 10 with(fail)
 clear k0 f0 hw
 generalize(w8.setCell ⟨z,5,none⟩ (.int .u32 (m3:Int)))=v3 at HF⊢
 go_wp2_with fail
 refine(zS ⟨#[32,97,116,105,109,101,61]⟩ (by decide) HF.out.ln).mono ?_
 rintro e w9 ⟨rfl,hs,ho⟩
 replace HF:=hid (HF.out.call hs ho)
 replace HC:=hid (HC.out.word ⟨#[32,97,116,105,109,101,61]⟩)
 clear hs ho
 go_wp2_with fail
 refine(XU 4294967295 (by decide) (by decide) HF.out.ln).mono ?_
 rintro e w10 ⟨m4,aaJ,rfl,b4,hs,hg,ho⟩
 replace HF:=hid (HF.out.call hs ho)
 have HC2:=HC.out.part hg
 dsimp only at HC2
 replace HC:=hid HC2
 clear hs ho hg HC2
 have hw:IntKind.u32.wrap (m4:Int)=(m4:Int):=by rw[IntKind.wrap_u32];omega
 have k0:w10.cell? ⟨z,6,none⟩=some (.int .u32 0):=HF.out.zb.cell 6
 have f0:w10.frozen? ⟨z,6,none⟩=false:=HF.out.zb.frozen 6
 replace HF:=hid (show PtS w (w10.setCell ⟨z,6,none⟩ (.int .u32 (m4:Int))) p z s aaJ 39 #[.int .u16 (m0:Int),.int .u32 (m1:Int),.int .u8 (m2.kind:Int),.int .u32 (m2.vers:Int),.int .u64 (m2.path:Int),.int .u32 (m3:Int),.int .u32 (m4:Int),.int .u32 0,.int .u64 0,.string ⟨#[]⟩,.string ⟨#[]⟩,.string ⟨#[]⟩,.string ⟨#[]⟩] 39 (stL zst).toArray y from(HF.out.set 6 (.int .u32 (m4:Int)) HZY.out))
 go_upto_region 12 with(fail)
 clear k0 f0 hw
 generalize(w10.setCell ⟨z,6,none⟩ (.int .u32 (m4:Int)))=v4 at HF⊢
 go_wp2_with fail
 refine(zS ⟨#[32,109,116,105,109,101,61]⟩ (by decide) HF.out.ln).mono ?_
 rintro e w11 ⟨rfl,hs,ho⟩
 replace HF:=hid (HF.out.call hs ho)
 replace HC:=hid (HC.out.word ⟨#[32,109,116,105,109,101,61]⟩)
 clear hs ho
 go_wp2_with fail
 refine(XU 4294967295 (by decide) (by decide) HF.out.ln).mono ?_
 rintro e w12 ⟨m5,aaK,rfl,b5,hs,hg,ho⟩
 replace HF:=hid (HF.out.call hs ho)
 have HC2:=HC.out.part hg
 dsimp only at HC2
 replace HC:=hid HC2
 clear hs ho hg HC2
 have hw:IntKind.u32.wrap (m5:Int)=(m5:Int):=by rw[IntKind.wrap_u32];omega
 have k0:w12.cell? ⟨z,7,none⟩=some (.int .u32 0):=HF.out.zb.cell 7
 have f0:w12.frozen? ⟨z,7,none⟩=false:=HF.out.zb.frozen 7
 replace HF:=hid (show PtS w (w12.setCell ⟨z,7,none⟩ (.int .u32 (m5:Int))) p z s aaK 39 #[.int .u16 (m0:Int),.int .u32 (m1:Int),.int .u8 (m2.kind:Int),.int .u32 (m2.vers:Int),.int .u64 (m2.path:Int),.int .u32 (m3:Int),.int .u32 (m4:Int),.int .u32 (m5:Int),.int .u64 0,.string ⟨#[]⟩,.string ⟨#[]⟩,.string ⟨#[]⟩,.string ⟨#[]⟩] 39 (stL zst).toArray y from(HF.out.set 7 (.int .u32 (m5:Int)) HZY.out))
 go_upto_region 14 with(fail)
 clear k0 f0 hw
 generalize(w12.setCell ⟨z,7,none⟩ (.int .u32 (m5:Int)))=v5 at HF⊢
 go_wp2_with fail
 refine(zS ⟨#[32,108,101,110,103,116,104,61]⟩ (by decide) HF.out.ln).mono ?_
 rintro e w13 ⟨rfl,hs,ho⟩
 replace HF:=hid (HF.out.call hs ho)
 replace HC:=hid (HC.out.word ⟨#[32,108,101,110,103,116,104,61]⟩)
 clear hs ho
 go_wp2_with fail
 refine(XU 18446744073709551615 (by decide) (by decide) HF.out.ln).mono ?_
 rintro e w14 ⟨m6,aaL,rfl,b6,hs,hg,ho⟩
 replace HF:=hid (HF.out.call hs ho)
 have HC2:=HC.out.part hg
 dsimp only at HC2
 replace HC:=hid HC2
 clear hs ho hg HC2
 have k0:w14.cell? ⟨z,8,none⟩=some (.int .u64 0):=HF.out.zb.cell 8
 have f0:w14.frozen? ⟨z,8,none⟩=false:=HF.out.zb.frozen 8
 replace HF:=hid (show PtS w (w14.setCell ⟨z,8,none⟩ (.int .u64 (m6:Int))) p z s aaL 39 #[.int .u16 (m0:Int),.int .u32 (m1:Int),.int .u8 (m2.kind:Int),.int .u32 (m2.vers:Int),.int .u64 (m2.path:Int),.int .u32 (m3:Int),.int .u32 (m4:Int),.int .u32 (m5:Int),.int .u64 (m6:Int),.string ⟨#[]⟩,.string ⟨#[]⟩,.string ⟨#[]⟩,.string ⟨#[]⟩] 39 (stL zst).toArray y from(HF.out.set 8 (.int .u64 (m6:Int)) HZY.out))
 go_upto_region 16 with(fail)
 clear k0 f0
 generalize(w14.setCell ⟨z,8,none⟩ (.int .u64 (m6:Int)))=v6 at HF⊢
 go_wp2_with fail
 refine(zS ⟨#[32,110,97,109,101,61]⟩ (by decide) HF.out.ln).mono ?_
 rintro e w15 ⟨rfl,hs,ho⟩
 replace HF:=hid (HF.out.call hs ho)
 replace HC:=hid (HC.out.word ⟨#[32,110,97,109,101,61]⟩)
 clear hs ho
 go_wp2_with fail
 refine(XY HF.out.ln).mono ?_
 rintro e w16 ⟨m7,aaM,rfl,b7,hs,hg,ho⟩
 replace HF:=hid (HF.out.call hs ho)
 have HC2:=HC.out.part hg
 dsimp only at HC2
 replace HC:=hid HC2
 clear hs ho hg HC2
 have k0:w16.cell? ⟨z,9,none⟩=some (.string ⟨#[]⟩):=HF.out.zb.cell 9
 have f0:w16.frozen? ⟨z,9,none⟩=false:=HF.out.zb.frozen 9
 replace HF:=hid (show PtS w (w16.setCell ⟨z,9,none⟩ (.string m7)) p z s aaM 39 #[.int .u16 (m0:Int),.int .u32 (m1:Int),.int .u8 (m2.kind:Int),.int .u32 (m2.vers:Int),.int .u64 (m2.path:Int),.int .u32 (m3:Int),.int .u32 (m4:Int),.int .u32 (m5:Int),.int .u64 (m6:Int),.string m7,.string ⟨#[]⟩,.string ⟨#[]⟩,.string ⟨#[]⟩] 39 (stL zst).toArray y from(HF.out.set 9 (.string m7) HZY.out))
 go_upto_region 18 with(fail)
 clear k0 f0
 generalize(w16.setCell ⟨z,9,none⟩ (.string m7))=v7 at HF⊢
 go_wp2_with fail
 refine(zS ⟨#[32,117,105,100,61]⟩ (by decide) HF.out.ln).mono ?_
 rintro e w17 ⟨rfl,hs,ho⟩
 replace HF:=hid (HF.out.call hs ho)
 replace HC:=hid (HC.out.word ⟨#[32,117,105,100,61]⟩)
 clear hs ho
 go_wp2_with fail
 refine(XY HF.out.ln).mono ?_
 rintro e w18 ⟨m8,aaN,rfl,b8,hs,hg,ho⟩
 replace HF:=hid (HF.out.call hs ho)
 have HC2:=HC.out.part hg
 dsimp only at HC2
 replace HC:=hid HC2
 clear hs ho hg HC2
 have k0:w18.cell? ⟨z,10,none⟩=some (.string ⟨#[]⟩):=HF.out.zb.cell 10
 have f0:w18.frozen? ⟨z,10,none⟩=false:=HF.out.zb.frozen 10
 replace HF:=hid (show PtS w (w18.setCell ⟨z,10,none⟩ (.string m8)) p z s aaN 39 #[.int .u16 (m0:Int),.int .u32 (m1:Int),.int .u8 (m2.kind:Int),.int .u32 (m2.vers:Int),.int .u64 (m2.path:Int),.int .u32 (m3:Int),.int .u32 (m4:Int),.int .u32 (m5:Int),.int .u64 (m6:Int),.string m7,.string m8,.string ⟨#[]⟩,.string ⟨#[]⟩] 39 (stL zst).toArray y from(HF.out.set 10 (.string m8) HZY.out))
 go_upto_region 20 with(fail)
 clear k0 f0
 generalize(w18.setCell ⟨z,10,none⟩ (.string m8))=v8 at HF⊢
 go_wp2_with fail
 refine(zS ⟨#[32,103,105,100,61]⟩ (by decide) HF.out.ln).mono ?_
 rintro e w19 ⟨rfl,hs,ho⟩
 replace HF:=hid (HF.out.call hs ho)
 replace HC:=hid (HC.out.word ⟨#[32,103,105,100,61]⟩)
 clear hs ho
 go_wp2_with fail
 refine(XY HF.out.ln).mono ?_
 rintro e w20 ⟨m9,aaO,rfl,b9,hs,hg,ho⟩
 replace HF:=hid (HF.out.call hs ho)
 have HC2:=HC.out.part hg
 dsimp only at HC2
 replace HC:=hid HC2
 clear hs ho hg HC2
 have k0:w20.cell? ⟨z,11,none⟩=some (.string ⟨#[]⟩):=HF.out.zb.cell 11
 have f0:w20.frozen? ⟨z,11,none⟩=false:=HF.out.zb.frozen 11
 replace HF:=hid (show PtS w (w20.setCell ⟨z,11,none⟩ (.string m9)) p z s aaO 39 #[.int .u16 (m0:Int),.int .u32 (m1:Int),.int .u8 (m2.kind:Int),.int .u32 (m2.vers:Int),.int .u64 (m2.path:Int),.int .u32 (m3:Int),.int .u32 (m4:Int),.int .u32 (m5:Int),.int .u64 (m6:Int),.string m7,.string m8,.string m9,.string ⟨#[]⟩] 39 (stL zst).toArray y from(HF.out.set 11 (.string m9) HZY.out))
 go_upto_region 22 with(fail)
 clear k0 f0
 generalize(w20.setCell ⟨z,11,none⟩ (.string m9))=v9 at HF⊢
 go_wp2_with fail
 refine(zS ⟨#[32,109,117,105,100,61]⟩ (by decide) HF.out.ln).mono ?_
 rintro e w21 ⟨rfl,hs,ho⟩
 replace HF:=hid (HF.out.call hs ho)
 replace HC:=hid (HC.out.word ⟨#[32,109,117,105,100,61]⟩)
 clear hs ho
 go_wp2_with fail
 refine(XY HF.out.ln).mono ?_
 rintro e w22 ⟨m10,aaP,rfl,b10,hs,hg,ho⟩
 replace HF:=hid (HF.out.call hs ho)
 have HC2:=HC.out.part hg
 dsimp only at HC2
 replace HC:=hid HC2
 clear hs ho hg HC2
 have k0:w22.cell? ⟨z,12,none⟩=some (.string ⟨#[]⟩):=HF.out.zb.cell 12
 have f0:w22.frozen? ⟨z,12,none⟩=false:=HF.out.zb.frozen 12
 replace HF:=hid (show PtS w (w22.setCell ⟨z,12,none⟩ (.string m10)) p z s aaP 39 #[.int .u16 (m0:Int),.int .u32 (m1:Int),.int .u8 (m2.kind:Int),.int .u32 (m2.vers:Int),.int .u64 (m2.path:Int),.int .u32 (m3:Int),.int .u32 (m4:Int),.int .u32 (m5:Int),.int .u64 (m6:Int),.string m7,.string m8,.string m9,.string m10] 39 (stL zst).toArray y from(HF.out.set 12 (.string m10) HZY.out))
 go_upto_region 24 with(fail)
 clear k0 f0
 generalize(w22.setCell ⟨z,12,none⟩ (.string m10))=v10 at HF⊢
 go_wp2_with fail
 refine(zS ⟨#[125]⟩ (by decide) HF.out.ln).mono ?_
 rintro e w23 ⟨rfl,hs,ho⟩
 replace HF:=hid (HF.out.call hs ho)
 replace HC:=hid (HC.out.word ⟨#[125]⟩)
 clear hs ho
 have HZB:=hid (show Blk w23 z 39 (stL ⟨m0,m1,m2,m3,m4,m5,m6,m7,m8,m9,m10⟩).toArray from HF.out.zb)
 have HRB:=hid (show Blk w23 y 39 (stL zst).toArray from HF.out.rb)
 go_wp2_with(first|(refine wlw HZB.out 0 (stL ⟨m0,m1,m2,m3,m4,m5,m6,m7,m8,m9,m10⟩) rfl rfl _ _ rfl rfl _ Tryz.underlying39 rfl bP ?_)|(refine dA HRB.out 0 (stL ⟨m0,m1,m2,m3,m4,m5,m6,m7,m8,m9,m10⟩) (stL ⟨m0,m1,m2,m3,m4,m5,m6,m7,m8,m9,m10⟩).toArray (kK ..) (Nat.le_refl 13) (lJ ..) rfl _ _ _ rfl rfl rfl bP ?_;intro wz hs ho;have HBz:=hid hs;have HOz:=hid (ho (fun i=>i=y) rfl _ (Off.refl _ _));clear hs ho))
 refine bodyPost_ret (bf (l:=stL ⟨m0,m1,m2,m3,m4,m5,m6,m7,m8,m9,m10⟩) rfl Tryz.underlying39 rfl bP rfl HBz.out) rfl ⟨⟨m0,m1,m2,m3,m4,m5,m6,m7,m8,m9,m10⟩,_,rfl,⟨⟨by show m0<65536;omega,by show m1<4294967296;omega,b2,by show m3<4294967296;omega,by show m4<4294967296;omega,by show m5<4294967296;omega,by show m6<18446744073709551616;omega⟩,b7,b8,b9,b10⟩,HF.out.ln.off HOz.out (fun e=>by have e:p=y:=e;have:=HF.out.pz;have:=HF.out.by_;omega),HC.out.end_,Y8 HF.out.of_ HOz.out HF.out.by_⟩
theorem OL.rw_{w w':World}{p base:Nat}{m:Mg}{vn vq vd:Value}{s:ByteArray}{st:Except Nat (List UInt8)}(h:OL w base m vn vq vd)(hs:RwS w p s st)(ho:Off (fun i=>i=p) w w'):OL w' base m vn vq vd:=
 h.off ho fun i cur fr e hi he=>by rcases he with rfl|rfl|rfl<;>exact hs.noT (by decide) i cur fr hi
def Yr(p base:Nat)(s:ByteArray)(m:Mg)(f:Fld)(st:Except Nat (List UInt8))(w:World)(e:Ending)(w':World):Prop:=
 ∃m' vn vq vd st',e= .returned (iM m' vn vq vd)∧OL w' base m' vn vq vd∧Ur m m' f∧Nh base w w'∧RwS w' p s st'∧XZ (st >>= fun l=>pF m l f) m' st'
structure GS(w0 w:World)(p z q base:Nat)(s:ByteArray)(st:Except Nat (List UInt8))(m:Mg)(vn vq vd:Value):Prop where
 ln:RwS w p s st
 mb:aK w z m vn vq vd
 rb:aK w q (head 0 0) (.slice none 0 0) (.slice none 0 0) (.slice none 0 0)
 bp:base≤p
 bb:base≤w0.heap.size
 bz:w0.heap.size≤z
 zq:z+1=q
 bl:Below base w0 w
 kp:∀g cs,Blk w0 g 41 cs→Blk w g 41 cs
section
variable {w w' w0:World} {p z q base:Nat} {vn vq vd:Value} {s:ByteArray} {st st':Except Nat (List UInt8)} {m:Mg}
theorem GS.step(h:GS w0 w p z q base s st m vn vq vd)(hs:RwS w' p s st')(ho:Off (fun i=>i=p) w w'):GS w0 w' p z q base s st' m vn vq vd:=by
 have hz:=Blk.lt h.mb
 have hbz:=h.bz
 have hbb:=h.bb
 have hbp:=h.bp
 have hS:∀i,i=p→base≤i:=fun i hi=>by omega
 have hK:∀g cs,Blk w g 41 cs→Blk w' g 41 cs:=fun g cs hg=>ho.blk hg (fun e=>h.ln.noT (by decide) _ _ _ e hg)
 exact⟨hs,hK _ _ h.mb,hK _ _ h.rb,hbp,hbb,hbz,h.zq,h.bl.trans (ho.below hS (by omega)),fun g cs hg=>hK g cs (h.kp g cs hg)⟩
theorem GS.new(h:GS w0 w p z q base s st m vn vq vd)(hb:Below w.heap.size w w'):GS w0 w' p z q base s st m vn vq vd:=h.step (h.ln.below hb) (Off.of_below hb)
theorem GS.size(h:GS w0 w p z q base s st m vn vq vd):base≤w.heap.size:=by
 have hz:=Blk.lt h.mb
 have hbz:=h.bz
 have hbb:=h.bb
 omega
theorem GS.turn{m':Mg}{xn xq xd:Value}(h:GS w0 w p z q base s st m vn vq vd)(hm:aK w' z m' xn xq xd)(ho:Off (fun i=>i=z) w w'):GS w0 w' p z q base s st m' xn xq xd:=by
 have hz:=Blk.lt h.mb
 have hbz:=h.bz
 have hbb:=h.bb
 have hzq:=h.zq
 have hS:∀i,i=z→base≤i:=fun i hi=>by omega
 exact⟨h.ln.off ho (fun e=>h.ln.noT (by decide) z _ _ e.symm h.mb),hm,ho.blk h.rb (fun e=>by have e:q=z:=e;omega),h.bp,hbb,hbz,hzq,h.bl.trans (ho.below hS (by omega)),fun g cs hg=>ho.blk (h.kp g cs hg) (fun e=>by have e:g=z:=e;have:=Blk.lt hg;omega)⟩
theorem GS.app{e:TypeId}{v:Value}{n k:Nat}{xs:List Value}(h:GS w0 w p z q base s st m vn vq vd)(hr:w.ownsRow base e k v n xs)(h1:e≠106)(h2:e≠41)(hg:w.grownBy w' v.ownBlock):GS w0 w' p z q base s st m vn vq vd:=by
 have hS:∀i,v.ownBlock=some i→base≤i:=fun i hi=>dH hr i hi
 have ho:=(Off.refl (fun i=>v.ownBlock=some i) w).grown hg (fun g hg=>hg)
 obtain⟨a,b,hb, -⟩:=id h.ln
 have hK:∀g cs,Blk w g 41 cs→Blk w' g 41 cs:=fun g cs hg=>ho.blk hg (fun e=>bZ hr h2 g _ _ e hg)
 exact⟨h.ln.off ho (fun e=>bZ hr h1 p _ _ e hb),hK _ _ h.mb,hK _ _ h.rb,h.bp,h.bb,h.bz,h.zq,h.bl.trans (ho.below hS h.size),fun g cs hg=>hK g cs (h.kp g cs hg)⟩
theorem GS.end_{wz:World}{m':Mg}{xn xq xd:Value}(h:GS w0 w p z q base s st m vn vq vd)(hl:OL w base m' xn xq xd)(ho:Off (fun i=>i=q) w wz):OL wz base m' xn xq xd∧Nh base w0 wz∧RwS wz p s st:=by
 have hq:=Blk.lt h.rb
 have hzq:=h.zq
 have hbz:=h.bz
 have hbb:=h.bb
 exact⟨hl.qp h.rb ho,⟨h.bl.trans (ho.below (fun i hi=>by have hi:i=q:=hi;omega) (by omega)),fun g cs hg=>ho.blk (h.kp g cs hg) (fun e=>by have e:g=q:=e;have:=Blk.lt hg;omega)⟩,h.ln.off ho (fun e=>h.ln.noT (by decide) q _ _ e.symm h.rb)⟩
theorem GS.kept(h:GS w0 w p z q base s st m vn vq vd)(hs:RwS w' p s st')(hk:Nh base w w'):GS w0 w' p z q base s st' m vn vq vd:=
 ⟨hs,hk.2 _ _ h.mb,hk.2 _ _ h.rb,h.bp,h.bb,h.bz,h.zq,h.bl.trans hk.1,fun g cs hg=>hk.2 g cs (h.kp g cs hg)⟩
end
theorem XV{w:World}{p base:Nat}{vn vq vd:Value}{s:ByteArray}{st:Except Nat (List UInt8)}{m:Mg}(hbp:base≤p)(h:RwS w p s st)(ho:OL w base m vn vq vd):
  GS w ((w.alloc (.cells (aF m vn vq vd).toArray 41)).alloc (.cells (mgN (head 0 0)).toArray 41)) p w.heap.size (w.heap.size+1) base s st m vn vq vd∧OL ((w.alloc (.cells (aF m vn vq vd).toArray 41)).alloc (.cells (mgN (head 0 0)).toArray 41)) base m vn vq vd:=by
 obtain⟨hu,hm,hz⟩:=uZ w m vn vq vd
 have hp:=h.lt
 exact⟨⟨h.below hu,hm,hz,hbp,by omega,Nat.le_refl _,rfl,hu.mono (by omega),fun g cs hg=>Blk.below hg hu (Blk.lt hg)⟩,ho.below hu⟩
theorem XZ.map{α β:Type}{o:Except Nat (α×List UInt8)}{x:α}{st:Except Nat (List UInt8)}(h:XZ o x st)(g:α→β):XZ (o.map fun p=>(g p.1,p.2)) (g x) st:=by
 unfold XZ at*
 cases o with
 |error k=>exact h
 |ok p=>obtain⟨h1,h2⟩:=h;subst h1;exact⟨rfl,h2⟩
theorem Yc{α β:Type}(st:Except Nat (List UInt8))(f:List UInt8→Except Nat α)(g:α→β):(st >>= fun l=>(f l).map g)=(st >>= f).map g:=by cases st<;>rfl
theorem YR{k:Nat}(hk:k=1∨k=2∨k=4∨k=8)(w:World):Calls Tryz.prog 101 #[.int .i64 (k:Int)] w fun e w'=>e= .returned (.int .u64 (most k:Int))∧w=w':=by
 rcases hk with rfl|rfl|rfl|rfl<;>
 ·go_enter Tryz.func101,Tryz.ntmps101
  go_wp2_with fail
  go_ret
  exact⟨rfl,rfl⟩
theorem YS{f:Fld}(hf:0<f.width):f.width=1∨f.width=2∨f.width=4∨f.width=8:=by cases f<;>first|decide|exact absurd hf (by decide)
theorem aai{k:Nat}(hk:k=1∨k=2∨k=4∨k=8):9≤most k∧most k<18446744073709551616∧most k+1=256^k:=by rcases hk with rfl|rfl|rfl|rfl<;>decide
theorem aap{f:Fld}(hf:0<f.width)(m:Mg)(l:List UInt8):pF m l f=(fZ (most f.width) l).map fun p=>(m.aG p.1 f,p.2):=by
 cases f<;>first|rfl|exact absurd hf (by decide)
theorem aaq{f:Fld}(hf:f.isText=true)(m:Mg)(l:List UInt8):pF m l f=(dJ l).map fun p=>(m.bV p.1 f,p.2):=by
 cases f<;>first|rfl|exact absurd hf (by decide)
theorem ZJ{w:World}{p base:Nat}{vn vq vd:Value}{s:ByteArray}{st:Except Nat (List UInt8)}{m:Mg}(hbp:base≤p)(h:RwS w p s st)(ho:OL w base m vn vq vd)(f:Fld)(hf:0<f.width):
  Calls Tryz.prog 55 #[.pointer (some ⟨p,0,none⟩),iM m vn vq vd,.int .u8 (f.rX.toNat:Int)] w (Yr p base s m f st w):=by
 have HMO:=hid (aai (YS hf))
 have HPF:=hid (show(st >>= fun l=>pF m l f)=(st >>= fZ (most f.width)).map (fun p=>(m.aG p.1 f,p.2))from by rw[←Yc];congr 1;funext l;exact aap hf m l)
 have HWC:=hid (jL f)
 have HGR:=hid (fun w=>YR (YS hf) w)
 have HSN:=hid (fun n hn=>uT f hf n hn m vn vq vd (bG ho.n) (bG ho.q) (bG ho.d))
 have hf1:(0:Int)<(f.width:Int):=by omega
 clear hf
 have HF0:=XV hbp h ho
 have HF:=hid HF0.1
 have HOL:=hid HF0.2
 have h1:=bG ho.n
 have h2:=bG ho.q
 have h3:=bG ho.d
 clear hbp h ho HF0
 go_enter Tryz.func55,Tryz.ntmps55
 go_upto_region 2 with(fail)
 change Code.wp _ _ _ _ ((w.alloc (.cells (aF m vn vq vd).toArray 41)).alloc (.cells (mgN (head 0 0)).toArray 41))
 generalize((w.alloc (.cells (aF m vn vq vd).toArray 41)).alloc (.cells (mgN (head 0 0)).toArray 41))=w1 at HF HOL⊢
 generalize w.heap.size+1=q at HF⊢
 generalize w.heap.size=z at HF⊢
 go_wp2_with fail
 refine(HWC.out _).mono ?_
 rintro e w2 ⟨rfl,rfl⟩
 go_wp2_with fail
 refine(HWC.out _).mono ?_
 rintro e w2 ⟨rfl,rfl⟩
 go_wp2_with fail
 refine(HGR.out _).mono ?_
 rintro e w2 ⟨rfl,rfl⟩
 go_wp2_with fail
 refine(XU (most f.width) HMO.out.1 HMO.out.2.1 HF.out.ln).mono ?_
 rintro e w2 ⟨n,s1,rfl,hn,hs,hg,ho⟩
 have HG:=hid hg
 have HLT:=hid (show n<256^f.width from by have:=HMO.out.2.2;omega)
 have lN:=hid (HOL.out.rw_ HF.out.ln ho)
 have HF2:=hid (HF.out.step hs ho)
 clear hs ho HF HOL hg hn
 go_wp2_with(refine wlw HF2.out.mb 0 (aF m vn vq vd) rfl rfl _ _ rfl rfl _ Tryz.underlying41 rfl aB ?_)
 refine(HSN.out n HLT.out _).mono ?_
 rintro e w3 ⟨rfl,hb⟩
 have HF3:=hid (HF2.out.new hb)
 have tJ:=hid (lN.out.below hb)
 clear hb HF2 lN
 go_wp2_with(refine dA HF3.out.rb 0 (aF (m.aG n f) vn vq vd) _ (bW ..) (Nat.le_refl 36) (bT _ h1 h2 h3) rfl _ _ _ rfl rfl rfl aB ?_;intro wz hs ho;have HZF:=hid hs;have HOF:=hid (ho (fun i=>i=q) rfl _ (Off.refl _ _));clear hs ho)
 obtain⟨e1,e2,e3⟩:=JE m n f
 obtain⟨r1,r2,r3⟩:=HF3.out.end_ (tJ.out.as e1 e2 e3) HOF.out
 exact bodyPost_ret (bf (l:=aF (m.aG n f) vn vq vd) rfl Tryz.underlying41 rfl aB rfl HZF.out) rfl ⟨_,_,_,_,_,rfl,r1,⟨fun _=>e1,fun _=>e2,fun _=>e3⟩,r2,r3,by rw[HPF.out];exact HG.out.map (fun n=>m.aG n f)⟩
theorem ZK{w:World}{p base:Nat}{vn vq vd:Value}{s:ByteArray}{st:Except Nat (List UInt8)}{m:Mg}(hbp:base≤p)(h:RwS w p s st)(ho:OL w base m vn vq vd)(f:Fld)(hf:f.isText=true):
  Calls Tryz.prog 55 #[.pointer (some ⟨p,0,none⟩),iM m vn vq vd,.int .u8 (f.rX.toNat:Int)] w (Yr p base s m f st w):=by
 have HPF:=hid (show(st >>= fun l=>pF m l f)=(st >>= dJ).map (fun p=>(m.bV p.1 f,p.2))from by rw[←Yc];congr 1;funext l;exact aaq hf m l)
 have HWC:=hid (show∀w,Calls Tryz.prog 91 #[.int .u8 (f.rX.toNat:Int)] w fun e w'=>e= .returned (.int .i64 0)∧w=w' from fun w=>by have h:=jL f w;rw[F6 hf]at h;exact h)
 have HIT:=hid (show∀w,Calls Tryz.prog 93 #[.int .u8 (f.rX.toNat:Int)] w fun e w'=>e= .returned (.bool true)∧w=w' from fun w=>by have h:=jV f w;rw[hf]at h;exact h)
 have HSN:=hid (fun s=>yP f hf s m vn vq vd (bG ho.n) (bG ho.q) (bG ho.d))
 clear hf
 have HF0:=XV hbp h ho
 have HF:=hid HF0.1
 have HOL:=hid HF0.2
 have h1:=bG ho.n
 have h2:=bG ho.q
 have h3:=bG ho.d
 clear hbp h ho HF0
 go_enter Tryz.func55,Tryz.ntmps55
 go_upto_region 2 with(fail)
 change Code.wp _ _ _ _ ((w.alloc (.cells (aF m vn vq vd).toArray 41)).alloc (.cells (mgN (head 0 0)).toArray 41))
 generalize((w.alloc (.cells (aF m vn vq vd).toArray 41)).alloc (.cells (mgN (head 0 0)).toArray 41))=w1 at HF HOL⊢
 generalize w.heap.size+1=q at HF⊢
 generalize w.heap.size=z at HF⊢
 go_wp2_with fail
 refine(HWC.out _).mono ?_
 rintro e w2 ⟨rfl,rfl⟩
 go_wp2_with fail
 refine(HIT.out _).mono ?_
 rintro e w2 ⟨rfl,rfl⟩
 go_wp2_with fail
 refine(XY HF.out.ln).mono ?_
 rintro e w2 ⟨t,s1,rfl, -,hs,hg,ho⟩
 have HG:=hid hg
 have lN:=hid (HOL.out.rw_ HF.out.ln ho)
 have HF2:=hid (HF.out.step hs ho)
 clear hs ho HF HOL hg
 go_wp2_with(refine wlw HF2.out.mb 0 (aF m vn vq vd) rfl rfl _ _ rfl rfl _ Tryz.underlying41 rfl aB ?_)
 refine(HSN.out t _).mono ?_
 rintro e w3 ⟨rfl,hb⟩
 have HF3:=hid (HF2.out.new hb)
 have tJ:=hid (lN.out.below hb)
 clear hb HF2 lN
 go_wp2_with(refine dA HF3.out.rb 0 (aF (m.bV t f) vn vq vd) _ (bW ..) (Nat.le_refl 36) (bT _ h1 h2 h3) rfl _ _ _ rfl rfl rfl aB ?_;intro wz hs ho;have HZF:=hid hs;have HOF:=hid (ho (fun i=>i=q) rfl _ (Off.refl _ _));clear hs ho)
 obtain⟨e1,e2,e3⟩:=JF m t f
 obtain⟨r1,r2,r3⟩:=HF3.out.end_ (tJ.out.as e1 e2 e3) HOF.out
 exact bodyPost_ret (bf (l:=aF (m.bV t f) vn vq vd) rfl Tryz.underlying41 rfl aB rfl HZF.out) rfl ⟨_,_,_,_,_,rfl,r1,⟨fun _=>e1,fun _=>e2,fun _=>e3⟩,r2,r3,by rw[HPF.out];exact HG.out.map (fun t=>m.bV t f)⟩
theorem ZL{w:World}{p base:Nat}{vn vq vd:Value}{s:ByteArray}{st:Except Nat (List UInt8)}{m:Mg}(hbp:base≤p)(h:RwS w p s st)(ho:OL w base m vn vq vd):
  Calls Tryz.prog 55 #[.pointer (some ⟨p,0,none⟩),iM m vn vq vd,.int .u8 113] w (Yr p base s m .qid st w):=by
 have HPF:=hid (show(st >>= fun l=>pF m l .qid)=(st >>= gW).map (fun p=>({m with qid:=p.1},p.2))from by rw[←Yc];rfl)
 have HWC:=hid (fun w=>jL .qid w)
 have HIT:=hid (fun w=>jV .qid w)
 have HF0:=XV hbp h ho
 have HF:=hid HF0.1
 have HOL:=hid HF0.2
 have h1:=bG ho.n
 have h2:=bG ho.q
 have h3:=bG ho.d
 clear hbp h ho HF0
 go_enter Tryz.func55,Tryz.ntmps55
 go_upto_region 2 with(fail)
 change Code.wp _ _ _ _ ((w.alloc (.cells (aF m vn vq vd).toArray 41)).alloc (.cells (mgN (head 0 0)).toArray 41))
 generalize((w.alloc (.cells (aF m vn vq vd).toArray 41)).alloc (.cells (mgN (head 0 0)).toArray 41))=w1 at HF HOL⊢
 generalize w.heap.size+1=q at HF⊢
 generalize w.heap.size=z at HF⊢
 go_wp2_with fail
 refine(HWC.out _).mono ?_
 rintro e w2 ⟨rfl,rfl⟩
 go_wp2_with fail
 refine(HIT.out _).mono ?_
 rintro e w2 ⟨rfl,rfl⟩
 go_wp2_with fail
 refine(Ym HF.out.ln).mono ?_
 rintro e w3 ⟨⟨v1,v2,v3⟩,s1,rfl, -,hs,hg,ho⟩
 have HG:=hid hg
 have HO3:=hid (HOL.out.rw_ HF.out.ln ho)
 have HF3:=hid (HF.out.step hs ho)
 clear hs ho HF HOL hg
 unfold qdV
 have k0:w3.cell? ⟨z,13,none⟩=some (.int .u8 (m.qid.kind:Int)):=Blk.cell HF3.out.mb 13
 have k1:w3.cell? ⟨z,14,none⟩=some (.int .u32 (m.qid.vers:Int)):=Blk.cell HF3.out.mb 14
 have k2:w3.cell? ⟨z,15,none⟩=some (.int .u64 (m.qid.path:Int)):=Blk.cell HF3.out.mb 15
 have z0:w3.frozen? ⟨z,13,none⟩=false:=Blk.frozen HF3.out.mb 13
 have z1:w3.frozen? ⟨z,14,none⟩=false:=Blk.frozen HF3.out.mb 14
 have z2:w3.frozen? ⟨z,15,none⟩=false:=Blk.frozen HF3.out.mb 15
 have hmt:aK (((w3.setCell ⟨z,13,none⟩ (.int .u8 (v1:Int))).setCell ⟨z,14,none⟩ (.int .u32 (v2:Int))).setCell ⟨z,15,none⟩ (.int .u64 (v3:Int))) z {m with qid:=⟨v1,v2,v3⟩} vn vq vd:=by
  have h:=((Blk.aW HF3.out.mb 13 (.int .u8 (v1:Int))).aW 14 (.int .u32 (v2:Int))).aW 15 (.int .u64 (v3:Int))
  rw[Bh m ⟨v1,v2,v3⟩]at h
  exact h
 have hoz:Off (fun i=>i=z) w3 (((w3.setCell ⟨z,13,none⟩ (.int .u8 (v1:Int))).setCell ⟨z,14,none⟩ (.int .u32 (v2:Int))).setCell ⟨z,15,none⟩ (.int .u64 (v3:Int))):=((bM w3 z 13 _).trans (bM _ z 14 _)).trans (bM _ z 15 _)
 have HF4:=hid (HF3.out.turn hmt hoz)
 have HO4:=hid (HO3.out.qp HF3.out.mb hoz)
 clear hmt hoz HF3 HO3
 go_upto_region 14 with(fail)
 generalize((w3.setCell ⟨z,13,none⟩ (.int .u8 (v1:Int))).setCell ⟨z,14,none⟩ (.int .u32 (v2:Int))).setCell ⟨z,15,none⟩ (.int .u64 (v3:Int))=w4 at HF4 HO4⊢
 clear k0 k1 k2 z0 z1 z2
 go_wp2_with(first|(refine wlw HF4.out.mb 0 (aF {m with qid:=⟨v1,v2,v3⟩} vn vq vd) rfl rfl _ _ rfl rfl _ Tryz.underlying41 rfl aB ?_)|(refine dA HF4.out.rb 0 (aF {m with qid:=⟨v1,v2,v3⟩} vn vq vd) _ (bW ..) (Nat.le_refl 36) (bT _ h1 h2 h3) rfl _ _ _ rfl rfl rfl aB ?_;intro wz hs ho;have HZF:=hid hs;have HOF:=hid (ho (fun i=>i=q) rfl _ (Off.refl _ _));clear hs ho))
 obtain⟨r1,r2,r3⟩:=HF4.out.end_ (HO4.out.as (m':= {m with qid:=⟨v1,v2,v3⟩}) rfl rfl rfl) HOF.out
 exact bodyPost_ret (bf (l:=aF {m with qid:=⟨v1,v2,v3⟩} vn vq vd) rfl Tryz.underlying41 rfl aB rfl HZF.out) rfl ⟨_,_,_,_,_,rfl,r1,⟨fun _=>rfl,fun _=>rfl,fun _=>rfl⟩,r2,r3,by rw[HPF.out];exact HG.out.map (fun x=> {m with qid:=x})⟩
theorem Zp{w:World}{p base:Nat}{vn vq vd:Value}{s:ByteArray}{st:Except Nat (List UInt8)}{m:Mg}(hbp:base≤p)(h:RwS w p s st)(ho:OL w base m vn vq vd):
  Calls Tryz.prog 55 #[.pointer (some ⟨p,0,none⟩),iM m vn vq vd,.int .u8 83] w (Yr p base s m .stat st w):=by
 have HPF:=hid (show(st >>= fun l=>pF m l .stat)=(st >>= g_).map (fun p=>({m with stat:=p.1},p.2))from by rw[←Yc];rfl)
 have HWC:=hid (fun w=>jL .stat w)
 have HIT:=hid (fun w=>jV .stat w)
 have HF0:=XV hbp h ho
 have HF:=hid HF0.1
 have HOL:=hid HF0.2
 have h1:=bG ho.n
 have h2:=bG ho.q
 have h3:=bG ho.d
 clear hbp h ho HF0
 go_enter Tryz.func55,Tryz.ntmps55
 go_upto_region 2 with(fail)
 change Code.wp _ _ _ _ ((w.alloc (.cells (aF m vn vq vd).toArray 41)).alloc (.cells (mgN (head 0 0)).toArray 41))
 generalize((w.alloc (.cells (aF m vn vq vd).toArray 41)).alloc (.cells (mgN (head 0 0)).toArray 41))=w1 at HF HOL⊢
 generalize w.heap.size+1=q at HF⊢
 generalize w.heap.size=z at HF⊢
 go_wp2_with fail
 refine(HWC.out _).mono ?_
 rintro e w2 ⟨rfl,rfl⟩
 go_wp2_with fail
 refine(HIT.out _).mono ?_
 rintro e w2 ⟨rfl,rfl⟩
 go_wp2_with fail
 refine(Y0 HF.out.ln).mono ?_
 rintro e w3 ⟨x,s1,rfl, -,hs,hg,ho⟩
 have HG:=hid hg
 have HO3:=hid (HOL.out.rw_ HF.out.ln ho)
 have HF3:=hid (HF.out.step hs ho)
 clear hs ho HF HOL hg
 go_wp2_with(first|(refine wlw HF4.out.mb 0 (aF {m with stat:=x} vn vq vd) rfl rfl _ _ rfl rfl _ Tryz.underlying41 rfl aB ?_)|(refine dA HF4.out.rb 0 (aF {m with stat:=x} vn vq vd) _ (bW ..) (Nat.le_refl 36) (bT _ h1 h2 h3) rfl _ _ _ rfl rfl rfl aB ?_;intro wz hs ho;have HZF:=hid hs;have HOF:=hid (ho (fun i=>i=q) rfl _ (Off.refl _ _));clear hs ho)|(refine dA HF3.out.mb 23 (stL x) _ (qc ..) (Nat.le_refl 36) (uY _) rfl _ _ _ rfl rfl rfl bP ?_;intro w4 hs hoo;have HO4:=hid (OL.qp (m:= {m with stat:=x}) ⟨HO3.out.n,HO3.out.q,HO3.out.d⟩ HF3.out.mb (hoo (fun i=>i=z) rfl _ (Off.refl _ _)));have HF4:=hid (HF3.out.turn (m':= {m with stat:=x}) hs (hoo (fun i=>i=z) rfl _ (Off.refl _ _)));clear hs hoo))
 obtain⟨r1,r2,r3⟩:=HF4.out.end_ (HO4.out) HOF.out
 exact bodyPost_ret (bf (l:=aF {m with stat:=x} vn vq vd) rfl Tryz.underlying41 rfl aB rfl HZF.out) rfl ⟨_,_,_,_,_,rfl,r1,⟨fun _=>rfl,fun _=>rfl,fun _=>rfl⟩,r2,r3,by rw[HPF.out];exact HG.out.map (fun x=> {m with stat:=x})⟩
theorem Zq{w:World}{p base:Nat}{vn vq vd:Value}{s:ByteArray}{st:Except Nat (List UInt8)}{m:Mg}(hbp:base≤p)(h:RwS w p s st)(ho:OL w base m vn vq vd):
  Calls Tryz.prog 55 #[.pointer (some ⟨p,0,none⟩),iM m vn vq vd,.int .u8 68] w (Yr p base s m .data st w):=by
 have HPF:=hid (show(st >>= fun l=>pF m l .data)=(st >>= nG).map (fun p=>({m with data:=p.1},p.2))from by rw[←Yc];rfl)
 have HWC:=hid (fun w=>jL .data w)
 have HIT:=hid (fun w=>jV .data w)
 have HF0:=XV hbp h ho
 have HF:=hid HF0.1
 have HOL:=hid HF0.2
 have h1:=bG ho.n
 have h2:=bG ho.q
 have h3:=bG ho.d
 clear hbp h ho HF0
 go_enter Tryz.func55,Tryz.ntmps55
 go_upto_region 2 with(fail)
 change Code.wp _ _ _ _ ((w.alloc (.cells (aF m vn vq vd).toArray 41)).alloc (.cells (mgN (head 0 0)).toArray 41))
 generalize((w.alloc (.cells (aF m vn vq vd).toArray 41)).alloc (.cells (mgN (head 0 0)).toArray 41))=w1 at HF HOL⊢
 generalize w.heap.size+1=q at HF⊢
 generalize w.heap.size=z at HF⊢
 go_wp2_with fail
 refine(HWC.out _).mono ?_
 rintro e w2 ⟨rfl,rfl⟩
 go_wp2_with fail
 refine(HIT.out _).mono ?_
 rintro e w2 ⟨rfl,rfl⟩
 go_wp2_with fail
 refine(Zo HF.out.ln).mono ?_
 rintro e w3 ⟨x,v,s1,rfl, -,hown,hs,hg,ho⟩
 have HG:=hid hg
 obtain⟨A4,c4,rfl, -⟩:=aJ hown
 have HV:=hid (iw hown HF.out.size)
 have h4:=bG hown
 have HO3:=hid (HOL.out.rw_ HF.out.ln ho)
 have HF3:=hid (HF.out.step hs ho)
 clear hs ho HF HOL hg hown
 have kz:w3.cell? ⟨z,22,none⟩=some vd:=Blk.cell HF3.out.mb 22
 have fz:w3.frozen? ⟨z,22,none⟩=false:=Blk.frozen HF3.out.mb 22
 have HF4:=hid (HF3.out.turn (aK.aW HF3.out.mb _ _ (xB m x vn vq vd (.slice A4 x.length c4))) (bM ..))
 have HO4:=hid (OL.qp (m:= {m with data:=x}) ⟨HO3.out.n,HO3.out.q,HV.out⟩ HF3.out.mb (bM w3 z 22 (.slice A4 x.length c4)))
 go_upto_region 14 with(fail)
 clear kz fz HF3 HO3 HV
 generalize w3.setCell ⟨z,22,none⟩ (.slice A4 x.length c4)=w4 at HF4 HO4⊢
 go_wp2_with(first|(refine wlw HF4.out.mb 0 (aF {m with data:=x} vn vq (.slice A4 x.length c4)) rfl rfl _ _ rfl rfl _ Tryz.underlying41 rfl aB ?_)|(refine dA HF4.out.rb 0 (aF {m with data:=x} vn vq (.slice A4 x.length c4)) _ (bW ..) (Nat.le_refl 36) (bT _ h1 h2 h4) rfl _ _ _ rfl rfl rfl aB ?_;intro wz hs ho;have HZF:=hid hs;have HOF:=hid (ho (fun i=>i=q) rfl _ (Off.refl _ _));clear hs ho))
 obtain⟨r1,r2,r3⟩:=HF4.out.end_ (HO4.out) HOF.out
 exact bodyPost_ret (bf (l:=aF {m with data:=x} vn vq (.slice A4 x.length c4)) rfl Tryz.underlying41 rfl aB rfl HZF.out) rfl ⟨_,_,_,_,_,rfl,r1,⟨fun _=>rfl,fun _=>rfl,fun h=>absurd rfl h⟩,r2,r3,by rw[HPF.out];exact HG.out.map (fun x=> {m with data:=x})⟩
end Go.Proofs.YtkblmloobkiloaaGreatDoor
