/-
  MP8: what the laws of package msg need of them.
-/
import Derived.Test.YtkblmloobkiloaaGreatDoorF00
import Derived.Test.YtkblmloobkiloaaGreatDoorF17
namespace Go.Proofs.YtkblmloobkiloaaGreatDoor
open Go.Lib (hid)
open Go.RowKit
theorem dW.get{α:Type}{p:Nat}{s:ByteArray}{V:α→Ending→World→Prop}{r:Except Nat (α×List UInt8)}{w w':World}{e:Ending}(h:dW p s V r w e w'):
  (∃n,r= .error n∧e= .panicked [{v:= .iface 111 (.int .i64 ((s.size:Int)-(n:Int))),recovered:=false}]∧Off (fun i=>i=p) w w')∨∃x l a,r= .ok (x,l)∧V x e w'∧Off (fun i=>i=p) w w'∧ScS w' p s a∧s.data.toList.drop a=l:=by
 obtain⟨ho,h⟩:=h
 cases r with
 |error n=>exact .inl ⟨n,rfl,h,ho⟩
 |ok x=>
  obtain⟨x,l⟩:=x
  obtain⟨hv,a,hs,hd⟩:=h
  exact .inr ⟨x,l,a,rfl,hv,ho,hs,hd⟩
theorem dW.pO{p:Nat}{s:ByteArray}{r:Except Nat (List UInt8)}{w w':World}{e:Ending}(h:dW p s (fun(_:Unit) e _=>e= .returned (.tuple #[])) (r.map fun l=>((),l)) w e w'):
  (∃n,r= .error n∧e= .panicked [{v:= .iface 111 (.int .i64 ((s.size:Int)-(n:Int))),recovered:=false}]∧Off (fun i=>i=p) w w')∨∃l a,r= .ok l∧e= .returned (.tuple #[])∧Off (fun i=>i=p) w w'∧ScS w' p s a∧s.data.toList.drop a=l:=by
 obtain⟨ho,h⟩:=h
 cases r with
 |error n=>exact .inl ⟨n,rfl,h,ho⟩
 |ok x=>
  obtain⟨hv,a,hs,hd⟩:=h
  exact .inr ⟨x,a,rfl,hv,ho,hs,hd⟩
structure jK(w0 w:World)(p z:Nat)(s:ByteArray)(a:Nat)(cs:Array Value):Prop where
 off:Off (fun i=>i=p∨z≤i) w0 w
 hz:Blk w z 39 #[.int .u16 0,.int .u32 0,.int .u8 0,.int .u32 0,.int .u64 0,.int .u32 0,.int .u32 0,.int .u32 0,.int .u64 0,.string ⟨#[]⟩,.string ⟨#[]⟩,.string ⟨#[]⟩,.string ⟨#[]⟩]
 hf:Blk w (z+1) 39 cs
 sc:ScS w p s a
 se:SE w
 rd:Ready w
 lt:p<z
 h8:8≤p
theorem jK.call{w0 w w':World}{p z:Nat}{s:ByteArray}{a a':Nat}{cs:Array Value}(h:jK w0 w p z s a cs)(ho:Off (fun i=>i=p) w w')(hs:ScS w' p s a'):jK w0 w' p z s a' cs:=by
 have hp:=h.lt
 have h8:=h.h8
 have hb:Below 8 w w':=ho.below (fun i hi=>by have hi:i=p:=hi;omega) h.rd.eight
 exact⟨h.off.trans ho.toN,ho.blk h.hz (fun hi=>by have hi:z=p:=hi;omega),ho.blk h.hf (fun hi=>by have hi:z+1=p:=hi;omega),hs,h.se.low hb (Nat.le_refl 8),h.rd.low hb (Nat.le_refl 8),hp,h8⟩
theorem jK.aW{w0 w:World}{p z:Nat}{s:ByteArray}{a:Nat}{cs:Array Value}(h:jK w0 w p z s a cs)(i:Nat)(v:Value):jK w0 (w.setCell ⟨z+1,i,none⟩ v) p z s a (cs.setIfInBounds i v):=by
 have hp:=h.lt
 have h8:=h.h8
 have hso:=fun(S:Nat→Prop) (hS:S (z+1))=>(Off.refl S w).setCell (p:=⟨z+1,i,none⟩) hS v
 have hb:Below 8 w (w.setCell ⟨z+1,i,none⟩ v):=(hso (fun i=>i=z+1) rfl).below (fun i hi=>by have hi:i=z+1:=hi;omega) h.rd.eight
 exact⟨h.off.trans (hso _ (.inr (Nat.le_succ _))),(hso (fun i=>i=z+1) rfl).blk h.hz (by omega),h.hf.aW i v,h.sc.off (hso (fun i=>i=z+1) rfl) (by omega),h.se.low hb (Nat.le_refl 8),h.rd.low hb (Nat.le_refl 8),hp,h8⟩
theorem jK.alloc{w0 w:World}{p z:Nat}{s:ByteArray}{a:Nat}{cs:Array Value}(h:jK w0 w p z s a cs)(x:Obj):jK w0 (w.alloc x) p z s a cs:=by
 have hb:Below w.heap.size w (w.alloc x):=(Below.refl _ _).alloc (Nat.le_refl _) x
 exact⟨h.off.alloc x,h.hz.alloc _,h.hf.alloc _,h.sc.below hb,h.se.low hb h.rd.eight,h.rd.alloc x,h.lt,h.h8⟩
theorem jK.drew{w0 w:World}{p z:Nat}{s:ByteArray}{a:Nat}{cs:Array Value}(h:jK w0 w p z s a cs):jK w0 w.drew p z s a cs:=by
 have hb:Below w.heap.size w w.drew:=aC w
 exact⟨h.off.drew,h.hz,h.hf,h.sc.below hb,h.se.low hb h.rd.eight,h.rd.below hb (Nat.le_refl _),h.lt,h.h8⟩
def rwd:Nat→ByteArray
 |0=>⟨#[32,110,97,109,101,61]⟩
 |1=>⟨#[32,117,105,100,61]⟩
 |2=>⟨#[32,103,105,100,61]⟩
 |_=>⟨#[32,109,117,105,100,61]⟩
def FC(st:Sta)(t:ByteArray):Nat→Sta
 |0=> {st with name:=t}
 |1=> {st with uid:=t}
 |2=> {st with gid:=t}
 |_=> {st with fE:=t}
def FD:Nat→Nat→Sta→List UInt8→Except Nat (Sta×List UInt8)
 |0,_,st,l=>(dQ [125] l).map fun l=>(st,l)
 |n+1,k,st,l=>do
  let l ←dQ (rwd k).data.toList l
  let(t,l) ←dJ l
  FD n (k+1) (FC st t k) l
theorem LQ(st:Sta)(t:ByteArray)(k:Nat)(hk:k<4):(stL st).toArray.setIfInBounds (9+k) (.string t)=(stL (FC st t k)).toArray:=by
 match k,hk with
 |0,_=>rfl
 |1,_=>rfl
 |2,_=>rfl
 |3,_=>rfl
def xK(z:Nat):Array Value:= #[.string (rwd 0),.pointer (some ⟨z+1,9,none⟩),.string (rwd 1),.pointer (some ⟨z+1,10,none⟩),.string (rwd 2),.pointer (some ⟨z+1,11,none⟩),.string (rwd 3),.pointer (some ⟨z+1,12,none⟩)]
theorem zI(z k:Nat)(hk:k<4):(xK z)[2*k]? =some (.string (rwd k))∧(xK z)[2*k+1]? =some (.pointer (some ⟨z+1,9+k,none⟩)):=by
 match k,hk with
 |0,_=>exact⟨rfl,rfl⟩
 |1,_=>exact⟨rfl,rfl⟩
 |2,_=>exact⟨rfl,rfl⟩
 |3,_=>exact⟨rfl,rfl⟩
theorem QM(st:Sta)(k:Nat)(hk:k<4):∃t,(stL st).toArray[9+k]? =some (.string t):=by
 match k,hk with
 |0,_=>exact⟨_,rfl⟩
 |1,_=>exact⟨_,rfl⟩
 |2,_=>exact⟨_,rfl⟩
 |3,_=>exact⟨_,rfl⟩
abbrev kS:Sta→Ending→World→Prop:=fun st e _=>e= .returned (stV st)
set_option maxRecDepth 100000 in
set_option maxHeartbeats 6400000 in
theorem xM{w:World}{p:Nat}{s:ByteArray}{at_:Nat}(hse:SE w)(hrd:Ready w)(h8:8≤p)(h:ScS w p s at_):
  Calls Tryz.prog 242 #[.pointer (some ⟨p,0,none⟩)] w (dW p s kS (g_ (s.data.toList.drop at_)) w):=by
 obtain⟨wq,hwq⟩:∃wq,wq=w.alloc (.cells #[.int .u16 0,.int .u32 0,.int .u8 0,.int .u32 0,.int .u64 0,.int .u32 0,.int .u32 0,.int .u32 0,.int .u64 0,.string ⟨#[]⟩,.string ⟨#[]⟩,.string ⟨#[]⟩,.string ⟨#[]⟩] 39):=⟨_,rfl⟩
 have oz:Below w.heap.size w wq:=by rw[hwq];exact(Below.refl _ _).alloc (Nat.le_refl _) _
 have LH:wq.heap.size=w.heap.size+1:=by rw[hwq];exact World.size_alloc _ _
 obtain⟨w0,hw0⟩:∃w0,w0=wq.alloc (.cells #[.int .u16 0,.int .u32 0,.int .u8 0,.int .u32 0,.int .u64 0,.int .u32 0,.int .u32 0,.int .u32 0,.int .u64 0,.string ⟨#[]⟩,.string ⟨#[]⟩,.string ⟨#[]⟩,.string ⟨#[]⟩] 39):=⟨_,rfl⟩
 have hup0:Below wq.heap.size wq w0:=by rw[hw0];exact(Below.refl _ _).alloc (Nat.le_refl _) _
 have HZ:=show Blk w0 w.heap.size 39 #[.int .u16 0,.int .u32 0,.int .u8 0,.int .u32 0,.int .u64 0,.int .u32 0,.int .u32 0,.int .u32 0,.int .u64 0,.string ⟨#[]⟩,.string ⟨#[]⟩,.string ⟨#[]⟩,.string ⟨#[]⟩]from by rw[hw0,hwq];exact(Blk.new w _ _).alloc _
 have HF:=show Blk w0 (w.heap.size+1) 39 #[.int .u16 0,.int .u32 0,.int .u8 0,.int .u32 0,.int .u64 0,.int .u32 0,.int .u32 0,.int .u32 0,.int .u64 0,.string ⟨#[]⟩,.string ⟨#[]⟩,.string ⟨#[]⟩,.string ⟨#[]⟩]from by rw[←LH,hw0];exact Blk.new wq _ _
 have hb:=oz.trans (hup0.mono (by omega))
 have R0:=hid (show jK w w0 p w.heap.size s at_ #[.int .u16 0,.int .u32 0,.int .u8 0,.int .u32 0,.int .u64 0,.int .u32 0,.int .u32 0,.int .u32 0,.int .u64 0,.string ⟨#[]⟩,.string ⟨#[]⟩,.string ⟨#[]⟩,.string ⟨#[]⟩]from⟨Off.of_below hb,HZ,HF,h.below hb,hse.low hb hrd.eight,hrd.below hb (Nat.le_refl _),Blk.lt h.1,h8⟩)
 have HSS:=hid h.2.2
 clear h hse h8 hrd oz hup0 LH hb HZ HF
 go_enter Tryz.func242,Tryz.ntmps242
 go_upto_region 2 with(fail)
 change Code.wp _ _ _ _ ((w.alloc (.cells #[.int .u16 0,.int .u32 0,.int .u8 0,.int .u32 0,.int .u64 0,.int .u32 0,.int .u32 0,.int .u32 0,.int .u64 0,.string ⟨#[]⟩,.string ⟨#[]⟩,.string ⟨#[]⟩,.string ⟨#[]⟩] 39)).alloc (.cells #[.int .u16 0,.int .u32 0,.int .u8 0,.int .u32 0,.int .u64 0,.int .u32 0,.int .u32 0,.int .u32 0,.int .u64 0,.string ⟨#[]⟩,.string ⟨#[]⟩,.string ⟨#[]⟩,.string ⟨#[]⟩] 39))
 rw[←hwq,←hw0]
 clear hwq hw0
 generalize hz:w.heap.size=z at R0⊢
 have HZZ:=hid hz;clear hz
 obtain⟨L,hL⟩:∃L,L=s.data.toList.drop at_:=⟨_,rfl⟩
 have HL:=hid hL;clear hL
 go_wp2_with fail
 refine(dK ⟨#[123,116,121,112,101,61]⟩ R0.out.sc).mono ?_
 rw[show s.data.toList.drop at_=L from HL.out.symm]
 rintro e w1 hr
 rw[show(⟨#[123,116,121,112,101,61]⟩:ByteArray).data.toList=[123,116,121,112,101,61]from rfl]at hr
 rcases hr.pO with⟨n,hp,rfl,ho⟩|⟨l1,a1,hp,rfl,ho,hs,hd⟩
 ·have HR:=hid (show g_ L= .error n from by
   unfold g_
   simp only[hp,bC]
   rfl)
  have HO:=hid (R0.out.off.trans ho.toN)
  clear hp ho
  go_wp2_with fail
  refine⟨rfl, ?_⟩
  have HN:=dW.no (V:=kS) (s:=s) HR.out (HO.out.toR (by have:=HZZ.out;omega))
  first|exact HN|(rw[←HL.out];exact HN)
 have HE0:=hid hp
 have HD1:=hid hd
 have R1:=hid (R0.out.call ho hs)
 clear hp hs hd ho hr R0
 go_wp2_with fail
 refine(dO 65535 (by decide) R1.out.se R1.out.h8 R1.out.rd.eight R1.out.sc).mono ?_
 rw[show s.data.toList.drop a1=l1 from HD1.out]
 rintro e v2 hr
 rcases hr.get with⟨n,hp,rfl,ho⟩|⟨x0,l2,a2,hp,rfl,ho,hs,hd⟩
 ·have HR:=hid (show g_ L= .error n from by
   unfold g_
   simp only[HE0.out,hp,bC]
   rfl)
  have HO:=hid (R1.out.off.trans ho.toN)
  clear hp ho
  go_wp2_with fail
  refine⟨rfl, ?_⟩
  have HN:=dW.no (V:=kS) (s:=s) HR.out (HO.out.toR (by have:=HZZ.out;omega))
  first|exact HN|(rw[←HL.out];exact HN)
 have HE1:=hid hp
 have HD2:=hid hd
 have R2:=hid (R1.out.call ho hs)
 have hle:=jU hp
 clear hp hs hd ho hr R1
 have hwv:IntKind.u16.wrap (x0:Int)=(x0:Int):=by rw[IntKind.wrap_u16];omega
 have ks:v2.cell? ⟨z+1,0,none⟩=some (.int .u16 0):=R2.out.hf.cell 0
 have fs:v2.frozen? ⟨z+1,0,none⟩=false:=R2.out.hf.frozen 0
 have R3:=hid (show jK w (v2.setCell ⟨z+1,0,none⟩ (.int .u16 (x0:Int))) p z s a2 #[.int .u16 (x0:Int),.int .u32 0,.int .u8 0,.int .u32 0,.int .u64 0,.int .u32 0,.int .u32 0,.int .u32 0,.int .u64 0,.string ⟨#[]⟩,.string ⟨#[]⟩,.string ⟨#[]⟩,.string ⟨#[]⟩]from R2.out.aW 0 (.int .u16 (x0:Int)))
 clear R2 hle
 go_upto_region 4 with(fail)
 clear ks fs hwv
 generalize v2.setCell ⟨z+1,0,none⟩ (.int .u16 (x0:Int))=w2 at R3⊢
 go_wp2_with fail
 refine(dK ⟨#[32,100,101,118,61]⟩ R3.out.sc).mono ?_
 rw[show s.data.toList.drop a2=l2 from HD2.out]
 rintro e w3 hr
 rw[show(⟨#[32,100,101,118,61]⟩:ByteArray).data.toList=[32,100,101,118,61]from rfl]at hr
 rcases hr.pO with⟨n,hp,rfl,ho⟩|⟨l3,a3,hp,rfl,ho,hs,hd⟩
 ·have HR:=hid (show g_ L= .error n from by
   unfold g_
   simp only[HE0.out,HE1.out,hp,bC]
   rfl)
  have HO:=hid (R3.out.off.trans ho.toN)
  clear hp ho
  go_wp2_with fail
  refine⟨rfl, ?_⟩
  have HN:=dW.no (V:=kS) (s:=s) HR.out (HO.out.toR (by have:=HZZ.out;omega))
  first|exact HN|(rw[←HL.out];exact HN)
 have HE2:=hid hp
 have HD3:=hid hd
 have R4:=hid (R3.out.call ho hs)
 clear hp hs hd ho hr R3
 go_wp2_with fail
 refine(dO 4294967295 (by decide) R4.out.se R4.out.h8 R4.out.rd.eight R4.out.sc).mono ?_
 rw[show s.data.toList.drop a3=l3 from HD3.out]
 rintro e v4 hr
 rcases hr.get with⟨n,hp,rfl,ho⟩|⟨x1,l4,a4,hp,rfl,ho,hs,hd⟩
 ·have HR:=hid (show g_ L= .error n from by
   unfold g_
   simp only[HE0.out,HE1.out,HE2.out,hp,bC]
   rfl)
  have HO:=hid (R4.out.off.trans ho.toN)
  clear hp ho
  go_wp2_with fail
  refine⟨rfl, ?_⟩
  have HN:=dW.no (V:=kS) (s:=s) HR.out (HO.out.toR (by have:=HZZ.out;omega))
  first|exact HN|(rw[←HL.out];exact HN)
 have HE3:=hid hp
 have HD4:=hid hd
 have R5:=hid (R4.out.call ho hs)
 have hle:=jU hp
 clear hp hs hd ho hr R4
 have hwv:IntKind.u32.wrap (x1:Int)=(x1:Int):=by rw[IntKind.wrap_u32];omega
 have ks:v4.cell? ⟨z+1,1,none⟩=some (.int .u32 0):=R5.out.hf.cell 1
 have fs:v4.frozen? ⟨z+1,1,none⟩=false:=R5.out.hf.frozen 1
 have R6:=hid (show jK w (v4.setCell ⟨z+1,1,none⟩ (.int .u32 (x1:Int))) p z s a4 #[.int .u16 (x0:Int),.int .u32 (x1:Int),.int .u8 0,.int .u32 0,.int .u64 0,.int .u32 0,.int .u32 0,.int .u32 0,.int .u64 0,.string ⟨#[]⟩,.string ⟨#[]⟩,.string ⟨#[]⟩,.string ⟨#[]⟩]from R5.out.aW 1 (.int .u32 (x1:Int)))
 clear R5 hle
 go_upto_region 6 with(fail)
 clear ks fs hwv
 generalize v4.setCell ⟨z+1,1,none⟩ (.int .u32 (x1:Int))=w4 at R6⊢
 go_wp2_with fail
 refine(dK ⟨#[32,113,105,100,61]⟩ R6.out.sc).mono ?_
 rw[show s.data.toList.drop a4=l4 from HD4.out]
 rintro e w5 hr
 rw[show(⟨#[32,113,105,100,61]⟩:ByteArray).data.toList=[32,113,105,100,61]from rfl]at hr
 rcases hr.pO with⟨n,hp,rfl,ho⟩|⟨l5,a5,hp,rfl,ho,hs,hd⟩
 ·have HR:=hid (show g_ L= .error n from by
   unfold g_
   simp only[HE0.out,HE1.out,HE2.out,HE3.out,hp,bC]
   rfl)
  have HO:=hid (R6.out.off.trans ho.toN)
  clear hp ho
  go_wp2_with fail
  refine⟨rfl, ?_⟩
  have HN:=dW.no (V:=kS) (s:=s) HR.out (HO.out.toR (by have:=HZZ.out;omega))
  first|exact HN|(rw[←HL.out];exact HN)
 have HE4:=hid hp
 have HD5:=hid hd
 have R7:=hid (R6.out.call ho hs)
 clear hp hs hd ho hr R6
 go_wp2_with fail
 refine(mV R7.out.se R7.out.h8 R7.out.sc).mono ?_
 rw[show s.data.toList.drop a5=l5 from HD5.out]
 rintro e v6 hr
 rcases hr.get with⟨n,hp,rfl,ho⟩|⟨q,l6,a6,hp,rfl,ho,hs,hd⟩
 ·have HR:=hid (show g_ L= .error n from by
   unfold g_
   simp only[HE0.out,HE1.out,HE2.out,HE3.out,HE4.out,hp,bC]
   rfl)
  have HO:=hid (R7.out.off.trans ho.toN)
  clear hp ho
  go_wp2_with fail
  refine⟨rfl, ?_⟩
  have HN:=dW.no (V:=kS) (s:=s) HR.out (HO.out.toR (by have:=HZZ.out;omega))
  first|exact HN|(rw[←HL.out];exact HN)
 have HE5:=hid hp
 have HD6:=hid hd
 have R8:=hid (R7.out.call ho hs)
 clear hp hs hd ho hr R7
 have ks0:v6.cell? ⟨z+1,2,none⟩=some (.int .u8 0):=R8.out.hf.cell 2
 have fs0:v6.frozen? ⟨z+1,2,none⟩=false:=R8.out.hf.frozen 2
 have ks1:v6.cell? ⟨z+1,3,none⟩=some (.int .u32 0):=R8.out.hf.cell 3
 have fs1:v6.frozen? ⟨z+1,3,none⟩=false:=R8.out.hf.frozen 3
 have ks2:v6.cell? ⟨z+1,4,none⟩=some (.int .u64 0):=R8.out.hf.cell 4
 have fs2:v6.frozen? ⟨z+1,4,none⟩=false:=R8.out.hf.frozen 4
 have R9:=hid (show jK w (((v6.setCell ⟨z+1,2,none⟩ (.int .u8 (q.kind:Int))).setCell ⟨z+1,3,none⟩ (.int .u32 (q.vers:Int))).setCell ⟨z+1,4,none⟩ (.int .u64 (q.path:Int))) p z s a6 #[.int .u16 (x0:Int),.int .u32 (x1:Int),.int .u8 (q.kind:Int),.int .u32 (q.vers:Int),.int .u64 (q.path:Int),.int .u32 0,.int .u32 0,.int .u32 0,.int .u64 0,.string ⟨#[]⟩,.string ⟨#[]⟩,.string ⟨#[]⟩,.string ⟨#[]⟩]from((R8.out.aW 2 (.int .u8 (q.kind:Int))).aW 3 (.int .u32 (q.vers:Int))).aW 4 (.int .u64 (q.path:Int)))
 clear R8
 go_upto_region 8 with(fail)
 clear ks0 ks1 ks2 fs0 fs1 fs2
 generalize((v6.setCell ⟨z+1,2,none⟩ (.int .u8 (q.kind:Int))).setCell ⟨z+1,3,none⟩ (.int .u32 (q.vers:Int))).setCell ⟨z+1,4,none⟩ (.int .u64 (q.path:Int))=w6 at R9⊢
 go_wp2_with fail
 refine(dK ⟨#[32,109,111,100,101,61]⟩ R9.out.sc).mono ?_
 rw[show s.data.toList.drop a6=l6 from HD6.out]
 rintro e w7 hr
 rw[show(⟨#[32,109,111,100,101,61]⟩:ByteArray).data.toList=[32,109,111,100,101,61]from rfl]at hr
 rcases hr.pO with⟨n,hp,rfl,ho⟩|⟨l7,a7,hp,rfl,ho,hs,hd⟩
 ·have HR:=hid (show g_ L= .error n from by
   unfold g_
   simp only[HE0.out,HE1.out,HE2.out,HE3.out,HE4.out,HE5.out,hp,bC]
   rfl)
  have HO:=hid (R9.out.off.trans ho.toN)
  clear hp ho
  go_wp2_with fail
  refine⟨rfl, ?_⟩
  have HN:=dW.no (V:=kS) (s:=s) HR.out (HO.out.toR (by have:=HZZ.out;omega))
  first|exact HN|(rw[←HL.out];exact HN)
 have HE6:=hid hp
 have HD7:=hid hd
 have R10:=hid (R9.out.call ho hs)
 clear hp hs hd ho hr R9
 go_wp2_with fail
 refine(dO 4294967295 (by decide) R10.out.se R10.out.h8 R10.out.rd.eight R10.out.sc).mono ?_
 rw[show s.data.toList.drop a7=l7 from HD7.out]
 rintro e v8 hr
 rcases hr.get with⟨n,hp,rfl,ho⟩|⟨x3,l8,a8,hp,rfl,ho,hs,hd⟩
 ·have HR:=hid (show g_ L= .error n from by
   unfold g_
   simp only[HE0.out,HE1.out,HE2.out,HE3.out,HE4.out,HE5.out,HE6.out,hp,bC]
   rfl)
  have HO:=hid (R10.out.off.trans ho.toN)
  clear hp ho
  go_wp2_with fail
  refine⟨rfl, ?_⟩
  have HN:=dW.no (V:=kS) (s:=s) HR.out (HO.out.toR (by have:=HZZ.out;omega))
  first|exact HN|(rw[←HL.out];exact HN)
 have HE7:=hid hp
 have HD8:=hid hd
 have R11:=hid (R10.out.call ho hs)
 have hle:=jU hp
 clear hp hs hd ho hr R10
 have hwv:IntKind.u32.wrap (x3:Int)=(x3:Int):=by rw[IntKind.wrap_u32];omega
 have ks:v8.cell? ⟨z+1,5,none⟩=some (.int .u32 0):=R11.out.hf.cell 5
 have fs:v8.frozen? ⟨z+1,5,none⟩=false:=R11.out.hf.frozen 5
 have R12:=hid (show jK w (v8.setCell ⟨z+1,5,none⟩ (.int .u32 (x3:Int))) p z s a8 #[.int .u16 (x0:Int),.int .u32 (x1:Int),.int .u8 (q.kind:Int),.int .u32 (q.vers:Int),.int .u64 (q.path:Int),.int .u32 (x3:Int),.int .u32 0,.int .u32 0,.int .u64 0,.string ⟨#[]⟩,.string ⟨#[]⟩,.string ⟨#[]⟩,.string ⟨#[]⟩]from R11.out.aW 5 (.int .u32 (x3:Int)))
 clear R11 hle
 go_upto_region 10 with(fail)
 clear ks fs hwv
 generalize v8.setCell ⟨z+1,5,none⟩ (.int .u32 (x3:Int))=w8 at R12⊢
 go_wp2_with fail
 refine(dK ⟨#[32,97,116,105,109,101,61]⟩ R12.out.sc).mono ?_
 rw[show s.data.toList.drop a8=l8 from HD8.out]
 rintro e w9 hr
 rw[show(⟨#[32,97,116,105,109,101,61]⟩:ByteArray).data.toList=[32,97,116,105,109,101,61]from rfl]at hr
 rcases hr.pO with⟨n,hp,rfl,ho⟩|⟨l9,a9,hp,rfl,ho,hs,hd⟩
 ·have HR:=hid (show g_ L= .error n from by
   unfold g_
   simp only[HE0.out,HE1.out,HE2.out,HE3.out,HE4.out,HE5.out,HE6.out,HE7.out,hp,bC]
   rfl)
  have HO:=hid (R12.out.off.trans ho.toN)
  clear hp ho
  go_wp2_with fail
  refine⟨rfl, ?_⟩
  have HN:=dW.no (V:=kS) (s:=s) HR.out (HO.out.toR (by have:=HZZ.out;omega))
  first|exact HN|(rw[←HL.out];exact HN)
 have HE8:=hid hp
 have HD9:=hid hd
 have R13:=hid (R12.out.call ho hs)
 clear hp hs hd ho hr R12
 go_wp2_with fail
 refine(dO 4294967295 (by decide) R13.out.se R13.out.h8 R13.out.rd.eight R13.out.sc).mono ?_
 rw[show s.data.toList.drop a9=l9 from HD9.out]
 rintro e v10 hr
 rcases hr.get with⟨n,hp,rfl,ho⟩|⟨x4,l10,a10,hp,rfl,ho,hs,hd⟩
 ·have HR:=hid (show g_ L= .error n from by
   unfold g_
   simp only[HE0.out,HE1.out,HE2.out,HE3.out,HE4.out,HE5.out,HE6.out,HE7.out,HE8.out,hp,bC]
   rfl)
  have HO:=hid (R13.out.off.trans ho.toN)
  clear hp ho
  go_wp2_with fail
  refine⟨rfl, ?_⟩
  have HN:=dW.no (V:=kS) (s:=s) HR.out (HO.out.toR (by have:=HZZ.out;omega))
  first|exact HN|(rw[←HL.out];exact HN)
 have HE9:=hid hp
 have OB:=hid hd
 have R14:=hid (R13.out.call ho hs)
 have hle:=jU hp
 clear hp hs hd ho hr R13
 have hwv:IntKind.u32.wrap (x4:Int)=(x4:Int):=by rw[IntKind.wrap_u32];omega
 have ks:v10.cell? ⟨z+1,6,none⟩=some (.int .u32 0):=R14.out.hf.cell 6
 have fs:v10.frozen? ⟨z+1,6,none⟩=false:=R14.out.hf.frozen 6
 have R15:=hid (show jK w (v10.setCell ⟨z+1,6,none⟩ (.int .u32 (x4:Int))) p z s a10 #[.int .u16 (x0:Int),.int .u32 (x1:Int),.int .u8 (q.kind:Int),.int .u32 (q.vers:Int),.int .u64 (q.path:Int),.int .u32 (x3:Int),.int .u32 (x4:Int),.int .u32 0,.int .u64 0,.string ⟨#[]⟩,.string ⟨#[]⟩,.string ⟨#[]⟩,.string ⟨#[]⟩]from R14.out.aW 6 (.int .u32 (x4:Int)))
 clear R14 hle
 go_upto_region 12 with(fail)
 clear ks fs hwv
 generalize v10.setCell ⟨z+1,6,none⟩ (.int .u32 (x4:Int))=w10 at R15⊢
 go_wp2_with fail
 refine(dK ⟨#[32,109,116,105,109,101,61]⟩ R15.out.sc).mono ?_
 rw[show s.data.toList.drop a10=l10 from OB.out]
 rintro e w11 hr
 rw[show(⟨#[32,109,116,105,109,101,61]⟩:ByteArray).data.toList=[32,109,116,105,109,101,61]from rfl]at hr
 rcases hr.pO with⟨n,hp,rfl,ho⟩|⟨l11,a11,hp,rfl,ho,hs,hd⟩
 ·have HR:=hid (show g_ L= .error n from by
   unfold g_
   simp only[HE0.out,HE1.out,HE2.out,HE3.out,HE4.out,HE5.out,HE6.out,HE7.out,HE8.out,HE9.out,hp,bC]
   rfl)
  have HO:=hid (R15.out.off.trans ho.toN)
  clear hp ho
  go_wp2_with fail
  refine⟨rfl, ?_⟩
  have HN:=dW.no (V:=kS) (s:=s) HR.out (HO.out.toR (by have:=HZZ.out;omega))
  first|exact HN|(rw[←HL.out];exact HN)
 have LU:=hid hp
 have Ua:=hid hd
 have R16:=hid (R15.out.call ho hs)
 clear hp hs hd ho hr R15
 go_wp2_with fail
 refine(dO 4294967295 (by decide) R16.out.se R16.out.h8 R16.out.rd.eight R16.out.sc).mono ?_
 rw[show s.data.toList.drop a11=l11 from Ua.out]
 rintro e v12 hr
 rcases hr.get with⟨n,hp,rfl,ho⟩|⟨x5,l12,a12,hp,rfl,ho,hs,hd⟩
 ·have HR:=hid (show g_ L= .error n from by
   unfold g_
   simp only[HE0.out,HE1.out,HE2.out,HE3.out,HE4.out,HE5.out,HE6.out,HE7.out,HE8.out,HE9.out,LU.out,hp,bC]
   rfl)
  have HO:=hid (R16.out.off.trans ho.toN)
  clear hp ho
  go_wp2_with fail
  refine⟨rfl, ?_⟩
  have HN:=dW.no (V:=kS) (s:=s) HR.out (HO.out.toR (by have:=HZZ.out;omega))
  first|exact HN|(rw[←HL.out];exact HN)
 have OC:=hid hp
 have Ub:=hid hd
 have R17:=hid (R16.out.call ho hs)
 have hle:=jU hp
 clear hp hs hd ho hr R16
 have hwv:IntKind.u32.wrap (x5:Int)=(x5:Int):=by rw[IntKind.wrap_u32];omega
 have ks:v12.cell? ⟨z+1,7,none⟩=some (.int .u32 0):=R17.out.hf.cell 7
 have fs:v12.frozen? ⟨z+1,7,none⟩=false:=R17.out.hf.frozen 7
 have R18:=hid (show jK w (v12.setCell ⟨z+1,7,none⟩ (.int .u32 (x5:Int))) p z s a12 #[.int .u16 (x0:Int),.int .u32 (x1:Int),.int .u8 (q.kind:Int),.int .u32 (q.vers:Int),.int .u64 (q.path:Int),.int .u32 (x3:Int),.int .u32 (x4:Int),.int .u32 (x5:Int),.int .u64 0,.string ⟨#[]⟩,.string ⟨#[]⟩,.string ⟨#[]⟩,.string ⟨#[]⟩]from R17.out.aW 7 (.int .u32 (x5:Int)))
 clear R17 hle
 go_upto_region 14 with(fail)
 clear ks fs hwv
 generalize v12.setCell ⟨z+1,7,none⟩ (.int .u32 (x5:Int))=w12 at R18⊢
 go_wp2_with fail
 refine(dK ⟨#[32,108,101,110,103,116,104,61]⟩ R18.out.sc).mono ?_
 rw[show s.data.toList.drop a12=l12 from Ub.out]
 rintro e w13 hr
 rw[show(⟨#[32,108,101,110,103,116,104,61]⟩:ByteArray).data.toList=[32,108,101,110,103,116,104,61]from rfl]at hr
 rcases hr.pO with⟨n,hp,rfl,ho⟩|⟨l13,a13,hp,rfl,ho,hs,hd⟩
 ·have HR:=hid (show g_ L= .error n from by
   unfold g_
   simp only[HE0.out,HE1.out,HE2.out,HE3.out,HE4.out,HE5.out,HE6.out,HE7.out,HE8.out,HE9.out,LU.out,OC.out,hp,bC]
   rfl)
  have HO:=hid (R18.out.off.trans ho.toN)
  clear hp ho
  go_wp2_with fail
  refine⟨rfl, ?_⟩
  have HN:=dW.no (V:=kS) (s:=s) HR.out (HO.out.toR (by have:=HZZ.out;omega))
  first|exact HN|(rw[←HL.out];exact HN)
 have QN:=hid hp
 have Uc:=hid hd
 have R19:=hid (R18.out.call ho hs)
 clear hp hs hd ho hr R18
 go_wp2_with fail
 refine(dO 18446744073709551615 (by decide) R19.out.se R19.out.h8 R19.out.rd.eight R19.out.sc).mono ?_
 rw[show s.data.toList.drop a13=l13 from Uc.out]
 rintro e v14 hr
 rcases hr.get with⟨n,hp,rfl,ho⟩|⟨x6,l14,a14,hp,rfl,ho,hs,hd⟩
 ·have HR:=hid (show g_ L= .error n from by
   unfold g_
   simp only[HE0.out,HE1.out,HE2.out,HE3.out,HE4.out,HE5.out,HE6.out,HE7.out,HE8.out,HE9.out,LU.out,OC.out,QN.out,hp,bC]
   rfl)
  have HO:=hid (R19.out.off.trans ho.toN)
  clear hp ho
  go_wp2_with fail
  refine⟨rfl, ?_⟩
  have HN:=dW.no (V:=kS) (s:=s) HR.out (HO.out.toR (by have:=HZZ.out;omega))
  first|exact HN|(rw[←HL.out];exact HN)
 have Ud:=hid hp
 have Ue:=hid hd
 have R20:=hid (R19.out.call ho hs)
 have hle:=jU hp
 clear hp hs hd ho hr R19
 have hwv:IntKind.u64.wrap (x6:Int)=(x6:Int):=by rw[IntKind.wrap_u64];omega
 have ks:v14.cell? ⟨z+1,8,none⟩=some (.int .u64 0):=R20.out.hf.cell 8
 have fs:v14.frozen? ⟨z+1,8,none⟩=false:=R20.out.hf.frozen 8
 have R21:=hid (show jK w (v14.setCell ⟨z+1,8,none⟩ (.int .u64 (x6:Int))) p z s a14 #[.int .u16 (x0:Int),.int .u32 (x1:Int),.int .u8 (q.kind:Int),.int .u32 (q.vers:Int),.int .u64 (q.path:Int),.int .u32 (x3:Int),.int .u32 (x4:Int),.int .u32 (x5:Int),.int .u64 (x6:Int),.string ⟨#[]⟩,.string ⟨#[]⟩,.string ⟨#[]⟩,.string ⟨#[]⟩]from R20.out.aW 8 (.int .u64 (x6:Int)))
 clear R20 hle
 have HPR:=hid (show g_ L=FD 4 0 ⟨x0,x1,q,x3,x4,x5,x6,⟨#[]⟩,⟨#[]⟩,⟨#[]⟩,⟨#[]⟩⟩ l14 from by
  unfold g_
  simp only[HE0.out,HE1.out,HE2.out,HE3.out,HE4.out,HE5.out,HE6.out,HE7.out,HE8.out,HE9.out,LU.out,OC.out,QN.out,Ud.out,bC]
  rfl)
 have RR:=hid (show jK w (v14.setCell ⟨z+1,8,none⟩ (.int .u64 (x6:Int))) p z s a14 (stL ⟨x0,x1,q,x3,x4,x5,x6,⟨#[]⟩,⟨#[]⟩,⟨#[]⟩,⟨#[]⟩⟩).toArray from R21.out)
 clear R21
 go_upto_region 16 with(fail)
 clear ks fs hwv
 generalize v14.setCell ⟨z+1,8,none⟩ (.int .u64 (x6:Int))=w14 at RR⊢
 generalize(⟨x0,x1,q,x3,x4,x5,x6,⟨#[]⟩,⟨#[]⟩,⟨#[]⟩,⟨#[]⟩⟩:Sta)=st0 at RR HPR
 have HDL:=hid Ue.out
 clear HE0 HE1 HE2 HE3 HE4 HE5 HE6 HE7 HE8 HE9 LU OC QN Ud HD1 HD2 HD3 HD4 HD5 HD6 HD7 HD8 HD9 OB Ua Ub Uc Ue
 go_upto_region 17 with(fail)
 have HG:=hid (show z+1<w14.heap.size from Blk.lt RR.out.hf)
 have HTB:=hid (show Blk (w14.alloc (.cells #[.string ⟨#[32,110,97,109,101,61]⟩,.pointer (some ⟨z+1,9,none⟩),.string ⟨#[32,117,105,100,61]⟩,.pointer (some ⟨z+1,10,none⟩),.string ⟨#[32,103,105,100,61]⟩,.pointer (some ⟨z+1,11,none⟩),.string ⟨#[32,109,117,105,100,61]⟩,.pointer (some ⟨z+1,12,none⟩)] 235)) w14.heap.size 235 (xK z)from Blk.new w14 _ _)
 have RS:=hid (RR.out.alloc (.cells #[.string ⟨#[32,110,97,109,101,61]⟩,.pointer (some ⟨z+1,9,none⟩),.string ⟨#[32,117,105,100,61]⟩,.pointer (some ⟨z+1,10,none⟩),.string ⟨#[32,103,105,100,61]⟩,.pointer (some ⟨z+1,11,none⟩),.string ⟨#[32,109,117,105,100,61]⟩,.pointer (some ⟨z+1,12,none⟩)] 235))
 clear RR
 generalize w14.alloc (.cells _ _)=wt at HTB RS⊢
 generalize w14.heap.size=g at HTB HG⊢
 go_loopw [5,56] (fun _ i wr=>∃(k:Nat) (st:Sta) (l:List UInt8) (a:Nat),k≤4∧i= .int .i64 (k:Int)∧jK w wr p z s a (stL st).toArray∧s.data.toList.drop a=l∧g_ L=FD (4-k) k st l∧Blk wr g 235 (xK z)) (fun _ i _=>4-(intOf i).toNat)
 case atStart=>exact⟨0,st0,l14,a14,by omega,rfl,RS.out,HDL.out,HPR.out,HTB.out⟩
 case round=>
  obtain⟨k,st,l,a,hk,rfl,hr,hd,hq,hg⟩:=hrel
  have RK:=hid hr;clear hr
  have HDK:=hid hd;clear hd
  have HQK:=hid hq;clear hq
  have HGK:=hid hg;clear hg
  by_cases hlt:k<4
  ·have kw:wr.cell? ⟨g,k*2,none⟩=some (.string (rwd k)):=by rw[Nat.mul_comm];exact(HGK.out.cell (2*k)).trans (zI z k hlt).1
   have kp:wr.cell? ⟨g,k*2+1,none⟩=some (.pointer (some ⟨z+1,9+k,none⟩)):=by rw[Nat.mul_comm];exact(HGK.out.cell (2*k+1)).trans (zI z k hlt).2
   go_upto_region 19 with(fail)
   clear kw kp
   have HBT:=hid (show Blk (wr.alloc (.cells #[.string (rwd k),.pointer (some ⟨z+1,9+k,none⟩)] 235)) wr.heap.size 235 #[.string (rwd k),.pointer (some ⟨z+1,9+k,none⟩)]from Blk.new wr _ _)
   have RA:=hid (RK.out.alloc (.cells #[.string (rwd k),.pointer (some ⟨z+1,9+k,none⟩)] 235))
   have HGA:=hid (HGK.out.alloc (.cells #[.string (rwd k),.pointer (some ⟨z+1,9+k,none⟩)] 235))
   have HGB:=hid (show g<wr.heap.size from Blk.lt HGK.out)
   generalize wr.alloc (.cells #[.string (rwd k),.pointer (some ⟨z+1,9+k,none⟩)] 235)=wa at HBT RA HGA⊢
   generalize wr.heap.size=b at HBT HGB⊢
   clear RK HGK
   have hQS:FD (4-k) k st l=(dQ (rwd k).data.toList l >>= fun l=>dJ l >>= fun x=>FD (3-k) (k+1) (FC st x.1 k) x.2):=by
    rw[show 4-k=(3-k)+1 from by omega]
    rfl
   have HQS:=hid (HQK.out.trans hQS)
   clear hQS HQK
   have kw:wa.cell? ⟨b,0,none⟩=some (.string (rwd k)):=HBT.out.cell 0
   go_wp2_with fail
   refine(dK (rwd k) RA.out.sc).mono ?_
   rw[HDK.out]
   rintro e w20 hr
   rcases hr.pO with⟨n,hp,rfl,ho⟩|⟨l20,a20,hp,rfl,ho,hs,hd⟩
   ·have HR:=hid (show g_ L= .error n from by
     rw[HQS.out,hp]
     rfl)
    have HO:=hid (RA.out.off.trans ho.toN)
    clear hp ho hr
    go_wp2_with fail
    refine⟨rfl, ?_⟩
    have HN:=dW.no (V:=kS) (s:=s) HR.out (HO.out.toR (by have:=HZZ.out;omega))
    first|exact HN|(rw[←HL.out];exact HN)
   ·have HQ2:=hid (show g_ L=(dJ l20 >>= fun x=>FD (3-k) (k+1) (FC st x.1 k) x.2)from by
     rw[HQS.out,hp]
     rfl)
    have HD2:=hid hd
    have HPG:=hid (show p<b from by have:=RA.out.lt;have:=HG.out;have:=HGB.out;omega)
    have HBU:=hid (ho.blk HBT.out (fun hi=>by have hi:b=p:=hi;have:=HPG.out;omega))
    have HGU:=hid (ho.blk HGA.out (fun hi=>by have hi:g=p:=hi;have:=RA.out.lt;have:=HG.out;omega))
    have RB:=hid ((RA.out.call ho hs).drew)
    have kd:w20.drew.cell? ⟨b,1,none⟩=some (.pointer (some ⟨z+1,9+k,none⟩)):=HBU.out.cell 1
    have HGD:=hid (show Blk w20.drew g 235 (xK z)from HGU.out)
    have HBD:=hid (show Blk w20.drew b 235 #[.string (rwd k),.pointer (some ⟨z+1,9+k,none⟩)]from HBU.out)
    clear hp ho hr hs hd kw HGA HBT RA
    go_upto_region 20 with(fail)
    refine wp_region_held_drew (S:=fun wx=>wx.cell? ⟨b,1,none⟩=some (.pointer (some ⟨z+1,9+k,none⟩))) (by kernel_rfl) kd (fun hHeld=> ?_)
    generalize w20.drew=wd at hHeld RB HGD HBD kd⊢
    refine tk 64 0 (.pointer (some ⟨b,1,none⟩)) ?_
    refine tk2 65 1 (.pointer (some ⟨z+1,9+k,none⟩)) rfl (fun wq hSw=>by have hs9:wq.cell? ⟨b,1,none⟩=some (.pointer (some ⟨z+1,9+k,none⟩)):=hSw;go_simp) ?_
    refine tk 66 2 (.pointer (some ⟨p,0,none⟩)) ?_
    refine wpAnyH_ready (rs:=[3]) (by kernel_rfl) (by simp) ?_
    refine AllReadyH.cons rfl (fun K hK=> ?_) AllReadyH.nil
    rw[if_pos (by rfl)]
    go_simp
    (with_reducible refine(lQ RB.out.rd RB.out.h8 RB.out.sc).mono ?_)
    rw[HD2.out]
    rintro e wy hr
    rcases hr.get with⟨n,hp,rfl,ho⟩|⟨t,l21,a21,hp,rfl,ho,hs,hd⟩
    ·have HR:=hid (show g_ L= .error n from by rw[HQ2.out,hp];rfl)
     have HO:=hid (RB.out.off.trans ho.toN)
     clear hp ho hr
     dsimp only
     simp+zetaDelta only[Exit.inBlock,Exit.then]
     refine⟨rfl, ?_⟩
     have HN:=dW.no (V:=kS) (s:=s) HR.out (HO.out.toR (by have:=HZZ.out;omega))
     first|exact HN|(rw[←HL.out];exact HN)
    dsimp only
    have HQ3:=hid (show g_ L=FD (3-k) (k+1) (FC st t k) l21 from by rw[HQ2.out,hp];rfl)
    have HD3:=hid hd
    have RC:=hid (RB.out.call ho hs)
    have HGE:=hid (ho.blk HGD.out (fun hi=>by have hi:g=p:=hi;have:=RB.out.lt;have:=HG.out;omega))
    have HBE:=hid (ho.blk HBD.out (fun hi=>by have hi:b=p:=hi;have:=HPG.out;omega))
    have ke:wy.cell? ⟨b,1,none⟩=some (.pointer (some ⟨z+1,9+k,none⟩)):=HBE.out.cell 1
    clear hp ho hr hs hd kd hHeld
    refine hK.out _ _ ke (fun hHeld=> ?_)
    clear hK
    refine tk 68 4 (.pointer (some ⟨z+1,9+k,none⟩)) ?_
    refine wpAnyH_ready (rs:=[5]) (by kernel_rfl) (by simp) ?_
    refine AllReadyH.cons rfl (fun K hK=> ?_) AllReadyH.nil
    obtain⟨tt,htt⟩:=QM st k hlt
    have ks:wy.cell? ⟨z+1,9+k,none⟩=some (.string tt):=(RC.out.hf.cell (9+k)).trans htt
    have fs:wy.frozen? ⟨z+1,9+k,none⟩=false:=RC.out.hf.frozen (9+k)
    have RD:=hid (show jK w (wy.setCell ⟨z+1,9+k,none⟩ (.string t)) p z s a21 (stL (FC st t k)).toArray from by have h:=RC.out.aW (9+k) (.string t);rw[LQ st t k hlt]at h;exact h)
    have HGF:=hid (((Off.refl (fun i=>i=z+1) wy).setCell (p:=⟨z+1,9+k,none⟩) rfl (.string t)).blk HGE.out (by have:=HG.out;omega))
    have HBF:=hid (((Off.refl (fun i=>i=z+1) wy).setCell (p:=⟨z+1,9+k,none⟩) rfl (.string t)).blk HBE.out (by have:=HG.out;have:=HGB.out;omega))
    have ke2:(wy.setCell ⟨z+1,9+k,none⟩ (.string t)).cell? ⟨b,1,none⟩=some (.pointer (some ⟨z+1,9+k,none⟩)):=HBF.out.cell 1
    rw[if_pos (by rfl)]
    go_simp
    generalize wy.setCell ⟨z+1,9+k,none⟩ (.string t)=wz at RD HGF HBF ke2⊢
    clear hHeld ke ks fs htt
    refine hK.out _ _ ke2 (fun hHeld=> ?_)
    clear hK
    refine wpAnyH_done (by kernel_rfl) ?_ _
    clear hHeld ke2
    go_wp2_with fail
    go_roundw
    case rel=>
     refine⟨k+1,FC st t k,l21,a21,by omega,by go_num,RD.out,HD3.out, ?_,HGF.out⟩
     rw[show 4-(k+1)=3-k from by omega]
     exact HQ3.out
    case measure=>simp[intOf];omega
  ·have hk4:k=4:=by omega
   subst hk4
   have HQ4:=hid (show g_ L=(dQ [125] l).map fun l=>(st,l)from HQK.out)
   clear HQK hlt hk
   go_wp2_with fail
   refine(dK ⟨#[125]⟩ RK.out.sc).mono ?_
   rw[HDK.out]
   rintro e w20 hr
   rw[show(⟨#[125]⟩:ByteArray).data.toList=[125]from rfl]at hr
   rcases hr.pO with⟨n,hp,rfl,ho⟩|⟨l20,a20,hp,rfl,ho,hs,hd⟩
   ·have HR:=hid (show g_ L= .error n from by
     rw[HQ4.out,hp]
     rfl)
    have HO:=hid (RK.out.off.trans ho.toN)
    clear hp ho hr
    go_wp2_with fail
    refine⟨rfl, ?_⟩
    have HN:=dW.no (V:=kS) (s:=s) HR.out (HO.out.toR (by have:=HZZ.out;omega))
    first|exact HN|(rw[←HL.out];exact HN)
   ·have HR:=hid (show g_ L= .ok (st,l20)from by
     rw[HQ4.out,hp]
     rfl)
    have HD2:=hid hd
    have RB:=hid (RK.out.call ho hs)
    clear hp ho hr hs hd
    go_wp2_with(first|(refine wlw RB.out.hf 0 (stL st) rfl rfl _ _ rfl rfl _ Tryz.underlying39 rfl bP ?_)|(refine dA RB.out.hz 0 (stL st) (stL st).toArray (kK ..) (Nat.le_refl 13) (lJ ..) rfl _ _ _ rfl rfl rfl bP ?_;intro wz hs ho;have HBz:=hid hs;have HOz:=hid (ho (fun i=>i=p∨z≤i) (.inr (Nat.le_refl _)) w RB.out.off);have HSz:=hid (RB.out.sc.off (ho (fun i=>i=z) rfl w20 (Off.refl _ _)) (by have:=RB.out.lt;omega));clear hs ho))
    refine bodyPost_ret (bf (l:=stL st) rfl Tryz.underlying39 rfl bP rfl HBz.out) rfl ?_
    rw[←HL.out]
    refine⟨HOz.out.toR (by have:=HZZ.out;omega), ?_⟩
    rw[HR.out]
    exact⟨rfl,_,HSz.out,HD2.out⟩
end Go.Proofs.YtkblmloobkiloaaGreatDoor
