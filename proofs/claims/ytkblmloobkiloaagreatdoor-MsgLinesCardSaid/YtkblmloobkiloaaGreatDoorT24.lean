/-
  MPA MPB MRN: what the laws of package msg need of them.
-/
import Derived.Test.YtkblmloobkiloaaGreatDoorT00
import Derived.Test.YtkblmloobkiloaaGreatDoorT23
import Derived.Test.YtkblmloobkiloaaGreatDoorT17
set_option maxRecDepth 100000
set_option maxHeartbeats 6400000
namespace Go.Proofs.YtkblmloobkiloaaGreatDoor
open Go.Lib (hid)
open Go.RowKit
theorem ScS.noT{w:World}{p:Nat}{s:ByteArray}{a:Nat}{e:TypeId}(h:ScS w p s a)(he:114≠e):∀g cur fr,g=p→w.heap[g]? ≠some (Obj.cells cur e fr):=h.1.noT he
theorem ScS.ne{w:World}{p q:Nat}{s:ByteArray}{a:Nat}{t:TypeId}{cs:Array Value}(h:ScS w p s a)(hm:Blk w q t cs)(ht:114≠t):p≠q:=fun e=>h.noT ht q _ _ e.symm hm
theorem OL.sc{w w':World}{p base:Nat}{m:Mg}{vn vq vd:Value}{s:ByteArray}{a:Nat}(h:OL w base m vn vq vd)(hr:ScS w p s a)(ho:Off (fun i=>i=p) w w'):OL w' base m vn vq vd:=
 h.off ho fun i cur fr e hS he=>by
  rcases he with rfl|rfl|rfl<;>exact hr.noT (by decide) i cur fr hS
def bY(p q base:Nat)(s:ByteArray)(r:Except Nat (Mg×List UInt8))(w:World)(e:Ending)(w':World):Prop:=
 Off (fun i=>i=p∨i=q) w w'∧match r with
  | .ok (m,l)=>e= .returned (.tuple #[])∧(∃vn vq vd,aK w' q m vn vq vd∧OL w' base m vn vq vd)∧∃a,ScS w' p s a∧s.data.toList.drop a=l
  | .error n=>e= .panicked [{v:= .iface 111 (.int .i64 ((s.size:Int)-(n:Int))),recovered:=false}]
theorem bY.end_{w w1 w':World}{p q base a:Nat}{s:ByteArray}{vn vq vd xn xq xd:Value}{l:List UInt8}{m m':Mg}{r:Except Nat (Mg×List UInt8)}(hr:r= .ok (m',l))(h:ScS w1 p s a)(hd:s.data.toList.drop a=l)(hm:aK w1 q m vn vq vd)(ho:OL w1 base m' xn xq xd)(h1:Off (fun i=>i=p) w w1)(hb:aK w' q m' xn xq xd)(hoff:Off (fun i=>i=q) w1 w'):bY p q base s r w (.returned (.tuple #[])) w':=by
 subst hr
 exact⟨(h1.mono fun _ _ h=> .inl h).trans (hoff.mono fun _ _ h=> .inr h),rfl,⟨xn,xq,xd,hb,ho.qp hm hoff⟩,a,h.off hoff (h.ne hm (by decide)),hd⟩
theorem bY.no{w w1:World}{p q base n:Nat}{s:ByteArray}{r:Except Nat (Mg×List UInt8)}(hr:r= .error n)(h1:Off (fun i=>i=p) w w1):bY p q base s r w (.panicked [{v:= .iface 111 (.int .i64 ((s.size:Int)-(n:Int))),recovered:=false}]) w1:=by
 subst hr
 exact⟨h1.mono fun _ _ h=> .inl h,rfl⟩
theorem eY{α β:Type}{r:Except Nat α}{n:Nat}(f:α→β)(h:r= .error n):r.map f= .error n:=by rw[h];rfl
theorem fB{α β:Type}{r:Except Nat α}{x:α}(f:α→β)(h:r= .ok x):r.map f= .ok (f x):=by rw[h];rfl
theorem jg{w:World}{p q b o K at_:Nat}{s:ByteArray}{old:Value}(hse:SE w)(hrd:Ready w)(h8:8≤p)(hent:∀args w,Sem.run Tryz.prog (callFunc K args) w= .ok (.enter K args) w)(hat:∀w,Calls Tryz.prog K #[.pointer (some ⟨q,0,none⟩)] w fun e w'=>e= .returned (.pointer (some ⟨q,o,none⟩))∧w=w')(hc:Blk w b 135 #[fv K #[]])(hk:∀w',Off (fun i=>i=p) w w'→w'.cell? ⟨q,o,none⟩=some old∧w'.frozen? ⟨q,o,none⟩=false)(h:ScS w p s at_):
  Calls Tryz.prog 131 #[.pointer (some ⟨p,0,none⟩),.pointer (some ⟨q,0,none⟩),.pointer (some ⟨b,0,none⟩)] w fun e w'=>(∃n,fZ 4294967295 (s.data.toList.drop at_)= .error n∧e= .panicked [{v:= .iface 111 (.int .i64 ((s.size:Int)-(n:Int))),recovered:=false}]∧Off (fun i=>i=p) w w')∨(∃x l a w1,fZ 4294967295 (s.data.toList.drop at_)= .ok (x,l)∧e= .returned (.tuple #[])∧Off (fun i=>i=p) w w1∧ScS w1 p s a∧s.data.toList.drop a=l∧w'=w1.setCell ⟨q,o,none⟩ (.int .u32 (x:Int))):=by
 have HAT:=hid (hat w)
 have HP:=hid (dO 4294967295 (by decide) hse h8 hrd.eight h)
 have HK:=hid hk
 have kb:w.cell? ⟨b,0,none⟩=_:=hc.cell 0
 clear hat hc h hk hse hrd h8
 go_enter Tryz.func131,Tryz.ntmps131
 go_wp2_with fail
 refine HAT.out.mono ?_
 rintro e w' ⟨rfl,rfl⟩
 go_wp2_with fail
 refine HP.out.mono ?_
 rintro e w1 hr
 rcases hr.get with⟨n,hp,rfl,ho⟩|⟨x,l,a,hp,rfl,ho,hs,hd⟩
 ·have HR:=hid hp
  have HO:=hid ho
  clear hp ho hr
  go_wp2_with fail
  exact⟨rfl,.inl ⟨n,HR.out,rfl,HO.out⟩⟩
 ·have HR:=hid hp
  have HS:=hid (And.intro ho (And.intro hs hd))
  have hx:=jU hp
  have hwv:IntKind.u32.wrap (x:Int)=(x:Int):=by rw[IntKind.wrap_u32];omega
  obtain⟨k0,z0⟩:=HK.out w1 ho
  clear hp ho hr hs hd
  go_wp2_with fail
  go_end0
  exact .inr ⟨x,l,a,w1,HR.out,rfl,HS.out.1,HS.out.2.1,HS.out.2.2,rfl⟩
theorem lG{w:World}{p q b o K at_:Nat}{s:ByteArray}{old:Value}(hse:SE w)(hrd:Ready w)(h8:8≤p)(hent:∀args w,Sem.run Tryz.prog (callFunc K args) w= .ok (.enter K args) w)(hat:∀w,Calls Tryz.prog K #[.pointer (some ⟨q,0,none⟩)] w fun e w'=>e= .returned (.pointer (some ⟨q,o,none⟩))∧w=w')(hc:Blk w b 138 #[fv K #[]])(hk:∀w',Off (fun i=>i=p) w w'→w'.cell? ⟨q,o,none⟩=some old∧w'.frozen? ⟨q,o,none⟩=false)(h:ScS w p s at_):
  Calls Tryz.prog 141 #[.pointer (some ⟨p,0,none⟩),.pointer (some ⟨q,0,none⟩),.pointer (some ⟨b,0,none⟩)] w fun e w'=>(∃n,dJ (s.data.toList.drop at_)= .error n∧e= .panicked [{v:= .iface 111 (.int .i64 ((s.size:Int)-(n:Int))),recovered:=false}]∧Off (fun i=>i=p) w w')∨(∃x l a w1,dJ (s.data.toList.drop at_)= .ok (x,l)∧e= .returned (.tuple #[])∧Off (fun i=>i=p) w w1∧ScS w1 p s a∧s.data.toList.drop a=l∧w'=w1.setCell ⟨q,o,none⟩ (.string x)):=by
 have HAT:=hid (hat w)
 have HP:=hid (lQ hrd h8 h)
 have HK:=hid hk
 have kb:w.cell? ⟨b,0,none⟩=_:=hc.cell 0
 clear hat hc h hk hse hrd h8
 go_enter Tryz.func141,Tryz.ntmps141
 go_wp2_with fail
 refine HAT.out.mono ?_
 rintro e w' ⟨rfl,rfl⟩
 go_wp2_with fail
 refine HP.out.mono ?_
 rintro e w1 hr
 rcases hr.get with⟨n,hp,rfl,ho⟩|⟨x,l,a,hp,rfl,ho,hs,hd⟩
 ·have HR:=hid hp
  have HO:=hid ho
  clear hp ho hr
  go_wp2_with fail
  exact⟨rfl,.inl ⟨n,HR.out,rfl,HO.out⟩⟩
 ·have HR:=hid hp
  have HS:=hid (And.intro ho (And.intro hs hd))
  obtain⟨k0,z0⟩:=HK.out w1 ho
  clear hp ho hr hs hd
  go_wp2_with fail
  go_end0
  exact .inr ⟨x,l,a,w1,HR.out,rfl,HS.out.1,HS.out.2.1,HS.out.2.2,rfl⟩
theorem DJ{w:World}{p q base at_:Nat}{m:Mg}{vn vq vd:Value}{s:ByteArray}(hse:SE w)(hrd:Ready w)(h8:8≤p)(hm:aK w q m vn vq vd)(ho:OL w base m vn vq vd)(hbase:base≤w.heap.size)(h:ScS w p s at_):
  Calls Tryz.prog 147 #[.pointer (some ⟨p,0,none⟩),.pointer (some ⟨q,0,none⟩)] w (bY p q base s (pF m (s.data.toList.drop at_) .aT) w):=by
 have hmf:=iF
 have HP:=hid (dO 65535 (by decide) hse h8 hrd.eight h)
 have HNE:=hid (h.ne hm (by decide))
 have HM:=hid hm
 have HOL:=hid (And.intro ho h)
 have HBA:=hid hbase
 clear hm ho h hbase hse hrd h8
 go_enter Tryz.func147,Tryz.ntmps147
 go_wp2_with fail
 refine HP.out.mono ?_
 rintro e w1 hr
 rcases hr.get with⟨n,hp,rfl,ho⟩|⟨x,l,a,hp,rfl,ho,hs,hd⟩
 ·have HR:=hid (eY (fun p:Nat×List UInt8=>(m.aG p.1 .aT,p.2)) hp)
  have HO:=hid ho
  clear hp ho hr
  go_wp2_with fail
  exact⟨rfl,bY.no HR.out HO.out⟩
 have HR:=hid (fB (fun p:Nat×List UInt8=>(m.aG p.1 .aT,p.2)) hp)
 have HM1:=hid (ho.blk HM.out (fun h=>HNE.out h.symm))
 have gV:=hid (HOL.out.1.sc HOL.out.2 ho)
 have HS:=hid (And.intro ho (And.intro hs hd))
 have hx:=jU hp
 have hwv:IntKind.u16.wrap (x:Int)=(x:Int):=by rw[IntKind.wrap_u16];omega
 have k0:w1.cell? ⟨q,8,none⟩=some (.int .u16 (m.aT:Int)):=Blk.cell HM1.out 8
 have z0:w1.frozen? ⟨q,8,none⟩=false:=Blk.frozen HM1.out 8
 clear hp ho hr hs hd
 go_wp2_with fail
 go_end0
 exact bY.end_ HR.out HS.out.2.1 HS.out.2.2 HM1.out ⟨gV.out.n,gV.out.q,gV.out.d⟩ HS.out.1 (aK.aW HM1.out _ _ (xg ..)) (bM ..)
theorem Ji{w:World}{p q base at_:Nat}{m:Mg}{vn vq vd:Value}{s:ByteArray}(hse:SE w)(hrd:Ready w)(h8:8≤p)(hm:aK w q m vn vq vd)(ho:OL w base m vn vq vd)(hbase:base≤w.heap.size)(h:ScS w p s at_):
  Calls Tryz.prog 152 #[.pointer (some ⟨p,0,none⟩),.pointer (some ⟨q,0,none⟩)] w (bY p q base s (pF m (s.data.toList.drop at_) .mode) w):=by
 have hmf:=iF
 have HP:=hid (dO 255 (by decide) hse h8 hrd.eight h)
 have HNE:=hid (h.ne hm (by decide))
 have HM:=hid hm
 have HOL:=hid (And.intro ho h)
 have HBA:=hid hbase
 clear hm ho h hbase hse hrd h8
 go_enter Tryz.func152,Tryz.ntmps152
 go_wp2_with fail
 refine HP.out.mono ?_
 rintro e w1 hr
 rcases hr.get with⟨n,hp,rfl,ho⟩|⟨x,l,a,hp,rfl,ho,hs,hd⟩
 ·have HR:=hid (eY (fun p:Nat×List UInt8=>(m.aG p.1 .mode,p.2)) hp)
  have HO:=hid ho
  clear hp ho hr
  go_wp2_with fail
  exact⟨rfl,bY.no HR.out HO.out⟩
 have HR:=hid (fB (fun p:Nat×List UInt8=>(m.aG p.1 .mode,p.2)) hp)
 have HM1:=hid (ho.blk HM.out (fun h=>HNE.out h.symm))
 have gV:=hid (HOL.out.1.sc HOL.out.2 ho)
 have HS:=hid (And.intro ho (And.intro hs hd))
 have hx:=jU hp
 have hwv:IntKind.u8.wrap (x:Int)=(x:Int):=by rw[IntKind.wrap_u8];omega
 have k0:w1.cell? ⟨q,16,none⟩=some (.int .u8 (m.mode:Int)):=Blk.cell HM1.out 16
 have z0:w1.frozen? ⟨q,16,none⟩=false:=Blk.frozen HM1.out 16
 clear hp ho hr hs hd
 go_wp2_with fail
 go_end0
 exact bY.end_ HR.out HS.out.2.1 HS.out.2.2 HM1.out ⟨gV.out.n,gV.out.q,gV.out.d⟩ HS.out.1 (aK.aW HM1.out _ _ (Dp ..)) (bM ..)
theorem DK{w:World}{p q base at_:Nat}{m:Mg}{vn vq vd:Value}{s:ByteArray}(hse:SE w)(hrd:Ready w)(h8:8≤p)(hm:aK w q m vn vq vd)(ho:OL w base m vn vq vd)(hbase:base≤w.heap.size)(h:ScS w p s at_):
  Calls Tryz.prog 159 #[.pointer (some ⟨p,0,none⟩),.pointer (some ⟨q,0,none⟩)] w (bY p q base s (pF m (s.data.toList.drop at_) .offset) w):=by
 have hmf:=iF
 have HP:=hid (dO 18446744073709551615 (by decide) hse h8 hrd.eight h)
 have HNE:=hid (h.ne hm (by decide))
 have HM:=hid hm
 have HOL:=hid (And.intro ho h)
 have HBA:=hid hbase
 clear hm ho h hbase hse hrd h8
 go_enter Tryz.func159,Tryz.ntmps159
 go_wp2_with fail
 refine HP.out.mono ?_
 rintro e w1 hr
 rcases hr.get with⟨n,hp,rfl,ho⟩|⟨x,l,a,hp,rfl,ho,hs,hd⟩
 ·have HR:=hid (eY (fun p:Nat×List UInt8=>(m.aG p.1 .offset,p.2)) hp)
  have HO:=hid ho
  clear hp ho hr
  go_wp2_with fail
  exact⟨rfl,bY.no HR.out HO.out⟩
 have HR:=hid (fB (fun p:Nat×List UInt8=>(m.aG p.1 .offset,p.2)) hp)
 have HM1:=hid (ho.blk HM.out (fun h=>HNE.out h.symm))
 have gV:=hid (HOL.out.1.sc HOL.out.2 ho)
 have HS:=hid (And.intro ho (And.intro hs hd))
 have k0:w1.cell? ⟨q,20,none⟩=some (.int .u64 (m.offset:Int)):=Blk.cell HM1.out 20
 have z0:w1.frozen? ⟨q,20,none⟩=false:=Blk.frozen HM1.out 20
 clear hp ho hr hs hd
 go_wp2_with fail
 go_end0
 exact bY.end_ HR.out HS.out.2.1 HS.out.2.2 HM1.out ⟨gV.out.n,gV.out.q,gV.out.d⟩ HS.out.1 (aK.aW HM1.out _ _ (xw ..)) (bM ..)
theorem Jj{w:World}{p q base at_:Nat}{m:Mg}{vn vq vd:Value}{s:ByteArray}(hse:SE w)(hrd:Ready w)(h8:8≤p)(hm:aK w q m vn vq vd)(ho:OL w base m vn vq vd)(hbase:base≤w.heap.size)(h:ScS w p s at_):
  Calls Tryz.prog 168 #[.pointer (some ⟨p,0,none⟩),.pointer (some ⟨q,0,none⟩)] w (bY p q base s (pF m (s.data.toList.drop at_) .data) w):=by
 have hmf:=iF
 have HP:=hid (Fz h)
 have HNE:=hid (h.ne hm (by decide))
 have HM:=hid hm
 have HOL:=hid (And.intro ho h)
 have HBA:=hid hbase
 clear hm ho h hbase hse hrd h8
 go_enter Tryz.func168,Tryz.ntmps168
 go_wp2_with fail
 refine HP.out.mono ?_
 rintro e w1 hr
 rcases hr.get with⟨n,hp,rfl,ho⟩|⟨x,l,a,hp,hv,ho,hs,hd⟩
 ·have HR:=hid (eY (fun p:List UInt8×List UInt8=>({m with data:=p.1},p.2)) hp)
  have HO:=hid ho
  clear hp ho hr
  go_wp2_with fail
  exact⟨rfl,bY.no HR.out HO.out⟩
 have HR:=hid (fB (fun p:List UInt8×List UInt8=>({m with data:=p.1},p.2)) hp)
 have HM1:=hid (ho.blk HM.out (fun h=>HNE.out h.symm))
 have gV:=hid (HOL.out.1.sc HOL.out.2 ho)
 have HS:=hid (And.intro ho (And.intro hs hd))
 obtain⟨v,rfl,hv⟩:=hv
 have HV:=hid (iw hv HBA.out)
 obtain⟨A,cap,rfl,hc,hmx⟩:=aJ hv
 clear hv hc hmx
 have k0:w1.cell? ⟨q,22,none⟩=some vd:=Blk.cell HM1.out 22
 have z0:w1.frozen? ⟨q,22,none⟩=false:=Blk.frozen HM1.out 22
 clear hp ho hr hs hd
 go_wp2_with fail
 go_end0
 exact bY.end_ HR.out HS.out.2.1 HS.out.2.2 HM1.out ⟨gV.out.n,gV.out.q,HV.out⟩ HS.out.1 (aK.aW HM1.out _ _ (xB ..)) (bM ..)
theorem FH{w:World}{p q base at_:Nat}{m:Mg}{vn vq vd:Value}{s:ByteArray}(hse:SE w)(hrd:Ready w)(h8:8≤p)(hm:aK w q m vn vq vd)(ho:OL w base m vn vq vd)(hbase:base≤w.heap.size)(h:ScS w p s at_):
  Calls Tryz.prog 218 #[.pointer (some ⟨p,0,none⟩),.pointer (some ⟨q,0,none⟩)] w (bY p q base s (pF m (s.data.toList.drop at_) .names) w):=by
 have hmf:=iF
 have HP:=hid (yN hse hrd h8 h)
 have HNE:=hid (h.ne hm (by decide))
 have HM:=hid hm
 have HOL:=hid (And.intro ho h)
 have HBA:=hid hbase
 clear hm ho h hbase hse hrd h8
 go_enter Tryz.func218,Tryz.ntmps218
 go_wp2_with fail
 refine HP.out.mono ?_
 rintro e w1 hr
 rcases hr.get with⟨n,hp,rfl,ho⟩|⟨x,l,a,hp,hv,ho,hs,hd⟩
 ·have HR:=hid (eY (fun p:List ByteArray×List UInt8=>({m with names:=p.1},p.2)) hp)
  have HO:=hid ho
  clear hp ho hr
  go_wp2_with fail
  exact⟨rfl,bY.no HR.out HO.out⟩
 have HR:=hid (fB (fun p:List ByteArray×List UInt8=>({m with names:=p.1},p.2)) hp)
 have HM1:=hid (ho.blk HM.out (fun h=>HNE.out h.symm))
 have gV:=hid (HOL.out.1.sc HOL.out.2 ho)
 have HS:=hid (And.intro ho (And.intro hs hd))
 obtain⟨v,rfl,hv⟩:=hv
 have HV:=hid (iw hv HBA.out)
 obtain⟨A,cap,rfl,hc,hmx⟩:=aJ hv
 clear hv hc hmx
 have k0:w1.cell? ⟨q,11,none⟩=some vn:=Blk.cell HM1.out 11
 have z0:w1.frozen? ⟨q,11,none⟩=false:=Blk.frozen HM1.out 11
 clear hp ho hr hs hd
 go_wp2_with fail
 go_end0
 exact bY.end_ HR.out HS.out.2.1 HS.out.2.2 HM1.out ⟨HV.out,gV.out.q,gV.out.d⟩ HS.out.1 (aK.aW HM1.out _ _ (sZ ..)) (bM ..)
theorem Jk{w:World}{p q base at_:Nat}{m:Mg}{vn vq vd:Value}{s:ByteArray}(hse:SE w)(hrd:Ready w)(h8:8≤p)(hm:aK w q m vn vq vd)(ho:OL w base m vn vq vd)(hbase:base≤w.heap.size)(h:ScS w p s at_):
  Calls Tryz.prog 231 #[.pointer (some ⟨p,0,none⟩),.pointer (some ⟨q,0,none⟩)] w (bY p q base s (pF m (s.data.toList.drop at_) .aV) w):=by
 have hmf:=iF
 have HP:=hid (yO hse hrd h8 h)
 have HNE:=hid (h.ne hm (by decide))
 have HM:=hid hm
 have HOL:=hid (And.intro ho h)
 have HBA:=hid hbase
 clear hm ho h hbase hse hrd h8
 go_enter Tryz.func231,Tryz.ntmps231
 go_wp2_with fail
 refine HP.out.mono ?_
 rintro e w1 hr
 rcases hr.get with⟨n,hp,rfl,ho⟩|⟨x,l,a,hp,hv,ho,hs,hd⟩
 ·have HR:=hid (eY (fun p:List Qd×List UInt8=>({m with aV:=p.1},p.2)) hp)
  have HO:=hid ho
  clear hp ho hr
  go_wp2_with fail
  exact⟨rfl,bY.no HR.out HO.out⟩
 have HR:=hid (fB (fun p:List Qd×List UInt8=>({m with aV:=p.1},p.2)) hp)
 have HM1:=hid (ho.blk HM.out (fun h=>HNE.out h.symm))
 have gV:=hid (HOL.out.1.sc HOL.out.2 ho)
 have HS:=hid (And.intro ho (And.intro hs hd))
 obtain⟨v,rfl,hv⟩:=hv
 have HV:=hid (iw hv HBA.out)
 obtain⟨A,cap,rfl,hc,hmx⟩:=aJ hv
 clear hv hc hmx
 have k0:w1.cell? ⟨q,12,none⟩=some vq:=Blk.cell HM1.out 12
 have z0:w1.frozen? ⟨q,12,none⟩=false:=Blk.frozen HM1.out 12
 clear hp ho hr hs hd
 go_wp2_with fail
 go_end0
 exact bY.end_ HR.out HS.out.2.1 HS.out.2.2 HM1.out ⟨gV.out.n,HV.out,gV.out.d⟩ HS.out.1 (aK.aW HM1.out _ _ (xA ..)) (bM ..)
theorem LW{w:World}{p q base at_:Nat}{m:Mg}{vn vq vd:Value}{s:ByteArray}(hse:SE w)(hrd:Ready w)(h8:8≤p)(hm:aK w q m vn vq vd)(ho:OL w base m vn vq vd)(hbase:base≤w.heap.size)(h:ScS w p s at_):
  Calls Tryz.prog 177 #[.pointer (some ⟨p,0,none⟩),.pointer (some ⟨q,0,none⟩)] w (bY p q base s (pF m (s.data.toList.drop at_) .qid) w):=by
 have hmf:=iF
 have HP:=hid (mV hse h8 h)
 have HNE:=hid (h.ne hm (by decide))
 have HM:=hid hm
 have HOL:=hid (And.intro ho h)
 have HBA:=hid hbase
 clear hm ho h hbase hse hrd h8
 go_enter Tryz.func177,Tryz.ntmps177
 go_wp2_with fail
 refine HP.out.mono ?_
 rintro e w1 hr
 rcases hr.get with⟨n,hp,rfl,ho⟩|⟨x,l,a,hp,rfl,ho,hs,hd⟩
 ·have HR:=hid (eY (fun p:Qd×List UInt8=>({m with qid:=p.1},p.2)) hp)
  have HO:=hid ho
  clear hp ho hr
  go_wp2_with fail
  exact⟨rfl,bY.no HR.out HO.out⟩
 have HR:=hid (fB (fun p:Qd×List UInt8=>({m with qid:=p.1},p.2)) hp)
 have HM1:=hid (ho.blk HM.out (fun h=>HNE.out h.symm))
 have gV:=hid (HOL.out.1.sc HOL.out.2 ho)
 have HS:=hid (And.intro ho (And.intro hs hd))
 have k0:w1.cell? ⟨q,13,none⟩=some (.int .u8 (m.qid.kind:Int)):=Blk.cell HM1.out 13
 have k1:w1.cell? ⟨q,14,none⟩=some (.int .u32 (m.qid.vers:Int)):=Blk.cell HM1.out 14
 have k2:w1.cell? ⟨q,15,none⟩=some (.int .u64 (m.qid.path:Int)):=Blk.cell HM1.out 15
 have z0:w1.frozen? ⟨q,13,none⟩=false:=Blk.frozen HM1.out 13
 have z1:w1.frozen? ⟨q,14,none⟩=false:=Blk.frozen HM1.out 14
 have z2:w1.frozen? ⟨q,15,none⟩=false:=Blk.frozen HM1.out 15
 clear hp ho hr hs hd
 go_wp2_with fail
 go_end0
 refine bY.end_ HR.out HS.out.2.1 HS.out.2.2 HM1.out (m':= {m with qid:=x}) ⟨gV.out.n,gV.out.q,gV.out.d⟩ HS.out.1 ?_ (((bM w1 q 13 _).trans (bM _ q 14 _)).trans (bM _ q 15 _))
 have h:=((Blk.aW HM1.out 13 (.int .u8 (x.kind:Int))).aW 14 (.int .u32 (x.vers:Int))).aW 15 (.int .u64 (x.path:Int))
 rw[Bh]at h
 exact h
theorem Jl{w:World}{p q base at_:Nat}{m:Mg}{vn vq vd:Value}{s:ByteArray}(hse:SE w)(hrd:Ready w)(h8:8≤p)(hm:aK w q m vn vq vd)(ho:OL w base m vn vq vd)(hbase:base≤w.heap.size)(h:ScS w p s at_):
  Calls Tryz.prog 241 #[.pointer (some ⟨p,0,none⟩),.pointer (some ⟨q,0,none⟩)] w (bY p q base s (pF m (s.data.toList.drop at_) .stat) w):=by
 have hmf:=iF
 have HP:=hid (xM hse hrd h8 h)
 have HNE:=hid (h.ne hm (by decide))
 have HM:=hid hm
 have HOL:=hid (And.intro ho h)
 have HBA:=hid hbase
 clear hm ho h hbase hse hrd h8
 go_enter Tryz.func241,Tryz.ntmps241
 go_wp2_with fail
 refine HP.out.mono ?_
 rintro e w1 hr
 rcases hr.get with⟨n,hp,rfl,ho⟩|⟨x,l,a,hp,rfl,ho,hs,hd⟩
 ·have HR:=hid (eY (fun p:Sta×List UInt8=>({m with stat:=p.1},p.2)) hp)
  have HO:=hid ho
  clear hp ho hr
  go_wp2_with fail
  exact⟨rfl,bY.no HR.out HO.out⟩
 have HR:=hid (fB (fun p:Sta×List UInt8=>({m with stat:=p.1},p.2)) hp)
 have HM1:=hid (ho.blk HM.out (fun h=>HNE.out h.symm))
 have gV:=hid (HOL.out.1.sc HOL.out.2 ho)
 have HS:=hid (And.intro ho (And.intro hs hd))
 clear hp ho hr hs hd
 go_wp2_with(refine dA HM1.out 23 (stL x) _ (qc ..) (Nat.le_refl 36) (uY _) rfl _ _ _ rfl rfl rfl bP ?_;intro w2 hs hoo;have HMX:=hid hs;have HOX:=hid (hoo (fun i=>i=q) rfl w1 (Off.refl _ _));clear hs hoo)
 go_end0
 exact bY.end_ HR.out HS.out.2.1 HS.out.2.2 HM1.out (m':= {m with stat:=x}) ⟨gV.out.n,gV.out.q,gV.out.d⟩ HS.out.1 HMX.out HOX.out
theorem DL(f:Fld){w:World}{p q base at_:Nat}{m:Mg}{vn vq vd:Value}{s:ByteArray}{b:Nat}(hse:SE w)(hrd:Ready w)(h8:8≤p)(hm:aK w q m vn vq vd)(ho:OL w base m vn vq vd)(hbase:base≤w.heap.size)(hc:yC w f b)(h:ScS w p s at_):
  Calls Tryz.prog f.ks (#[.pointer (some ⟨p,0,none⟩),.pointer (some ⟨q,0,none⟩)]++f.cap b) w (bY p q base s (pF m (s.data.toList.drop at_) f) w):=by
 have hne:=h.ne hm (by decide)
 cases f
 case bI=>
  refine(jg hse hrd h8 (aS .bI rfl) (aZ .bI rfl q) (hc.2 rfl rfl) (fun w' hb=>⟨Blk.cell (hb.blk hm (fun h=>hne h.symm)) 2,Blk.frozen (hb.blk hm (fun h=>hne h.symm)) 2⟩) h).mono ?_
  rintro e w' (⟨n,hp,rfl,hb⟩|⟨x,l,a,w1,hp,rfl,hb,hs,hd,rfl⟩)
  ·exact bY.no (eY (fun p:Nat×List UInt8=>(m.aG p.1 .bI,p.2)) hp) hb
  have hm1:aK w1 q m vn vq vd:=hb.blk hm (fun h=>hne h.symm)
  have ho1:=ho.sc h hb
  exact bY.end_ (fB (fun p:Nat×List UInt8=>(m.aG p.1 .bI,p.2)) hp) hs hd hm1 ⟨ho1.n,ho1.q,ho1.d⟩ hb (aK.aW hm1 _ _ (zx ..)) (bM ..)
 case version=>
  refine(lG hse hrd h8 (aS .version rfl) (aZ .version rfl q) (hc.1 rfl) (fun w' hb=>⟨Blk.cell (hb.blk hm (fun h=>hne h.symm)) 3,Blk.frozen (hb.blk hm (fun h=>hne h.symm)) 3⟩) h).mono ?_
  rintro e w' (⟨n,hp,rfl,hb⟩|⟨x,l,a,w1,hp,rfl,hb,hs,hd,rfl⟩)
  ·exact bY.no (eY (fun p:ByteArray×List UInt8=>(m.bV p.1 .version,p.2)) hp) hb
  have hm1:aK w1 q m vn vq vd:=hb.blk hm (fun h=>hne h.symm)
  have ho1:=ho.sc h hb
  exact bY.end_ (fB (fun p:ByteArray×List UInt8=>(m.bV p.1 .version,p.2)) hp) hs hd hm1 ⟨ho1.n,ho1.q,ho1.d⟩ hb (aK.aW hm1 _ _ (uj ..)) (bM ..)
 case dB=>
  refine(jg hse hrd h8 (aS .dB rfl) (aZ .dB rfl q) (hc.2 rfl rfl) (fun w' hb=>⟨Blk.cell (hb.blk hm (fun h=>hne h.symm)) 4,Blk.frozen (hb.blk hm (fun h=>hne h.symm)) 4⟩) h).mono ?_
  rintro e w' (⟨n,hp,rfl,hb⟩|⟨x,l,a,w1,hp,rfl,hb,hs,hd,rfl⟩)
  ·exact bY.no (eY (fun p:Nat×List UInt8=>(m.aG p.1 .dB,p.2)) hp) hb
  have hm1:aK w1 q m vn vq vd:=hb.blk hm (fun h=>hne h.symm)
  have ho1:=ho.sc h hb
  exact bY.end_ (fB (fun p:Nat×List UInt8=>(m.aG p.1 .dB,p.2)) hp) hs hd hm1 ⟨ho1.n,ho1.q,ho1.d⟩ hb (aK.aW hm1 _ _ (Dn ..)) (bM ..)
 case uname=>
  refine(lG hse hrd h8 (aS .uname rfl) (aZ .uname rfl q) (hc.1 rfl) (fun w' hb=>⟨Blk.cell (hb.blk hm (fun h=>hne h.symm)) 5,Blk.frozen (hb.blk hm (fun h=>hne h.symm)) 5⟩) h).mono ?_
  rintro e w' (⟨n,hp,rfl,hb⟩|⟨x,l,a,w1,hp,rfl,hb,hs,hd,rfl⟩)
  ·exact bY.no (eY (fun p:ByteArray×List UInt8=>(m.bV p.1 .uname,p.2)) hp) hb
  have hm1:aK w1 q m vn vq vd:=hb.blk hm (fun h=>hne h.symm)
  have ho1:=ho.sc h hb
  exact bY.end_ (fB (fun p:ByteArray×List UInt8=>(m.bV p.1 .uname,p.2)) hp) hs hd hm1 ⟨ho1.n,ho1.q,ho1.d⟩ hb (aK.aW hm1 _ _ (zy ..)) (bM ..)
 case bF=>
  refine(lG hse hrd h8 (aS .bF rfl) (aZ .bF rfl q) (hc.1 rfl) (fun w' hb=>⟨Blk.cell (hb.blk hm (fun h=>hne h.symm)) 6,Blk.frozen (hb.blk hm (fun h=>hne h.symm)) 6⟩) h).mono ?_
  rintro e w' (⟨n,hp,rfl,hb⟩|⟨x,l,a,w1,hp,rfl,hb,hs,hd,rfl⟩)
  ·exact bY.no (eY (fun p:ByteArray×List UInt8=>(m.bV p.1 .bF,p.2)) hp) hb
  have hm1:aK w1 q m vn vq vd:=hb.blk hm (fun h=>hne h.symm)
  have ho1:=ho.sc h hb
  exact bY.end_ (fB (fun p:ByteArray×List UInt8=>(m.bV p.1 .bF,p.2)) hp) hs hd hm1 ⟨ho1.n,ho1.q,ho1.d⟩ hb (aK.aW hm1 _ _ (zA ..)) (bM ..)
 case bH=>
  refine(lG hse hrd h8 (aS .bH rfl) (aZ .bH rfl q) (hc.1 rfl) (fun w' hb=>⟨Blk.cell (hb.blk hm (fun h=>hne h.symm)) 7,Blk.frozen (hb.blk hm (fun h=>hne h.symm)) 7⟩) h).mono ?_
  rintro e w' (⟨n,hp,rfl,hb⟩|⟨x,l,a,w1,hp,rfl,hb,hs,hd,rfl⟩)
  ·exact bY.no (eY (fun p:ByteArray×List UInt8=>(m.bV p.1 .bH,p.2)) hp) hb
  have hm1:aK w1 q m vn vq vd:=hb.blk hm (fun h=>hne h.symm)
  have ho1:=ho.sc h hb
  exact bY.end_ (fB (fun p:ByteArray×List UInt8=>(m.bV p.1 .bH,p.2)) hp) hs hd hm1 ⟨ho1.n,ho1.q,ho1.d⟩ hb (aK.aW hm1 _ _ (zB ..)) (bM ..)
 case aT=>exact DJ hse hrd h8 hm ho hbase h
 case fid=>
  refine(jg hse hrd h8 (aS .fid rfl) (aZ .fid rfl q) (hc.2 rfl rfl) (fun w' hb=>⟨Blk.cell (hb.blk hm (fun h=>hne h.symm)) 9,Blk.frozen (hb.blk hm (fun h=>hne h.symm)) 9⟩) h).mono ?_
  rintro e w' (⟨n,hp,rfl,hb⟩|⟨x,l,a,w1,hp,rfl,hb,hs,hd,rfl⟩)
  ·exact bY.no (eY (fun p:Nat×List UInt8=>(m.aG p.1 .fid,p.2)) hp) hb
  have hm1:aK w1 q m vn vq vd:=hb.blk hm (fun h=>hne h.symm)
  have ho1:=ho.sc h hb
  exact bY.end_ (fB (fun p:Nat×List UInt8=>(m.aG p.1 .fid,p.2)) hp) hs hd hm1 ⟨ho1.n,ho1.q,ho1.d⟩ hb (aK.aW hm1 _ _ (GR ..)) (bM ..)
 case aU=>
  refine(jg hse hrd h8 (aS .aU rfl) (aZ .aU rfl q) (hc.2 rfl rfl) (fun w' hb=>⟨Blk.cell (hb.blk hm (fun h=>hne h.symm)) 10,Blk.frozen (hb.blk hm (fun h=>hne h.symm)) 10⟩) h).mono ?_
  rintro e w' (⟨n,hp,rfl,hb⟩|⟨x,l,a,w1,hp,rfl,hb,hs,hd,rfl⟩)
  ·exact bY.no (eY (fun p:Nat×List UInt8=>(m.aG p.1 .aU,p.2)) hp) hb
  have hm1:aK w1 q m vn vq vd:=hb.blk hm (fun h=>hne h.symm)
  have ho1:=ho.sc h hb
  exact bY.end_ (fB (fun p:Nat×List UInt8=>(m.aG p.1 .aU,p.2)) hp) hs hd hm1 ⟨ho1.n,ho1.q,ho1.d⟩ hb (aK.aW hm1 _ _ (xk ..)) (bM ..)
 case names=>exact FH hse hrd h8 hm ho hbase h
 case aV=>exact Jk hse hrd h8 hm ho hbase h
 case qid=>exact LW hse hrd h8 hm ho hbase h
 case mode=>exact Ji hse hrd h8 hm ho hbase h
 case aQ=>
  refine(jg hse hrd h8 (aS .aQ rfl) (aZ .aQ rfl q) (hc.2 rfl rfl) (fun w' hb=>⟨Blk.cell (hb.blk hm (fun h=>hne h.symm)) 17,Blk.frozen (hb.blk hm (fun h=>hne h.symm)) 17⟩) h).mono ?_
  rintro e w' (⟨n,hp,rfl,hb⟩|⟨x,l,a,w1,hp,rfl,hb,hs,hd,rfl⟩)
  ·exact bY.no (eY (fun p:Nat×List UInt8=>(m.aG p.1 .aQ,p.2)) hp) hb
  have hm1:aK w1 q m vn vq vd:=hb.blk hm (fun h=>hne h.symm)
  have ho1:=ho.sc h hb
  exact bY.end_ (fB (fun p:Nat×List UInt8=>(m.aG p.1 .aQ,p.2)) hp) hs hd hm1 ⟨ho1.n,ho1.q,ho1.d⟩ hb (aK.aW hm1 _ _ (xu ..)) (bM ..)
 case name=>
  refine(lG hse hrd h8 (aS .name rfl) (aZ .name rfl q) (hc.1 rfl) (fun w' hb=>⟨Blk.cell (hb.blk hm (fun h=>hne h.symm)) 18,Blk.frozen (hb.blk hm (fun h=>hne h.symm)) 18⟩) h).mono ?_
  rintro e w' (⟨n,hp,rfl,hb⟩|⟨x,l,a,w1,hp,rfl,hb,hs,hd,rfl⟩)
  ·exact bY.no (eY (fun p:ByteArray×List UInt8=>(m.bV p.1 .name,p.2)) hp) hb
  have hm1:aK w1 q m vn vq vd:=hb.blk hm (fun h=>hne h.symm)
  have ho1:=ho.sc h hb
  exact bY.end_ (fB (fun p:ByteArray×List UInt8=>(m.bV p.1 .name,p.2)) hp) hs hd hm1 ⟨ho1.n,ho1.q,ho1.d⟩ hb (aK.aW hm1 _ _ (Dq ..)) (bM ..)
 case perm=>
  refine(jg hse hrd h8 (aS .perm rfl) (aZ .perm rfl q) (hc.2 rfl rfl) (fun w' hb=>⟨Blk.cell (hb.blk hm (fun h=>hne h.symm)) 19,Blk.frozen (hb.blk hm (fun h=>hne h.symm)) 19⟩) h).mono ?_
  rintro e w' (⟨n,hp,rfl,hb⟩|⟨x,l,a,w1,hp,rfl,hb,hs,hd,rfl⟩)
  ·exact bY.no (eY (fun p:Nat×List UInt8=>(m.aG p.1 .perm,p.2)) hp) hb
  have hm1:aK w1 q m vn vq vd:=hb.blk hm (fun h=>hne h.symm)
  have ho1:=ho.sc h hb
  exact bY.end_ (fB (fun p:Nat×List UInt8=>(m.aG p.1 .perm,p.2)) hp) hs hd hm1 ⟨ho1.n,ho1.q,ho1.d⟩ hb (aK.aW hm1 _ _ (set_perm ..)) (bM ..)
 case offset=>exact DK hse hrd h8 hm ho hbase h
 case count=>
  refine(jg hse hrd h8 (aS .count rfl) (aZ .count rfl q) (hc.2 rfl rfl) (fun w' hb=>⟨Blk.cell (hb.blk hm (fun h=>hne h.symm)) 21,Blk.frozen (hb.blk hm (fun h=>hne h.symm)) 21⟩) h).mono ?_
  rintro e w' (⟨n,hp,rfl,hb⟩|⟨x,l,a,w1,hp,rfl,hb,hs,hd,rfl⟩)
  ·exact bY.no (eY (fun p:Nat×List UInt8=>(m.aG p.1 .count,p.2)) hp) hb
  have hm1:aK w1 q m vn vq vd:=hb.blk hm (fun h=>hne h.symm)
  have ho1:=ho.sc h hb
  exact bY.end_ (fB (fun p:Nat×List UInt8=>(m.aG p.1 .count,p.2)) hp) hs hd hm1 ⟨ho1.n,ho1.q,ho1.d⟩ hb (aK.aW hm1 _ _ (zC ..)) (bM ..)
 case data=>exact Jj hse hrd h8 hm ho hbase h
 case stat=>exact Jl hse hrd h8 hm ho hbase h
theorem FI:∀r,r<27→0≤iq r:=by decide
theorem FK{r:Nat}{s:ByteArray}(hr:r<27)(h:nameAt r=s):∃k:Nat,kindOf s.data.toList=some k∧iq r=(k:Int):=by
 obtain⟨fs,h1,h2, -⟩:=uU r hr
 refine⟨(iq r).toNat, ?_, ?_⟩
 ·rw[←h,h2]
  show kindOf (ofL _).data.toList=_
  rw[show(ofL (fO (iq r).toNat)).data.toList=fO (iq r).toNat from by simp[ofL]]
  exact(CJ h1).1
 ·have:=FI r hr
  omega
theorem Jm{s:ByteArray}(h:∀q,q<27→nameAt q≠s):kindOf s.data.toList=none:=by
 cases hk:kindOf s.data.toList with
 |none=>rfl
 |some k=>
  obtain⟨h1, -,fs,hf⟩:=mM hk
  obtain⟨-, -,h3,h4⟩:=iP hf
  have hi:=wL (k-100) (by omega) (by rw[show 100+(k-100)=k by omega,hf];simp)
  rw[show 100+(k-100)=k by omega]at hi
  have ha:=o9 (k:Int) hi
  obtain⟨fs',h5,h6, -⟩:=uU _ hi
  rw[ha]at h6
  refine absurd ?_ (h _ hi)
  rw[h6,show((k:Int)).toNat=k from rfl,h1]
  apply ByteArray.ext
  simp[ofL]
def GV(s:ByteArray)(e:Ending):Prop:=match kindOf s.data.toList with
 |some k=>e= .returned (.tuple #[.int .u8 (k:Int),.bool true])
 |none=>e= .returned (.tuple #[.int .u8 0,.bool false])
theorem FM(s:ByteArray)(w:World):Calls Tryz.prog 37 #[.string s] w fun e w'=>GV s e∧Below w.heap.size w w':=by
 go_enter Tryz.func37,Tryz.ntmps37
 go_upto_region 2 with(go_at_call 70;refine(t_ _).mono ?_;rintro e w' ⟨rfl,rfl⟩)
 have hk0:=uf w
 have hb0:=mO (ig w.heap.size) w
 have hz0:=nJ (ig w.heap.size) w
 generalize List.foldl World.alloc w (ig w.heap.size)=w0 at hk0 hb0 hz0⊢
 have hz1:(ig w.heap.size).length=24:=rfl
 rw[hz1]at hz0
 clear hz1
 have HK0:=hid hk0;clear hk0
 have HB1:=hid hb0;clear hb0
 have HZ0:=hid hz0;clear hz0
 generalize hg:w.heap.size+23=g
 have HG:=hid hg;clear hg
 go_loopw [5,8] (fun _ i wr=>∃r:Nat,r≤27∧i= .int .i64 r∧Below w0.heap.size w0 wr∧∀q,q<r→nameAt q≠s) (fun _ i _=>27-(intOf i).toNat)
 case atStart=>exact⟨0,by omega,rfl,Below.refl _ _,fun q hq=>absurd hq (Nat.not_lt_zero q)⟩
 case round=>
  obtain⟨r,hr,rfl,hb,hno⟩:=hrel
  have HNO:=hid hno;clear hno
  have HB:=hid hb;clear hb
  by_cases hlt:r<27
  ·have HK:=hid (HK0.out.below HB.out (by rw[HZ0.out];exact Nat.le_refl _))
   have c0:wr.cell? ⟨g,r*3,none⟩=some (.int .u8 (iq r)):=by rw[←HG.out,HK.out.blk.cell,o7 _ r hlt];rfl
   have c1:wr.cell? ⟨g,r*3+1,none⟩=some (.string (nameAt r)):=by rw[←HG.out,HK.out.blk.cell,o8 _ r hlt];rfl
   have c2:wr.cell? ⟨g,r*3+2,none⟩=some (mP w.heap.size r):=by rw[←HG.out,HK.out.blk.cell,nK _ r hlt]
   obtain⟨fa,fl,fc,hfv⟩:=qF w.heap.size r hlt
   rw[hfv]at c2
   clear hfv
   by_cases he:nameAt r=s
   ·obtain⟨k,hk1,hk2⟩:=FK hlt he
    have HE:=hid hk1
    have HKA:=hid hk2
    have hbe:((nameAt r).toList==s.toList)=true:=by rw[he];exact beq_self_eq_true _
    clear he hk1 hk2
    go_wp2_with fail
    go_ret2
    refine⟨?_,(HB1.out.trans (HB.out.mono (by have:=HB1.out.size;omega))).alloc (by have:=HB1.out.size;have:=HB.out.size;omega) _⟩
    unfold GV
    rw[HE.out,HKA.out]
    rfl
   ·have hne:((nameAt r).toList==s.toList)=false:=by
     rw[beq_eq_false_iff_ne]
     intro h
     exact he (ByteArray.ext (Array.toList_inj.1 (by rw[←ByteArray.toList_eq,←ByteArray.toList_eq];exact h)))
    have HE:=hid he;clear he
    go_wp2_with fail
    go_roundw
    case rel=>exact⟨r+1,by omega,by go_num,HB.out.alloc HB.out.size _,fun q hq=>(by rcases Nat.lt_succ_iff_lt_or_eq.1 hq with h|h;exact HNO.out q h;exact h▸HE.out)⟩
    case measure=>simp[intOf];omega
  ·have hrr:r=27:=by omega
   have HRR:=hid hrr;clear hrr
   have HE:=hid (Jm (fun q hq=>HNO.out q (by rw[HRR.out];exact hq)))
   go_wp2_with fail
   go_ret2
   refine⟨?_,HB1.out.trans (HB.out.mono (by have:=HB1.out.size;omega))⟩
   unfold GV
   rw[HE.out]
   rfl
def Fld.rX:Fld→UInt8
 | .bI=>109
 | .version=>118
 | .dB=>97
 | .uname=>117
 | .bF=>110
 | .bH=>101
 | .aT=>111
 | .fid=>102
 | .aU=>119
 | .names=>78
 | .aV=>81
 | .qid=>113
 | .mode=>100
 | .aQ=>105
 | .name=>99
 | .perm=>112
 | .offset=>79
 | .count=>67
 | .data=>68
 | .stat=>83
def iQ(k:Nat):ByteArray:=ofL (((bQ k).getD []).map Fld.rX)
theorem FN(k:Nat):k=100∨k=101∨k=102∨k=103∨k=104∨k=105∨k=107∨k=108∨k=109∨k=110∨k=111∨k=112∨k=113∨k=114∨k=115∨k=116∨k=117∨k=118∨k=119∨k=120∨k=121∨k=122∨k=123∨k=124∨k=125∨k=126∨k=127∨bQ k=none:=by
 unfold bQ
 split<;>simp_all
theorem OD{k:Nat}(h:bQ k=none):k≠100∧k≠101∧k≠102∧k≠103∧k≠104∧k≠105∧k≠107∧k≠108∧k≠109∧k≠110∧k≠111∧k≠112∧k≠113∧k≠114∧k≠115∧k≠116∧k≠117∧k≠118∧k≠119∧k≠120∧k≠121∧k≠122∧k≠123∧k≠124∧k≠125∧k≠126∧k≠127:=by
 refine⟨?_, ?_, ?_, ?_, ?_, ?_, ?_, ?_, ?_, ?_, ?_, ?_, ?_, ?_, ?_, ?_, ?_, ?_, ?_, ?_, ?_, ?_, ?_, ?_, ?_, ?_, ?_⟩<;>(rintro rfl;cases h)
theorem Zg{k:Nat}(h:bQ k=none):fO k=[]:=by
 have:=OD h
 unfold fO
 split<;>first|rfl|omega
theorem ZE{k:Nat}{s:List UInt8}(h:fO k=s)(hs:s≠ []):kindOf s=some k:=by
 cases hk:bQ k with
 |none=>exact absurd (h.symm.trans (Zg hk)) hs
 |some fs=>rw[←h];exact(CJ hk).1
theorem Zh{s:List UInt8}(h:∀j,j<28→fO (100+j)=s→s=[]):kindOf s=none:=by
 cases hk:kindOf s with
 |none=>rfl
 |some k=>
  obtain⟨h1,h2,fs,hf⟩:=mM hk
  obtain⟨-, -,h3,h4⟩:=iP hf
  refine absurd (h (k-100) (by omega) ?_) h2
  rw[show 100+(k-100)=k by omega]
  exact h1
theorem Bv(k:Nat)(hk:k<256)(w:World):Calls Tryz.prog 48 #[.int .u8 (k:Int)] w fun e w'=>e= .returned (.tuple #[.string (iQ k),.bool (bQ k).isSome])∧w=w':=by
 rcases FN k with rfl|rfl|rfl|rfl|rfl|rfl|rfl|rfl|rfl|rfl|rfl|rfl|rfl|rfl|rfl|rfl|rfl|rfl|rfl|rfl|rfl|rfl|rfl|rfl|rfl|rfl|rfl|hn
 ·as_aux_lemma=>
   rw[show iQ 100=⟨#[109,118]⟩from rfl,show(bQ 100).isSome=true from rfl]
   change Calls Tryz.prog 48 #[.int .u8 100] w _
   go_enter Tryz.func48,Tryz.ntmps48
   go_wp2_with fail
   refine bodyPost_ret (v:= .tuple #[.string ⟨#[109,118]⟩,.bool true]) (by simp[results,Tryz.results48]) rfl ⟨rfl,rfl⟩
 ·as_aux_lemma=>
   rw[show iQ 101=⟨#[109,118]⟩from rfl,show(bQ 101).isSome=true from rfl]
   change Calls Tryz.prog 48 #[.int .u8 101] w _
   go_enter Tryz.func48,Tryz.ntmps48
   go_wp2_with fail
   refine bodyPost_ret (v:= .tuple #[.string ⟨#[109,118]⟩,.bool true]) (by simp[results,Tryz.results48]) rfl ⟨rfl,rfl⟩
 ·as_aux_lemma=>
   rw[show iQ 102=⟨#[97,117,110]⟩from rfl,show(bQ 102).isSome=true from rfl]
   change Calls Tryz.prog 48 #[.int .u8 102] w _
   go_enter Tryz.func48,Tryz.ntmps48
   go_wp2_with fail
   refine bodyPost_ret (v:= .tuple #[.string ⟨#[97,117,110]⟩,.bool true]) (by simp[results,Tryz.results48]) rfl ⟨rfl,rfl⟩
 ·as_aux_lemma=>
   rw[show iQ 103=⟨#[113]⟩from rfl,show(bQ 103).isSome=true from rfl]
   change Calls Tryz.prog 48 #[.int .u8 103] w _
   go_enter Tryz.func48,Tryz.ntmps48
   go_wp2_with fail
   refine bodyPost_ret (v:= .tuple #[.string ⟨#[113]⟩,.bool true]) (by simp[results,Tryz.results48]) rfl ⟨rfl,rfl⟩
 ·as_aux_lemma=>
   rw[show iQ 104=⟨#[102,97,117,110]⟩from rfl,show(bQ 104).isSome=true from rfl]
   change Calls Tryz.prog 48 #[.int .u8 104] w _
   go_enter Tryz.func48,Tryz.ntmps48
   go_wp2_with fail
   refine bodyPost_ret (v:= .tuple #[.string ⟨#[102,97,117,110]⟩,.bool true]) (by simp[results,Tryz.results48]) rfl ⟨rfl,rfl⟩
 ·as_aux_lemma=>
   rw[show iQ 105=⟨#[113]⟩from rfl,show(bQ 105).isSome=true from rfl]
   change Calls Tryz.prog 48 #[.int .u8 105] w _
   go_enter Tryz.func48,Tryz.ntmps48
   go_wp2_with fail
   refine bodyPost_ret (v:= .tuple #[.string ⟨#[113]⟩,.bool true]) (by simp[results,Tryz.results48]) rfl ⟨rfl,rfl⟩
 ·as_aux_lemma=>
   rw[show iQ 107=⟨#[101]⟩from rfl,show(bQ 107).isSome=true from rfl]
   change Calls Tryz.prog 48 #[.int .u8 107] w _
   go_enter Tryz.func48,Tryz.ntmps48
   go_wp2_with fail
   refine bodyPost_ret (v:= .tuple #[.string ⟨#[101]⟩,.bool true]) (by simp[results,Tryz.results48]) rfl ⟨rfl,rfl⟩
 ·as_aux_lemma=>
   rw[show iQ 108=⟨#[111]⟩from rfl,show(bQ 108).isSome=true from rfl]
   change Calls Tryz.prog 48 #[.int .u8 108] w _
   go_enter Tryz.func48,Tryz.ntmps48
   go_wp2_with fail
   refine bodyPost_ret (v:= .tuple #[.string ⟨#[111]⟩,.bool true]) (by simp[results,Tryz.results48]) rfl ⟨rfl,rfl⟩
 ·as_aux_lemma=>
   rw[show iQ 109=⟨#[]⟩from rfl,show(bQ 109).isSome=true from rfl]
   change Calls Tryz.prog 48 #[.int .u8 109] w _
   go_enter Tryz.func48,Tryz.ntmps48
   go_wp2_with fail
   refine bodyPost_ret (v:= .tuple #[.string ⟨#[]⟩,.bool true]) (by simp[results,Tryz.results48]) rfl ⟨rfl,rfl⟩
 ·as_aux_lemma=>
   rw[show iQ 110=⟨#[102,119,78]⟩from rfl,show(bQ 110).isSome=true from rfl]
   change Calls Tryz.prog 48 #[.int .u8 110] w _
   go_enter Tryz.func48,Tryz.ntmps48
   go_wp2_with fail
   refine bodyPost_ret (v:= .tuple #[.string ⟨#[102,119,78]⟩,.bool true]) (by simp[results,Tryz.results48]) rfl ⟨rfl,rfl⟩
 ·as_aux_lemma=>
   rw[show iQ 111=⟨#[81]⟩from rfl,show(bQ 111).isSome=true from rfl]
   change Calls Tryz.prog 48 #[.int .u8 111] w _
   go_enter Tryz.func48,Tryz.ntmps48
   go_wp2_with fail
   refine bodyPost_ret (v:= .tuple #[.string ⟨#[81]⟩,.bool true]) (by simp[results,Tryz.results48]) rfl ⟨rfl,rfl⟩
 ·as_aux_lemma=>
   rw[show iQ 112=⟨#[102,100]⟩from rfl,show(bQ 112).isSome=true from rfl]
   change Calls Tryz.prog 48 #[.int .u8 112] w _
   go_enter Tryz.func48,Tryz.ntmps48
   go_wp2_with fail
   refine bodyPost_ret (v:= .tuple #[.string ⟨#[102,100]⟩,.bool true]) (by simp[results,Tryz.results48]) rfl ⟨rfl,rfl⟩
 ·as_aux_lemma=>
   rw[show iQ 113=⟨#[113,105]⟩from rfl,show(bQ 113).isSome=true from rfl]
   change Calls Tryz.prog 48 #[.int .u8 113] w _
   go_enter Tryz.func48,Tryz.ntmps48
   go_wp2_with fail
   refine bodyPost_ret (v:= .tuple #[.string ⟨#[113,105]⟩,.bool true]) (by simp[results,Tryz.results48]) rfl ⟨rfl,rfl⟩
 ·as_aux_lemma=>
   rw[show iQ 114=⟨#[102,99,112,100]⟩from rfl,show(bQ 114).isSome=true from rfl]
   change Calls Tryz.prog 48 #[.int .u8 114] w _
   go_enter Tryz.func48,Tryz.ntmps48
   go_wp2_with fail
   refine bodyPost_ret (v:= .tuple #[.string ⟨#[102,99,112,100]⟩,.bool true]) (by simp[results,Tryz.results48]) rfl ⟨rfl,rfl⟩
 ·as_aux_lemma=>
   rw[show iQ 115=⟨#[113,105]⟩from rfl,show(bQ 115).isSome=true from rfl]
   change Calls Tryz.prog 48 #[.int .u8 115] w _
   go_enter Tryz.func48,Tryz.ntmps48
   go_wp2_with fail
   refine bodyPost_ret (v:= .tuple #[.string ⟨#[113,105]⟩,.bool true]) (by simp[results,Tryz.results48]) rfl ⟨rfl,rfl⟩
 ·as_aux_lemma=>
   rw[show iQ 116=⟨#[102,79,67]⟩from rfl,show(bQ 116).isSome=true from rfl]
   change Calls Tryz.prog 48 #[.int .u8 116] w _
   go_enter Tryz.func48,Tryz.ntmps48
   go_wp2_with fail
   refine bodyPost_ret (v:= .tuple #[.string ⟨#[102,79,67]⟩,.bool true]) (by simp[results,Tryz.results48]) rfl ⟨rfl,rfl⟩
 ·as_aux_lemma=>
   rw[show iQ 117=⟨#[68]⟩from rfl,show(bQ 117).isSome=true from rfl]
   change Calls Tryz.prog 48 #[.int .u8 117] w _
   go_enter Tryz.func48,Tryz.ntmps48
   go_wp2_with fail
   refine bodyPost_ret (v:= .tuple #[.string ⟨#[68]⟩,.bool true]) (by simp[results,Tryz.results48]) rfl ⟨rfl,rfl⟩
 ·as_aux_lemma=>
   rw[show iQ 118=⟨#[102,79,68]⟩from rfl,show(bQ 118).isSome=true from rfl]
   change Calls Tryz.prog 48 #[.int .u8 118] w _
   go_enter Tryz.func48,Tryz.ntmps48
   go_wp2_with fail
   refine bodyPost_ret (v:= .tuple #[.string ⟨#[102,79,68]⟩,.bool true]) (by simp[results,Tryz.results48]) rfl ⟨rfl,rfl⟩
 ·as_aux_lemma=>
   rw[show iQ 119=⟨#[67]⟩from rfl,show(bQ 119).isSome=true from rfl]
   change Calls Tryz.prog 48 #[.int .u8 119] w _
   go_enter Tryz.func48,Tryz.ntmps48
   go_wp2_with fail
   refine bodyPost_ret (v:= .tuple #[.string ⟨#[67]⟩,.bool true]) (by simp[results,Tryz.results48]) rfl ⟨rfl,rfl⟩
 ·as_aux_lemma=>
   rw[show iQ 120=⟨#[102]⟩from rfl,show(bQ 120).isSome=true from rfl]
   change Calls Tryz.prog 48 #[.int .u8 120] w _
   go_enter Tryz.func48,Tryz.ntmps48
   go_wp2_with fail
   refine bodyPost_ret (v:= .tuple #[.string ⟨#[102]⟩,.bool true]) (by simp[results,Tryz.results48]) rfl ⟨rfl,rfl⟩
 ·as_aux_lemma=>
   rw[show iQ 121=⟨#[]⟩from rfl,show(bQ 121).isSome=true from rfl]
   change Calls Tryz.prog 48 #[.int .u8 121] w _
   go_enter Tryz.func48,Tryz.ntmps48
   go_wp2_with fail
   refine bodyPost_ret (v:= .tuple #[.string ⟨#[]⟩,.bool true]) (by simp[results,Tryz.results48]) rfl ⟨rfl,rfl⟩
 ·as_aux_lemma=>
   rw[show iQ 122=⟨#[102]⟩from rfl,show(bQ 122).isSome=true from rfl]
   change Calls Tryz.prog 48 #[.int .u8 122] w _
   go_enter Tryz.func48,Tryz.ntmps48
   go_wp2_with fail
   refine bodyPost_ret (v:= .tuple #[.string ⟨#[102]⟩,.bool true]) (by simp[results,Tryz.results48]) rfl ⟨rfl,rfl⟩
 ·as_aux_lemma=>
   rw[show iQ 123=⟨#[]⟩from rfl,show(bQ 123).isSome=true from rfl]
   change Calls Tryz.prog 48 #[.int .u8 123] w _
   go_enter Tryz.func48,Tryz.ntmps48
   go_wp2_with fail
   refine bodyPost_ret (v:= .tuple #[.string ⟨#[]⟩,.bool true]) (by simp[results,Tryz.results48]) rfl ⟨rfl,rfl⟩
 ·as_aux_lemma=>
   rw[show iQ 124=⟨#[102]⟩from rfl,show(bQ 124).isSome=true from rfl]
   change Calls Tryz.prog 48 #[.int .u8 124] w _
   go_enter Tryz.func48,Tryz.ntmps48
   go_wp2_with fail
   refine bodyPost_ret (v:= .tuple #[.string ⟨#[102]⟩,.bool true]) (by simp[results,Tryz.results48]) rfl ⟨rfl,rfl⟩
 ·as_aux_lemma=>
   rw[show iQ 125=⟨#[83]⟩from rfl,show(bQ 125).isSome=true from rfl]
   change Calls Tryz.prog 48 #[.int .u8 125] w _
   go_enter Tryz.func48,Tryz.ntmps48
   go_wp2_with fail
   refine bodyPost_ret (v:= .tuple #[.string ⟨#[83]⟩,.bool true]) (by simp[results,Tryz.results48]) rfl ⟨rfl,rfl⟩
 ·as_aux_lemma=>
   rw[show iQ 126=⟨#[102,83]⟩from rfl,show(bQ 126).isSome=true from rfl]
   change Calls Tryz.prog 48 #[.int .u8 126] w _
   go_enter Tryz.func48,Tryz.ntmps48
   go_wp2_with fail
   refine bodyPost_ret (v:= .tuple #[.string ⟨#[102,83]⟩,.bool true]) (by simp[results,Tryz.results48]) rfl ⟨rfl,rfl⟩
 ·as_aux_lemma=>
   rw[show iQ 127=⟨#[]⟩from rfl,show(bQ 127).isSome=true from rfl]
   change Calls Tryz.prog 48 #[.int .u8 127] w _
   go_enter Tryz.func48,Tryz.ntmps48
   go_wp2_with fail
   refine bodyPost_ret (v:= .tuple #[.string ⟨#[]⟩,.bool true]) (by simp[results,Tryz.results48]) rfl ⟨rfl,rfl⟩
 ·as_aux_lemma=>
   rw[show iQ k=⟨#[]⟩from by unfold iQ;rw[hn];rfl,show(bQ k).isSome=false from by rw[hn];rfl]
   obtain⟨VH,VI,VJ,VK,VL,VN,VO,VP,VQ,VR,VT,h112,VU,VW,VX,h116,VY,VZ,h119,PN,V3,h122,V4,V5,V6,V7,h127⟩:=OD hn
   have Xk:((k:Int)==100)=false:=by rw[beq_eq_false_iff_ne];omega
   have Xl:((k:Int)==101)=false:=by rw[beq_eq_false_iff_ne];omega
   have Xm:((k:Int)==102)=false:=by rw[beq_eq_false_iff_ne];omega
   have Xn:((k:Int)==103)=false:=by rw[beq_eq_false_iff_ne];omega
   have Xo:((k:Int)==104)=false:=by rw[beq_eq_false_iff_ne];omega
   have Xp:((k:Int)==105)=false:=by rw[beq_eq_false_iff_ne];omega
   have Xq:((k:Int)==107)=false:=by rw[beq_eq_false_iff_ne];omega
   have Xr:((k:Int)==108)=false:=by rw[beq_eq_false_iff_ne];omega
   have Xt:((k:Int)==109)=false:=by rw[beq_eq_false_iff_ne];omega
   have Xu:((k:Int)==110)=false:=by rw[beq_eq_false_iff_ne];omega
   have Xv:((k:Int)==111)=false:=by rw[beq_eq_false_iff_ne];omega
   have Xw:((k:Int)==112)=false:=by rw[beq_eq_false_iff_ne];omega
   have Xx:((k:Int)==113)=false:=by rw[beq_eq_false_iff_ne];omega
   have Xy:((k:Int)==114)=false:=by rw[beq_eq_false_iff_ne];omega
   have Xz:((k:Int)==115)=false:=by rw[beq_eq_false_iff_ne];omega
   have XA:((k:Int)==116)=false:=by rw[beq_eq_false_iff_ne];omega
   have XB:((k:Int)==117)=false:=by rw[beq_eq_false_iff_ne];omega
   have XC:((k:Int)==118)=false:=by rw[beq_eq_false_iff_ne];omega
   have XD:((k:Int)==119)=false:=by rw[beq_eq_false_iff_ne];omega
   have XE:((k:Int)==120)=false:=by rw[beq_eq_false_iff_ne];omega
   have XF:((k:Int)==121)=false:=by rw[beq_eq_false_iff_ne];omega
   have XG:((k:Int)==122)=false:=by rw[beq_eq_false_iff_ne];omega
   have XH:((k:Int)==123)=false:=by rw[beq_eq_false_iff_ne];omega
   have XI:((k:Int)==124)=false:=by rw[beq_eq_false_iff_ne];omega
   have XJ:((k:Int)==125)=false:=by rw[beq_eq_false_iff_ne];omega
   have XK:((k:Int)==126)=false:=by rw[beq_eq_false_iff_ne];omega
   have XL:((k:Int)==127)=false:=by rw[beq_eq_false_iff_ne];omega
   clear VH VI VJ VK VL VN VO VP VQ VR VT h112 VU VW VX h116 VY VZ h119 PN V3 h122 V4 V5 V6 V7 h127
   have hw:wrap64 (k:Int)=(k:Int):=IntWalk.wrap64_in _ (by omega)
   go_enter Tryz.func48,Tryz.ntmps48
   go_wp2_with fail
   refine bodyPost_ret (v:= .tuple #[.string ⟨#[]⟩,.bool false]) (by simp[results,Tryz.results48]) rfl ⟨rfl,rfl⟩
def Yp:List ByteArray:=[⟨#[118,101,114,115,105,111,110]⟩,⟨#[97,117,116,104]⟩,⟨#[97,116,116,97,99,104]⟩,⟨#[101,114,114,111,114]⟩,⟨#[102,108,117,115,104]⟩,⟨#[119,97,108,107]⟩,⟨#[111,112,101,110]⟩,⟨#[99,114,101,97,116,101]⟩,⟨#[114,101,97,100]⟩,⟨#[119,114,105,116,101]⟩,⟨#[99,108,117,110,107]⟩,⟨#[114,101,109,111,118,101]⟩,⟨#[115,116,97,116]⟩,⟨#[119,115,116,97,116]⟩]
def aag(k:Nat):ByteArray:=if k%2=0 then⟨#[84]⟩else⟨#[82]⟩
theorem ZQ{k:Nat}{fs:List Fld}(h:bQ k=some fs):100≤k∧k<128∧∃x,Yp[(k-100)/2]? =some x∧x.size≤10∧aag k++x=ofL (fO k):=by
 rcases FN k with rfl|rfl|rfl|rfl|rfl|rfl|rfl|rfl|rfl|rfl|rfl|rfl|rfl|rfl|rfl|rfl|rfl|rfl|rfl|rfl|rfl|rfl|rfl|rfl|rfl|rfl|rfl|hn
 all_goals first
  |exact⟨by decide,by decide,_,rfl,by decide,by kernel_rfl⟩
  |(rw[hn]at h;cases h)
theorem YW(k:Nat)(hk:k<256)(w:World):Calls Tryz.prog 36 #[.int .u8 (k:Int)] w fun e w'=>e= .returned (.string (ofL (fO k)))∧Below w.heap.size w w':=by
 have hup:Below w.heap.size w (w.alloc (.cells (h_ Yp).toArray 9)):=(Below.refl _ _).alloc (Nat.le_refl _) _
 have HUP:=hid hup
 have HN:=hid (Blk.new w 9 (h_ Yp).toArray)
 have ZY:=hid (fun w1=>Bv k hk w1)
 clear hup
 go_enter Tryz.func36,Tryz.ntmps36
 go_upto_region 2 with(fail)
 change Code.wp _ _ _ _ (w.alloc (.cells (h_ Yp).toArray 9))
 generalize w.alloc (.cells (h_ Yp).toArray 9)=w1 at HUP HN⊢
 generalize hz:w.heap.size=z at HN⊢
 have HZ:=hid hz
 clear hz
 go_wp2_with fail
 refine(ZY.out w1).mono ?_
 rintro e w' ⟨rfl,rfl⟩
 clear ZY
 cases hf:bQ k with
 |none=>
  rw[show(none:Option (List Fld)).isSome=false from rfl]
  have HR:=hid (Zg hf)
  clear hf
  go_wp2_with fail
  refine bodyPost_ret (v:= .string ⟨#[]⟩) (by simp[results,Tryz.results36]) rfl ⟨by rw[HR.out];rfl, ?_⟩
  exact HUP.out
 |some fs=>
  obtain⟨h1,h2,x,hx,hxs,hr⟩:=ZQ hf
  rw[show(some fs:Option (List Fld)).isSome=true from rfl]
  have HR:=hid hr
  have kx:w1.cell? ⟨z,(k-100)/2,none⟩=some (.string x):=(Blk.cell HN.out ((k-100)/2)).trans (by rw[List.getElem?_toArray,h_,List.getElem?_map,hx];rfl)
  have hw0:wrap64 (k:Int)=(k:Int):=IntWalk.wrap64_in _ (by omega)
  have hw1:(k:Int)-100=(((k-100:Nat)):Int):=by omega
  generalize hn:k-100=n at*
  have hnl:n<28:=by omega
  obtain⟨P,hP⟩:∃P,P=aag k++x:=⟨_,rfl⟩
  rw[←hP]at HR
  clear hf hx hr
  by_cases hpar:k%2=0
  ·have hm:Int.tmod ((k:Int)-100) 2=0:=by rw[hw1];show((n%2:Nat):Int)=0;omega
   have hq:Int.tdiv ((k:Int)-100) 2=((n/2:Nat):Int):=by rw[hw1];rfl
   have hlt:n/2<14:=by omega
   have ha:∀w,(Op.stringOp .add (⟨#[84]⟩:ByteArray) x).run Tryz.prog w= .ok (.string P) w:=fun w=>by
    rw[hP,aag,if_pos hpar]
    exact run_string_add_sum w _ _ (by have:(⟨#[84]⟩:ByteArray).size=1:=rfl;omega)
   have hk1:100≤k∧k<128:=by omega
   have h1:=hk1.1
   have h2:=hk1.2
   clear hP hpar hn hw1 hk1
   generalize n/2=q at*
   go_wp2_with fail
   refine bodyPost_ret (v:= .string P) (by simp[results,Tryz.results36]) rfl ⟨by rw[HR.out], ?_⟩
   exact HUP.out
  ·have hm:Int.tmod ((k:Int)-100) 2=1:=by rw[hw1];show((n%2:Nat):Int)=1;omega
   have hq:Int.tdiv ((k:Int)-100) 2=((n/2:Nat):Int):=by rw[hw1];rfl
   have hlt:n/2<14:=by omega
   have ha:∀w,(Op.stringOp .add (⟨#[82]⟩:ByteArray) x).run Tryz.prog w= .ok (.string P) w:=fun w=>by
    rw[hP,aag,if_neg hpar]
    exact run_string_add_sum w _ _ (by have:(⟨#[82]⟩:ByteArray).size=1:=rfl;omega)
   have hk1:100≤k∧k<128:=by omega
   have h1:=hk1.1
   have h2:=hk1.2
   clear hP hpar hn hw1 hk1
   generalize n/2=q at*
   go_wp2_with fail
   refine bodyPost_ret (v:= .string P) (by simp[results,Tryz.results36]) rfl ⟨by rw[HR.out], ?_⟩
   exact HUP.out
theorem YX(s:ByteArray)(w:World):Calls Tryz.prog 38 #[.string s] w fun e w'=>GV s e∧Below w.heap.size w w':=by
 go_enter Tryz.func38,Tryz.ntmps38
 go_upto_region 2 with(fail)
 go_loopw [4,5] (fun i _ wr=>∃k:Nat,k≤28∧i= .int .i64 ((100+k:Nat):Int)∧Below w.heap.size w wr∧∀j,j<k→fO (100+j)=s.data.toList→s.data.toList=[]) (fun i _ _=>28-((intOf i).toNat-100))
 case atStart=>exact⟨0,by omega,rfl,Below.refl _ _,fun j hj=>absurd hj (Nat.not_lt_zero j)⟩
 case round=>
  obtain⟨k,hk,rfl,hb,hno⟩:=hrel
  have HB:=hid hb
  have HNO:=hid hno
  clear hb hno
  by_cases hlt:k<28
  ·have hw8:IntKind.u8.wrap ((100+k:Nat):Int)=((100+k:Nat):Int):=by rw[IntKind.wrap_u8];omega
   have hw64:wrap64 (((100+k:Nat):Int)+1)=((100+(k+1):Nat):Int):=by rw[IntWalk.wrap64_in _ (by omega)];omega
   have hlk:((100+k:Nat):Int)<128:=by omega
   have HNM:=hid (fun w=>YW (100+k) (by omega) w)
   obtain⟨X,hX⟩:∃X,X=ofL (fO (100+k)):=⟨_,rfl⟩
   have HX:=hid (show X.data.toList=fO (100+k)from by rw[hX];simp[ofL])
   rw[←hX]at HNM
   clear hX
   generalize hn:100+k=n at*
   have HN:=hid hn
   clear hn
   go_wp2_with fail
   refine(HNM.out wr).mono ?_
   rintro e w2 ⟨rfl,hb⟩
   have HB2:=hid (HB.out.trans (hb.mono HB.out.size))
   clear hb HNM
   by_cases he:X.toList=[]
   ·have he0:(X.toList== [])=true:=by rw[beq_iff_eq];exact he
    have he1:X.toList.isEmpty=true:=by rw[he];rfl
    have HE:=hid he
    clear he
    go_wp2_with fail
    go_roundw
    case rel=>
     refine⟨k+1,by omega,by have:=HN.out;congr 1;omega,HB2.out,fun j hj hjs=> ?_⟩
     rcases Nat.lt_succ_iff_lt_or_eq.1 hj with h|h
     ·exact HNO.out j h hjs
     ·rw[h,HN.out,←HX.out,←ByteArray.toList_eq,HE.out]at hjs
      exact hjs.symm
    case measure=>have:=HN.out;simp[intOf];omega
   ·have he0:(X.toList== [])=false:=by rw[beq_eq_false_iff_ne];exact he
    have he1:X.toList.isEmpty=false:=by cases h:X.toList with|nil=>exact absurd h he|cons _ _=>rfl
    have HE:=hid he
    clear he
    by_cases hxs:X=s
    ·have HXS:=hid hxs
     subst hxs
     go_wp2_with fail
     refine bodyPost_ret (v:= .tuple #[.int .u8 (n:Int),.bool true]) (by simp[results,Tryz.results38]) rfl ⟨?_, ?_⟩
     ·unfold GV
      rw[ZE HX.out.symm (by rw[←ByteArray.toList_eq];exact HE.out)]
     ·exact HB2.out
    ·have hxq:(X.toList==s.toList)=false:=by rw[Nv];exact decide_eq_false hxs
     have HXS:=hid hxs
     clear hxs
     go_wp2_with fail
     go_roundw
     case rel=>
      refine⟨k+1,by omega,by have:=HN.out;congr 1;omega,HB2.out,fun j hj hjs=> ?_⟩
      rcases Nat.lt_succ_iff_lt_or_eq.1 hj with h|h
      ·exact HNO.out j h hjs
      ·rw[h,HN.out,←HX.out]at hjs
       exact absurd (ByteArray.ext (Array.toList_inj.1 hjs)) HXS.out
     case measure=>have:=HN.out;simp[intOf];omega
  ·have hkk:k=28:=by omega
   subst hkk
   have HKO:=hid (Zh HNO.out)
   clear hlt hk
   go_wp2_with fail
   refine bodyPost_ret (v:= .tuple #[.int .u8 0,.bool false]) (by simp[results,Tryz.results38]) rfl ⟨?_, ?_⟩
   ·unfold GV
    rw[HKO.out]
   ·exact HB.out
end Go.Proofs.YtkblmloobkiloaaGreatDoor
