/-
  MPA MPB: what the laws of package msg need of them.
-/
import Derived.Test.YtkblmloobkiloaaGreatDoorF00
import Derived.Test.YtkblmloobkiloaaGreatDoorF19
import Derived.Test.YtkblmloobkiloaaGreatDoorF12
import Derived.Test.YtkblmloobkiloaaGreatDoorF13
set_option maxRecDepth 100000
set_option maxHeartbeats 1600000
namespace Go.Proofs.YtkblmloobkiloaaGreatDoor
open Go.Lib (hid)
open Go.RowKit
theorem ScS.noT{w:World}{p:Nat}{s:ByteArray}{a:Nat}{e:TypeId}(h:ScS w p s a)(he:114≠e):∀g cur fr,g=p→w.heap[g]? ≠some (Obj.cells cur e fr):=h.1.noT he
theorem ScS.ne{w:World}{p q:Nat}{s:ByteArray}{a:Nat}{t:TypeId}{cs:Array Value}(h:ScS w p s a)(hm:Blk w q t cs)(ht:114≠t):p≠q:=fun e=>h.noT ht q _ _ e.symm hm
theorem OL.sc{w w':World}{p base:Nat}{m:Mg}{vn vq vd:Value}{s:ByteArray}{a:Nat}(h:OL w base m vn vq vd)(hr:ScS w p s a)(ho:Off (fun i=>i=p) w w'):OL w' base m vn vq vd:=
 h.off ho fun i cur fr e hS he=>by
  rcases he with rfl|rfl|rfl<;>exact hr.noT (by decide) i cur fr hS
def bY(p q base:Nat)(s:ByteArray)(r:Except Nat (Mg×List UInt8))(w:World)(e:Ending)(w':World):Prop:=
 Off (fun i=>i=p∨i=q) w w'∧match r with
  | .ok (m,l)=>e= .returned (.tuple #[])∧(∃vn vq vd,aK w' q m vn vq vd∧OL w' base m vn vq vd)∧∃a,ScS w' p s a∧s.data.toList.drop a=l
  | .error n=>e= .panicked [{v:= .iface 111 (.int .i64 ((s.size:Int)-(n:Int))),recovered:=false}]
theorem bY.end_{w w1 w':World}{p q base a:Nat}{s:ByteArray}{vn vq vd xn xq xd:Value}{l:List UInt8}{m m':Mg}{r:Except Nat (Mg×List UInt8)}(hr:r= .ok (m',l))(h:ScS w1 p s a)(hd:s.data.toList.drop a=l)(hm:aK w1 q m vn vq vd)(ho:OL w1 base m' xn xq xd)(h1:Off (fun i=>i=p) w w1)(hb:aK w' q m' xn xq xd)(hoff:Off (fun i=>i=q) w1 w'):bY p q base s r w (.returned (.tuple #[])) w':=by
 subst hr
 exact⟨(h1.mono fun _ _ h=> .inl h).trans (hoff.mono fun _ _ h=> .inr h),rfl,⟨xn,xq,xd,hb,ho.qp hm hoff⟩,a,h.off hoff (h.ne hm (by decide)),hd⟩
theorem bY.no{w w1:World}{p q base n:Nat}{s:ByteArray}{r:Except Nat (Mg×List UInt8)}(hr:r= .error n)(h1:Off (fun i=>i=p) w w1):bY p q base s r w (.panicked [{v:= .iface 111 (.int .i64 ((s.size:Int)-(n:Int))),recovered:=false}]) w1:=by
 subst hr
 exact⟨h1.mono fun _ _ h=> .inl h,rfl⟩
theorem eY{α β:Type}{r:Except Nat α}{n:Nat}(f:α→β)(h:r= .error n):r.map f= .error n:=by rw[h];rfl
theorem fB{α β:Type}{r:Except Nat α}{x:α}(f:α→β)(h:r= .ok x):r.map f= .ok (f x):=by rw[h];rfl
theorem jg{w:World}{p q b o K at_:Nat}{s:ByteArray}{old:Value}(hse:SE w)(hrd:Ready w)(h8:8≤p)(hent:∀args w,Sem.run Tryz.prog (callFunc K args) w= .ok (.enter K args) w)(hat:∀w,Calls Tryz.prog K #[.pointer (some ⟨q,0,none⟩)] w fun e w'=>e= .returned (.pointer (some ⟨q,o,none⟩))∧w=w')(hc:Blk w b 135 #[fv K #[]])(hk:∀w',Off (fun i=>i=p) w w'→w'.cell? ⟨q,o,none⟩=some old∧w'.frozen? ⟨q,o,none⟩=false)(h:ScS w p s at_):
  Calls Tryz.prog 131 #[.pointer (some ⟨p,0,none⟩),.pointer (some ⟨q,0,none⟩),.pointer (some ⟨b,0,none⟩)] w fun e w'=>(∃n,fZ 4294967295 (s.data.toList.drop at_)= .error n∧e= .panicked [{v:= .iface 111 (.int .i64 ((s.size:Int)-(n:Int))),recovered:=false}]∧Off (fun i=>i=p) w w')∨(∃x l a w1,fZ 4294967295 (s.data.toList.drop at_)= .ok (x,l)∧e= .returned (.tuple #[])∧Off (fun i=>i=p) w w1∧ScS w1 p s a∧s.data.toList.drop a=l∧w'=w1.setCell ⟨q,o,none⟩ (.int .u32 (x:Int))):=by
 have HAT:=hid (hat w)
 have HP:=hid (dO 4294967295 (by decide) hse h8 hrd.eight h)
 have HK:=hid hk
 have kb:w.cell? ⟨b,0,none⟩=_:=hc.cell 0
 clear hat hc h hk hse hrd h8
 go_enter Tryz.func131,Tryz.ntmps131
 go_wp2_with fail
 refine HAT.out.mono ?_
 rintro e w' ⟨rfl,rfl⟩
 go_wp2_with fail
 refine HP.out.mono ?_
 rintro e w1 hr
 rcases hr.get with⟨n,hp,rfl,ho⟩|⟨x,l,a,hp,rfl,ho,hs,hd⟩
 ·have HR:=hid hp
  have HO:=hid ho
  clear hp ho hr
  go_wp2_with fail
  exact⟨rfl,.inl ⟨n,HR.out,rfl,HO.out⟩⟩
 ·have HR:=hid hp
  have HS:=hid (And.intro ho (And.intro hs hd))
  have hx:=jU hp
  have hwv:IntKind.u32.wrap (x:Int)=(x:Int):=by rw[IntKind.wrap_u32];omega
  obtain⟨k0,z0⟩:=HK.out w1 ho
  clear hp ho hr hs hd
  go_wp2_with fail
  go_end0
  exact .inr ⟨x,l,a,w1,HR.out,rfl,HS.out.1,HS.out.2.1,HS.out.2.2,rfl⟩
theorem lG{w:World}{p q b o K at_:Nat}{s:ByteArray}{old:Value}(hse:SE w)(hrd:Ready w)(h8:8≤p)(hent:∀args w,Sem.run Tryz.prog (callFunc K args) w= .ok (.enter K args) w)(hat:∀w,Calls Tryz.prog K #[.pointer (some ⟨q,0,none⟩)] w fun e w'=>e= .returned (.pointer (some ⟨q,o,none⟩))∧w=w')(hc:Blk w b 138 #[fv K #[]])(hk:∀w',Off (fun i=>i=p) w w'→w'.cell? ⟨q,o,none⟩=some old∧w'.frozen? ⟨q,o,none⟩=false)(h:ScS w p s at_):
  Calls Tryz.prog 141 #[.pointer (some ⟨p,0,none⟩),.pointer (some ⟨q,0,none⟩),.pointer (some ⟨b,0,none⟩)] w fun e w'=>(∃n,dJ (s.data.toList.drop at_)= .error n∧e= .panicked [{v:= .iface 111 (.int .i64 ((s.size:Int)-(n:Int))),recovered:=false}]∧Off (fun i=>i=p) w w')∨(∃x l a w1,dJ (s.data.toList.drop at_)= .ok (x,l)∧e= .returned (.tuple #[])∧Off (fun i=>i=p) w w1∧ScS w1 p s a∧s.data.toList.drop a=l∧w'=w1.setCell ⟨q,o,none⟩ (.string x)):=by
 have HAT:=hid (hat w)
 have HP:=hid (lQ hrd h8 h)
 have HK:=hid hk
 have kb:w.cell? ⟨b,0,none⟩=_:=hc.cell 0
 clear hat hc h hk hse hrd h8
 go_enter Tryz.func141,Tryz.ntmps141
 go_wp2_with fail
 refine HAT.out.mono ?_
 rintro e w' ⟨rfl,rfl⟩
 go_wp2_with fail
 refine HP.out.mono ?_
 rintro e w1 hr
 rcases hr.get with⟨n,hp,rfl,ho⟩|⟨x,l,a,hp,rfl,ho,hs,hd⟩
 ·have HR:=hid hp
  have HO:=hid ho
  clear hp ho hr
  go_wp2_with fail
  exact⟨rfl,.inl ⟨n,HR.out,rfl,HO.out⟩⟩
 ·have HR:=hid hp
  have HS:=hid (And.intro ho (And.intro hs hd))
  obtain⟨k0,z0⟩:=HK.out w1 ho
  clear hp ho hr hs hd
  go_wp2_with fail
  go_end0
  exact .inr ⟨x,l,a,w1,HR.out,rfl,HS.out.1,HS.out.2.1,HS.out.2.2,rfl⟩
theorem DJ{w:World}{p q base at_:Nat}{m:Mg}{vn vq vd:Value}{s:ByteArray}(hse:SE w)(hrd:Ready w)(h8:8≤p)(hm:aK w q m vn vq vd)(ho:OL w base m vn vq vd)(hbase:base≤w.heap.size)(h:ScS w p s at_):
  Calls Tryz.prog 147 #[.pointer (some ⟨p,0,none⟩),.pointer (some ⟨q,0,none⟩)] w (bY p q base s (pF m (s.data.toList.drop at_) .aT) w):=by
 have hmf:=iF
 have HP:=hid (dO 65535 (by decide) hse h8 hrd.eight h)
 have HNE:=hid (h.ne hm (by decide))
 have HM:=hid hm
 have HOL:=hid (And.intro ho h)
 have HBA:=hid hbase
 clear hm ho h hbase hse hrd h8
 go_enter Tryz.func147,Tryz.ntmps147
 go_wp2_with fail
 refine HP.out.mono ?_
 rintro e w1 hr
 rcases hr.get with⟨n,hp,rfl,ho⟩|⟨x,l,a,hp,rfl,ho,hs,hd⟩
 ·have HR:=hid (eY (fun p:Nat×List UInt8=>(m.aG p.1 .aT,p.2)) hp)
  have HO:=hid ho
  clear hp ho hr
  go_wp2_with fail
  exact⟨rfl,bY.no HR.out HO.out⟩
 have HR:=hid (fB (fun p:Nat×List UInt8=>(m.aG p.1 .aT,p.2)) hp)
 have HM1:=hid (ho.blk HM.out (fun h=>HNE.out h.symm))
 have gV:=hid (HOL.out.1.sc HOL.out.2 ho)
 have HS:=hid (And.intro ho (And.intro hs hd))
 have hx:=jU hp
 have hwv:IntKind.u16.wrap (x:Int)=(x:Int):=by rw[IntKind.wrap_u16];omega
 have k0:w1.cell? ⟨q,8,none⟩=some (.int .u16 (m.aT:Int)):=Blk.cell HM1.out 8
 have z0:w1.frozen? ⟨q,8,none⟩=false:=Blk.frozen HM1.out 8
 clear hp ho hr hs hd
 go_wp2_with fail
 go_end0
 exact bY.end_ HR.out HS.out.2.1 HS.out.2.2 HM1.out ⟨gV.out.n,gV.out.q,gV.out.d⟩ HS.out.1 (aK.aW HM1.out _ _ (xg ..)) (bM ..)
theorem Ji{w:World}{p q base at_:Nat}{m:Mg}{vn vq vd:Value}{s:ByteArray}(hse:SE w)(hrd:Ready w)(h8:8≤p)(hm:aK w q m vn vq vd)(ho:OL w base m vn vq vd)(hbase:base≤w.heap.size)(h:ScS w p s at_):
  Calls Tryz.prog 152 #[.pointer (some ⟨p,0,none⟩),.pointer (some ⟨q,0,none⟩)] w (bY p q base s (pF m (s.data.toList.drop at_) .mode) w):=by
 have hmf:=iF
 have HP:=hid (dO 255 (by decide) hse h8 hrd.eight h)
 have HNE:=hid (h.ne hm (by decide))
 have HM:=hid hm
 have HOL:=hid (And.intro ho h)
 have HBA:=hid hbase
 clear hm ho h hbase hse hrd h8
 go_enter Tryz.func152,Tryz.ntmps152
 go_wp2_with fail
 refine HP.out.mono ?_
 rintro e w1 hr
 rcases hr.get with⟨n,hp,rfl,ho⟩|⟨x,l,a,hp,rfl,ho,hs,hd⟩
 ·have HR:=hid (eY (fun p:Nat×List UInt8=>(m.aG p.1 .mode,p.2)) hp)
  have HO:=hid ho
  clear hp ho hr
  go_wp2_with fail
  exact⟨rfl,bY.no HR.out HO.out⟩
 have HR:=hid (fB (fun p:Nat×List UInt8=>(m.aG p.1 .mode,p.2)) hp)
 have HM1:=hid (ho.blk HM.out (fun h=>HNE.out h.symm))
 have gV:=hid (HOL.out.1.sc HOL.out.2 ho)
 have HS:=hid (And.intro ho (And.intro hs hd))
 have hx:=jU hp
 have hwv:IntKind.u8.wrap (x:Int)=(x:Int):=by rw[IntKind.wrap_u8];omega
 have k0:w1.cell? ⟨q,16,none⟩=some (.int .u8 (m.mode:Int)):=Blk.cell HM1.out 16
 have z0:w1.frozen? ⟨q,16,none⟩=false:=Blk.frozen HM1.out 16
 clear hp ho hr hs hd
 go_wp2_with fail
 go_end0
 exact bY.end_ HR.out HS.out.2.1 HS.out.2.2 HM1.out ⟨gV.out.n,gV.out.q,gV.out.d⟩ HS.out.1 (aK.aW HM1.out _ _ (Dp ..)) (bM ..)
theorem DK{w:World}{p q base at_:Nat}{m:Mg}{vn vq vd:Value}{s:ByteArray}(hse:SE w)(hrd:Ready w)(h8:8≤p)(hm:aK w q m vn vq vd)(ho:OL w base m vn vq vd)(hbase:base≤w.heap.size)(h:ScS w p s at_):
  Calls Tryz.prog 159 #[.pointer (some ⟨p,0,none⟩),.pointer (some ⟨q,0,none⟩)] w (bY p q base s (pF m (s.data.toList.drop at_) .offset) w):=by
 have hmf:=iF
 have HP:=hid (dO 18446744073709551615 (by decide) hse h8 hrd.eight h)
 have HNE:=hid (h.ne hm (by decide))
 have HM:=hid hm
 have HOL:=hid (And.intro ho h)
 have HBA:=hid hbase
 clear hm ho h hbase hse hrd h8
 go_enter Tryz.func159,Tryz.ntmps159
 go_wp2_with fail
 refine HP.out.mono ?_
 rintro e w1 hr
 rcases hr.get with⟨n,hp,rfl,ho⟩|⟨x,l,a,hp,rfl,ho,hs,hd⟩
 ·have HR:=hid (eY (fun p:Nat×List UInt8=>(m.aG p.1 .offset,p.2)) hp)
  have HO:=hid ho
  clear hp ho hr
  go_wp2_with fail
  exact⟨rfl,bY.no HR.out HO.out⟩
 have HR:=hid (fB (fun p:Nat×List UInt8=>(m.aG p.1 .offset,p.2)) hp)
 have HM1:=hid (ho.blk HM.out (fun h=>HNE.out h.symm))
 have gV:=hid (HOL.out.1.sc HOL.out.2 ho)
 have HS:=hid (And.intro ho (And.intro hs hd))
 have k0:w1.cell? ⟨q,20,none⟩=some (.int .u64 (m.offset:Int)):=Blk.cell HM1.out 20
 have z0:w1.frozen? ⟨q,20,none⟩=false:=Blk.frozen HM1.out 20
 clear hp ho hr hs hd
 go_wp2_with fail
 go_end0
 exact bY.end_ HR.out HS.out.2.1 HS.out.2.2 HM1.out ⟨gV.out.n,gV.out.q,gV.out.d⟩ HS.out.1 (aK.aW HM1.out _ _ (xw ..)) (bM ..)
theorem Jj{w:World}{p q base at_:Nat}{m:Mg}{vn vq vd:Value}{s:ByteArray}(hse:SE w)(hrd:Ready w)(h8:8≤p)(hm:aK w q m vn vq vd)(ho:OL w base m vn vq vd)(hbase:base≤w.heap.size)(h:ScS w p s at_):
  Calls Tryz.prog 168 #[.pointer (some ⟨p,0,none⟩),.pointer (some ⟨q,0,none⟩)] w (bY p q base s (pF m (s.data.toList.drop at_) .data) w):=by
 have hmf:=iF
 have HP:=hid (Fz h)
 have HNE:=hid (h.ne hm (by decide))
 have HM:=hid hm
 have HOL:=hid (And.intro ho h)
 have HBA:=hid hbase
 clear hm ho h hbase hse hrd h8
 go_enter Tryz.func168,Tryz.ntmps168
 go_wp2_with fail
 refine HP.out.mono ?_
 rintro e w1 hr
 rcases hr.get with⟨n,hp,rfl,ho⟩|⟨x,l,a,hp,hv,ho,hs,hd⟩
 ·have HR:=hid (eY (fun p:List UInt8×List UInt8=>({m with data:=p.1},p.2)) hp)
  have HO:=hid ho
  clear hp ho hr
  go_wp2_with fail
  exact⟨rfl,bY.no HR.out HO.out⟩
 have HR:=hid (fB (fun p:List UInt8×List UInt8=>({m with data:=p.1},p.2)) hp)
 have HM1:=hid (ho.blk HM.out (fun h=>HNE.out h.symm))
 have gV:=hid (HOL.out.1.sc HOL.out.2 ho)
 have HS:=hid (And.intro ho (And.intro hs hd))
 obtain⟨v,rfl,hv⟩:=hv
 have HV:=hid (iw hv HBA.out)
 obtain⟨A,cap,rfl,hc,hmx⟩:=aJ hv
 clear hv hc hmx
 have k0:w1.cell? ⟨q,22,none⟩=some vd:=Blk.cell HM1.out 22
 have z0:w1.frozen? ⟨q,22,none⟩=false:=Blk.frozen HM1.out 22
 clear hp ho hr hs hd
 go_wp2_with fail
 go_end0
 exact bY.end_ HR.out HS.out.2.1 HS.out.2.2 HM1.out ⟨gV.out.n,gV.out.q,HV.out⟩ HS.out.1 (aK.aW HM1.out _ _ (xB ..)) (bM ..)
theorem FH{w:World}{p q base at_:Nat}{m:Mg}{vn vq vd:Value}{s:ByteArray}(hse:SE w)(hrd:Ready w)(h8:8≤p)(hm:aK w q m vn vq vd)(ho:OL w base m vn vq vd)(hbase:base≤w.heap.size)(h:ScS w p s at_):
  Calls Tryz.prog 218 #[.pointer (some ⟨p,0,none⟩),.pointer (some ⟨q,0,none⟩)] w (bY p q base s (pF m (s.data.toList.drop at_) .names) w):=by
 have hmf:=iF
 have HP:=hid (yN hse hrd h8 h)
 have HNE:=hid (h.ne hm (by decide))
 have HM:=hid hm
 have HOL:=hid (And.intro ho h)
 have HBA:=hid hbase
 clear hm ho h hbase hse hrd h8
 go_enter Tryz.func218,Tryz.ntmps218
 go_wp2_with fail
 refine HP.out.mono ?_
 rintro e w1 hr
 rcases hr.get with⟨n,hp,rfl,ho⟩|⟨x,l,a,hp,hv,ho,hs,hd⟩
 ·have HR:=hid (eY (fun p:List ByteArray×List UInt8=>({m with names:=p.1},p.2)) hp)
  have HO:=hid ho
  clear hp ho hr
  go_wp2_with fail
  exact⟨rfl,bY.no HR.out HO.out⟩
 have HR:=hid (fB (fun p:List ByteArray×List UInt8=>({m with names:=p.1},p.2)) hp)
 have HM1:=hid (ho.blk HM.out (fun h=>HNE.out h.symm))
 have gV:=hid (HOL.out.1.sc HOL.out.2 ho)
 have HS:=hid (And.intro ho (And.intro hs hd))
 obtain⟨v,rfl,hv⟩:=hv
 have HV:=hid (iw hv HBA.out)
 obtain⟨A,cap,rfl,hc,hmx⟩:=aJ hv
 clear hv hc hmx
 have k0:w1.cell? ⟨q,11,none⟩=some vn:=Blk.cell HM1.out 11
 have z0:w1.frozen? ⟨q,11,none⟩=false:=Blk.frozen HM1.out 11
 clear hp ho hr hs hd
 go_wp2_with fail
 go_end0
 exact bY.end_ HR.out HS.out.2.1 HS.out.2.2 HM1.out ⟨HV.out,gV.out.q,gV.out.d⟩ HS.out.1 (aK.aW HM1.out _ _ (sZ ..)) (bM ..)
theorem Jk{w:World}{p q base at_:Nat}{m:Mg}{vn vq vd:Value}{s:ByteArray}(hse:SE w)(hrd:Ready w)(h8:8≤p)(hm:aK w q m vn vq vd)(ho:OL w base m vn vq vd)(hbase:base≤w.heap.size)(h:ScS w p s at_):
  Calls Tryz.prog 231 #[.pointer (some ⟨p,0,none⟩),.pointer (some ⟨q,0,none⟩)] w (bY p q base s (pF m (s.data.toList.drop at_) .aV) w):=by
 have hmf:=iF
 have HP:=hid (yO hse hrd h8 h)
 have HNE:=hid (h.ne hm (by decide))
 have HM:=hid hm
 have HOL:=hid (And.intro ho h)
 have HBA:=hid hbase
 clear hm ho h hbase hse hrd h8
 go_enter Tryz.func231,Tryz.ntmps231
 go_wp2_with fail
 refine HP.out.mono ?_
 rintro e w1 hr
 rcases hr.get with⟨n,hp,rfl,ho⟩|⟨x,l,a,hp,hv,ho,hs,hd⟩
 ·have HR:=hid (eY (fun p:List Qd×List UInt8=>({m with aV:=p.1},p.2)) hp)
  have HO:=hid ho
  clear hp ho hr
  go_wp2_with fail
  exact⟨rfl,bY.no HR.out HO.out⟩
 have HR:=hid (fB (fun p:List Qd×List UInt8=>({m with aV:=p.1},p.2)) hp)
 have HM1:=hid (ho.blk HM.out (fun h=>HNE.out h.symm))
 have gV:=hid (HOL.out.1.sc HOL.out.2 ho)
 have HS:=hid (And.intro ho (And.intro hs hd))
 obtain⟨v,rfl,hv⟩:=hv
 have HV:=hid (iw hv HBA.out)
 obtain⟨A,cap,rfl,hc,hmx⟩:=aJ hv
 clear hv hc hmx
 have k0:w1.cell? ⟨q,12,none⟩=some vq:=Blk.cell HM1.out 12
 have z0:w1.frozen? ⟨q,12,none⟩=false:=Blk.frozen HM1.out 12
 clear hp ho hr hs hd
 go_wp2_with fail
 go_end0
 exact bY.end_ HR.out HS.out.2.1 HS.out.2.2 HM1.out ⟨gV.out.n,HV.out,gV.out.d⟩ HS.out.1 (aK.aW HM1.out _ _ (xA ..)) (bM ..)
theorem LW{w:World}{p q base at_:Nat}{m:Mg}{vn vq vd:Value}{s:ByteArray}(hse:SE w)(hrd:Ready w)(h8:8≤p)(hm:aK w q m vn vq vd)(ho:OL w base m vn vq vd)(hbase:base≤w.heap.size)(h:ScS w p s at_):
  Calls Tryz.prog 177 #[.pointer (some ⟨p,0,none⟩),.pointer (some ⟨q,0,none⟩)] w (bY p q base s (pF m (s.data.toList.drop at_) .qid) w):=by
 have hmf:=iF
 have HP:=hid (mV hse h8 h)
 have HNE:=hid (h.ne hm (by decide))
 have HM:=hid hm
 have HOL:=hid (And.intro ho h)
 have HBA:=hid hbase
 clear hm ho h hbase hse hrd h8
 go_enter Tryz.func177,Tryz.ntmps177
 go_wp2_with fail
 refine HP.out.mono ?_
 rintro e w1 hr
 rcases hr.get with⟨n,hp,rfl,ho⟩|⟨x,l,a,hp,rfl,ho,hs,hd⟩
 ·have HR:=hid (eY (fun p:Qd×List UInt8=>({m with qid:=p.1},p.2)) hp)
  have HO:=hid ho
  clear hp ho hr
  go_wp2_with fail
  exact⟨rfl,bY.no HR.out HO.out⟩
 have HR:=hid (fB (fun p:Qd×List UInt8=>({m with qid:=p.1},p.2)) hp)
 have HM1:=hid (ho.blk HM.out (fun h=>HNE.out h.symm))
 have gV:=hid (HOL.out.1.sc HOL.out.2 ho)
 have HS:=hid (And.intro ho (And.intro hs hd))
 have k0:w1.cell? ⟨q,13,none⟩=some (.int .u8 (m.qid.kind:Int)):=Blk.cell HM1.out 13
 have k1:w1.cell? ⟨q,14,none⟩=some (.int .u32 (m.qid.vers:Int)):=Blk.cell HM1.out 14
 have k2:w1.cell? ⟨q,15,none⟩=some (.int .u64 (m.qid.path:Int)):=Blk.cell HM1.out 15
 have z0:w1.frozen? ⟨q,13,none⟩=false:=Blk.frozen HM1.out 13
 have z1:w1.frozen? ⟨q,14,none⟩=false:=Blk.frozen HM1.out 14
 have z2:w1.frozen? ⟨q,15,none⟩=false:=Blk.frozen HM1.out 15
 clear hp ho hr hs hd
 go_wp2_with fail
 go_end0
 refine bY.end_ HR.out HS.out.2.1 HS.out.2.2 HM1.out (m':= {m with qid:=x}) ⟨gV.out.n,gV.out.q,gV.out.d⟩ HS.out.1 ?_ (((bM w1 q 13 _).trans (bM _ q 14 _)).trans (bM _ q 15 _))
 have h:=((Blk.aW HM1.out 13 (.int .u8 (x.kind:Int))).aW 14 (.int .u32 (x.vers:Int))).aW 15 (.int .u64 (x.path:Int))
 rw[Bh]at h
 exact h
theorem Jl{w:World}{p q base at_:Nat}{m:Mg}{vn vq vd:Value}{s:ByteArray}(hse:SE w)(hrd:Ready w)(h8:8≤p)(hm:aK w q m vn vq vd)(ho:OL w base m vn vq vd)(hbase:base≤w.heap.size)(h:ScS w p s at_):
  Calls Tryz.prog 241 #[.pointer (some ⟨p,0,none⟩),.pointer (some ⟨q,0,none⟩)] w (bY p q base s (pF m (s.data.toList.drop at_) .stat) w):=by
 have hmf:=iF
 have HP:=hid (xM hse hrd h8 h)
 have HNE:=hid (h.ne hm (by decide))
 have HM:=hid hm
 have HOL:=hid (And.intro ho h)
 have HBA:=hid hbase
 clear hm ho h hbase hse hrd h8
 go_enter Tryz.func241,Tryz.ntmps241
 go_wp2_with fail
 refine HP.out.mono ?_
 rintro e w1 hr
 rcases hr.get with⟨n,hp,rfl,ho⟩|⟨x,l,a,hp,rfl,ho,hs,hd⟩
 ·have HR:=hid (eY (fun p:Sta×List UInt8=>({m with stat:=p.1},p.2)) hp)
  have HO:=hid ho
  clear hp ho hr
  go_wp2_with fail
  exact⟨rfl,bY.no HR.out HO.out⟩
 have HR:=hid (fB (fun p:Sta×List UInt8=>({m with stat:=p.1},p.2)) hp)
 have HM1:=hid (ho.blk HM.out (fun h=>HNE.out h.symm))
 have gV:=hid (HOL.out.1.sc HOL.out.2 ho)
 have HS:=hid (And.intro ho (And.intro hs hd))
 clear hp ho hr hs hd
 go_wp2_with(refine dA HM1.out 23 (stL x) _ (qc ..) (Nat.le_refl 36) (uY _) rfl _ _ _ rfl rfl rfl bP ?_;intro w2 hs hoo;have HMX:=hid hs;have HOX:=hid (hoo (fun i=>i=q) rfl w1 (Off.refl _ _));clear hs hoo)
 go_end0
 exact bY.end_ HR.out HS.out.2.1 HS.out.2.2 HM1.out (m':= {m with stat:=x}) ⟨gV.out.n,gV.out.q,gV.out.d⟩ HS.out.1 HMX.out HOX.out
theorem DL(f:Fld){w:World}{p q base at_:Nat}{m:Mg}{vn vq vd:Value}{s:ByteArray}{b:Nat}(hse:SE w)(hrd:Ready w)(h8:8≤p)(hm:aK w q m vn vq vd)(ho:OL w base m vn vq vd)(hbase:base≤w.heap.size)(hc:yC w f b)(h:ScS w p s at_):
  Calls Tryz.prog f.ks (#[.pointer (some ⟨p,0,none⟩),.pointer (some ⟨q,0,none⟩)]++f.cap b) w (bY p q base s (pF m (s.data.toList.drop at_) f) w):=by
 have hne:=h.ne hm (by decide)
 cases f
 case bI=>
  refine(jg hse hrd h8 (aS .bI rfl) (aZ .bI rfl q) (hc.2 rfl rfl) (fun w' hb=>⟨Blk.cell (hb.blk hm (fun h=>hne h.symm)) 2,Blk.frozen (hb.blk hm (fun h=>hne h.symm)) 2⟩) h).mono ?_
  rintro e w' (⟨n,hp,rfl,hb⟩|⟨x,l,a,w1,hp,rfl,hb,hs,hd,rfl⟩)
  ·exact bY.no (eY (fun p:Nat×List UInt8=>(m.aG p.1 .bI,p.2)) hp) hb
  have hm1:aK w1 q m vn vq vd:=hb.blk hm (fun h=>hne h.symm)
  have ho1:=ho.sc h hb
  exact bY.end_ (fB (fun p:Nat×List UInt8=>(m.aG p.1 .bI,p.2)) hp) hs hd hm1 ⟨ho1.n,ho1.q,ho1.d⟩ hb (aK.aW hm1 _ _ (zx ..)) (bM ..)
 case version=>
  refine(lG hse hrd h8 (aS .version rfl) (aZ .version rfl q) (hc.1 rfl) (fun w' hb=>⟨Blk.cell (hb.blk hm (fun h=>hne h.symm)) 3,Blk.frozen (hb.blk hm (fun h=>hne h.symm)) 3⟩) h).mono ?_
  rintro e w' (⟨n,hp,rfl,hb⟩|⟨x,l,a,w1,hp,rfl,hb,hs,hd,rfl⟩)
  ·exact bY.no (eY (fun p:ByteArray×List UInt8=>(m.bV p.1 .version,p.2)) hp) hb
  have hm1:aK w1 q m vn vq vd:=hb.blk hm (fun h=>hne h.symm)
  have ho1:=ho.sc h hb
  exact bY.end_ (fB (fun p:ByteArray×List UInt8=>(m.bV p.1 .version,p.2)) hp) hs hd hm1 ⟨ho1.n,ho1.q,ho1.d⟩ hb (aK.aW hm1 _ _ (uj ..)) (bM ..)
 case dB=>
  refine(jg hse hrd h8 (aS .dB rfl) (aZ .dB rfl q) (hc.2 rfl rfl) (fun w' hb=>⟨Blk.cell (hb.blk hm (fun h=>hne h.symm)) 4,Blk.frozen (hb.blk hm (fun h=>hne h.symm)) 4⟩) h).mono ?_
  rintro e w' (⟨n,hp,rfl,hb⟩|⟨x,l,a,w1,hp,rfl,hb,hs,hd,rfl⟩)
  ·exact bY.no (eY (fun p:Nat×List UInt8=>(m.aG p.1 .dB,p.2)) hp) hb
  have hm1:aK w1 q m vn vq vd:=hb.blk hm (fun h=>hne h.symm)
  have ho1:=ho.sc h hb
  exact bY.end_ (fB (fun p:Nat×List UInt8=>(m.aG p.1 .dB,p.2)) hp) hs hd hm1 ⟨ho1.n,ho1.q,ho1.d⟩ hb (aK.aW hm1 _ _ (Dn ..)) (bM ..)
 case uname=>
  refine(lG hse hrd h8 (aS .uname rfl) (aZ .uname rfl q) (hc.1 rfl) (fun w' hb=>⟨Blk.cell (hb.blk hm (fun h=>hne h.symm)) 5,Blk.frozen (hb.blk hm (fun h=>hne h.symm)) 5⟩) h).mono ?_
  rintro e w' (⟨n,hp,rfl,hb⟩|⟨x,l,a,w1,hp,rfl,hb,hs,hd,rfl⟩)
  ·exact bY.no (eY (fun p:ByteArray×List UInt8=>(m.bV p.1 .uname,p.2)) hp) hb
  have hm1:aK w1 q m vn vq vd:=hb.blk hm (fun h=>hne h.symm)
  have ho1:=ho.sc h hb
  exact bY.end_ (fB (fun p:ByteArray×List UInt8=>(m.bV p.1 .uname,p.2)) hp) hs hd hm1 ⟨ho1.n,ho1.q,ho1.d⟩ hb (aK.aW hm1 _ _ (zy ..)) (bM ..)
 case bF=>
  refine(lG hse hrd h8 (aS .bF rfl) (aZ .bF rfl q) (hc.1 rfl) (fun w' hb=>⟨Blk.cell (hb.blk hm (fun h=>hne h.symm)) 6,Blk.frozen (hb.blk hm (fun h=>hne h.symm)) 6⟩) h).mono ?_
  rintro e w' (⟨n,hp,rfl,hb⟩|⟨x,l,a,w1,hp,rfl,hb,hs,hd,rfl⟩)
  ·exact bY.no (eY (fun p:ByteArray×List UInt8=>(m.bV p.1 .bF,p.2)) hp) hb
  have hm1:aK w1 q m vn vq vd:=hb.blk hm (fun h=>hne h.symm)
  have ho1:=ho.sc h hb
  exact bY.end_ (fB (fun p:ByteArray×List UInt8=>(m.bV p.1 .bF,p.2)) hp) hs hd hm1 ⟨ho1.n,ho1.q,ho1.d⟩ hb (aK.aW hm1 _ _ (zA ..)) (bM ..)
 case bH=>
  refine(lG hse hrd h8 (aS .bH rfl) (aZ .bH rfl q) (hc.1 rfl) (fun w' hb=>⟨Blk.cell (hb.blk hm (fun h=>hne h.symm)) 7,Blk.frozen (hb.blk hm (fun h=>hne h.symm)) 7⟩) h).mono ?_
  rintro e w' (⟨n,hp,rfl,hb⟩|⟨x,l,a,w1,hp,rfl,hb,hs,hd,rfl⟩)
  ·exact bY.no (eY (fun p:ByteArray×List UInt8=>(m.bV p.1 .bH,p.2)) hp) hb
  have hm1:aK w1 q m vn vq vd:=hb.blk hm (fun h=>hne h.symm)
  have ho1:=ho.sc h hb
  exact bY.end_ (fB (fun p:ByteArray×List UInt8=>(m.bV p.1 .bH,p.2)) hp) hs hd hm1 ⟨ho1.n,ho1.q,ho1.d⟩ hb (aK.aW hm1 _ _ (zB ..)) (bM ..)
 case aT=>exact DJ hse hrd h8 hm ho hbase h
 case fid=>
  refine(jg hse hrd h8 (aS .fid rfl) (aZ .fid rfl q) (hc.2 rfl rfl) (fun w' hb=>⟨Blk.cell (hb.blk hm (fun h=>hne h.symm)) 9,Blk.frozen (hb.blk hm (fun h=>hne h.symm)) 9⟩) h).mono ?_
  rintro e w' (⟨n,hp,rfl,hb⟩|⟨x,l,a,w1,hp,rfl,hb,hs,hd,rfl⟩)
  ·exact bY.no (eY (fun p:Nat×List UInt8=>(m.aG p.1 .fid,p.2)) hp) hb
  have hm1:aK w1 q m vn vq vd:=hb.blk hm (fun h=>hne h.symm)
  have ho1:=ho.sc h hb
  exact bY.end_ (fB (fun p:Nat×List UInt8=>(m.aG p.1 .fid,p.2)) hp) hs hd hm1 ⟨ho1.n,ho1.q,ho1.d⟩ hb (aK.aW hm1 _ _ (GR ..)) (bM ..)
 case aU=>
  refine(jg hse hrd h8 (aS .aU rfl) (aZ .aU rfl q) (hc.2 rfl rfl) (fun w' hb=>⟨Blk.cell (hb.blk hm (fun h=>hne h.symm)) 10,Blk.frozen (hb.blk hm (fun h=>hne h.symm)) 10⟩) h).mono ?_
  rintro e w' (⟨n,hp,rfl,hb⟩|⟨x,l,a,w1,hp,rfl,hb,hs,hd,rfl⟩)
  ·exact bY.no (eY (fun p:Nat×List UInt8=>(m.aG p.1 .aU,p.2)) hp) hb
  have hm1:aK w1 q m vn vq vd:=hb.blk hm (fun h=>hne h.symm)
  have ho1:=ho.sc h hb
  exact bY.end_ (fB (fun p:Nat×List UInt8=>(m.aG p.1 .aU,p.2)) hp) hs hd hm1 ⟨ho1.n,ho1.q,ho1.d⟩ hb (aK.aW hm1 _ _ (xk ..)) (bM ..)
 case names=>exact FH hse hrd h8 hm ho hbase h
 case aV=>exact Jk hse hrd h8 hm ho hbase h
 case qid=>exact LW hse hrd h8 hm ho hbase h
 case mode=>exact Ji hse hrd h8 hm ho hbase h
 case aQ=>
  refine(jg hse hrd h8 (aS .aQ rfl) (aZ .aQ rfl q) (hc.2 rfl rfl) (fun w' hb=>⟨Blk.cell (hb.blk hm (fun h=>hne h.symm)) 17,Blk.frozen (hb.blk hm (fun h=>hne h.symm)) 17⟩) h).mono ?_
  rintro e w' (⟨n,hp,rfl,hb⟩|⟨x,l,a,w1,hp,rfl,hb,hs,hd,rfl⟩)
  ·exact bY.no (eY (fun p:Nat×List UInt8=>(m.aG p.1 .aQ,p.2)) hp) hb
  have hm1:aK w1 q m vn vq vd:=hb.blk hm (fun h=>hne h.symm)
  have ho1:=ho.sc h hb
  exact bY.end_ (fB (fun p:Nat×List UInt8=>(m.aG p.1 .aQ,p.2)) hp) hs hd hm1 ⟨ho1.n,ho1.q,ho1.d⟩ hb (aK.aW hm1 _ _ (xu ..)) (bM ..)
 case name=>
  refine(lG hse hrd h8 (aS .name rfl) (aZ .name rfl q) (hc.1 rfl) (fun w' hb=>⟨Blk.cell (hb.blk hm (fun h=>hne h.symm)) 18,Blk.frozen (hb.blk hm (fun h=>hne h.symm)) 18⟩) h).mono ?_
  rintro e w' (⟨n,hp,rfl,hb⟩|⟨x,l,a,w1,hp,rfl,hb,hs,hd,rfl⟩)
  ·exact bY.no (eY (fun p:ByteArray×List UInt8=>(m.bV p.1 .name,p.2)) hp) hb
  have hm1:aK w1 q m vn vq vd:=hb.blk hm (fun h=>hne h.symm)
  have ho1:=ho.sc h hb
  exact bY.end_ (fB (fun p:ByteArray×List UInt8=>(m.bV p.1 .name,p.2)) hp) hs hd hm1 ⟨ho1.n,ho1.q,ho1.d⟩ hb (aK.aW hm1 _ _ (Dq ..)) (bM ..)
 case perm=>
  refine(jg hse hrd h8 (aS .perm rfl) (aZ .perm rfl q) (hc.2 rfl rfl) (fun w' hb=>⟨Blk.cell (hb.blk hm (fun h=>hne h.symm)) 19,Blk.frozen (hb.blk hm (fun h=>hne h.symm)) 19⟩) h).mono ?_
  rintro e w' (⟨n,hp,rfl,hb⟩|⟨x,l,a,w1,hp,rfl,hb,hs,hd,rfl⟩)
  ·exact bY.no (eY (fun p:Nat×List UInt8=>(m.aG p.1 .perm,p.2)) hp) hb
  have hm1:aK w1 q m vn vq vd:=hb.blk hm (fun h=>hne h.symm)
  have ho1:=ho.sc h hb
  exact bY.end_ (fB (fun p:Nat×List UInt8=>(m.aG p.1 .perm,p.2)) hp) hs hd hm1 ⟨ho1.n,ho1.q,ho1.d⟩ hb (aK.aW hm1 _ _ (set_perm ..)) (bM ..)
 case offset=>exact DK hse hrd h8 hm ho hbase h
 case count=>
  refine(jg hse hrd h8 (aS .count rfl) (aZ .count rfl q) (hc.2 rfl rfl) (fun w' hb=>⟨Blk.cell (hb.blk hm (fun h=>hne h.symm)) 21,Blk.frozen (hb.blk hm (fun h=>hne h.symm)) 21⟩) h).mono ?_
  rintro e w' (⟨n,hp,rfl,hb⟩|⟨x,l,a,w1,hp,rfl,hb,hs,hd,rfl⟩)
  ·exact bY.no (eY (fun p:Nat×List UInt8=>(m.aG p.1 .count,p.2)) hp) hb
  have hm1:aK w1 q m vn vq vd:=hb.blk hm (fun h=>hne h.symm)
  have ho1:=ho.sc h hb
  exact bY.end_ (fB (fun p:Nat×List UInt8=>(m.aG p.1 .count,p.2)) hp) hs hd hm1 ⟨ho1.n,ho1.q,ho1.d⟩ hb (aK.aW hm1 _ _ (zC ..)) (bM ..)
 case data=>exact Jj hse hrd h8 hm ho hbase h
 case stat=>exact Jl hse hrd h8 hm ho hbase h
theorem FI:∀r,r<27→0≤iq r:=by decide
theorem FK{r:Nat}{s:ByteArray}(hr:r<27)(h:nameAt r=s):∃k:Nat,kindOf s.data.toList=some k∧iq r=(k:Int):=by
 obtain⟨fs,h1,h2, -⟩:=uU r hr
 refine⟨(iq r).toNat, ?_, ?_⟩
 ·rw[←h,h2]
  show kindOf (ofL _).data.toList=_
  rw[show(ofL (fO (iq r).toNat)).data.toList=fO (iq r).toNat from by simp[ofL]]
  exact(CJ h1).1
 ·have:=FI r hr
  omega
theorem Jm{s:ByteArray}(h:∀q,q<27→nameAt q≠s):kindOf s.data.toList=none:=by
 cases hk:kindOf s.data.toList with
 |none=>rfl
 |some k=>
  obtain⟨h1, -,fs,hf⟩:=mM hk
  obtain⟨-, -,h3,h4⟩:=iP hf
  have hi:=wL (k-100) (by omega) (by rw[show 100+(k-100)=k by omega,hf];simp)
  rw[show 100+(k-100)=k by omega]at hi
  have ha:=o9 (k:Int) hi
  obtain⟨fs',h5,h6, -⟩:=uU _ hi
  rw[ha]at h6
  refine absurd ?_ (h _ hi)
  rw[h6,show((k:Int)).toNat=k from rfl,h1]
  apply ByteArray.ext
  simp[ofL]
def GV(s:ByteArray)(e:Ending):Prop:=match kindOf s.data.toList with
 |some k=>e= .returned (.tuple #[.int .u8 (k:Int),.bool true])
 |none=>e= .returned (.tuple #[.int .u8 0,.bool false])
theorem FM(s:ByteArray)(w:World):Calls Tryz.prog 37 #[.string s] w fun e w'=>GV s e∧Below w.heap.size w w':=by
 go_enter Tryz.func37,Tryz.ntmps37
 go_upto_region 2 with(go_at_call 70;refine(t_ _).mono ?_;rintro e w' ⟨rfl,rfl⟩)
 have hk0:=uf w
 have hb0:=mO (ig w.heap.size) w
 have hz0:=nJ (ig w.heap.size) w
 generalize List.foldl World.alloc w (ig w.heap.size)=w0 at hk0 hb0 hz0⊢
 have hz1:(ig w.heap.size).length=24:=rfl
 rw[hz1]at hz0
 clear hz1
 have HK0:=hid hk0;clear hk0
 have HB1:=hid hb0;clear hb0
 have HZ0:=hid hz0;clear hz0
 generalize hg:w.heap.size+23=g
 have HG:=hid hg;clear hg
 go_loopw [5,8] (fun _ i wr=>∃r:Nat,r≤27∧i= .int .i64 r∧Below w0.heap.size w0 wr∧∀q,q<r→nameAt q≠s) (fun _ i _=>27-(intOf i).toNat)
 case atStart=>exact⟨0,by omega,rfl,Below.refl _ _,fun q hq=>absurd hq (Nat.not_lt_zero q)⟩
 case round=>
  obtain⟨r,hr,rfl,hb,hno⟩:=hrel
  have HNO:=hid hno;clear hno
  have HB:=hid hb;clear hb
  by_cases hlt:r<27
  ·have HK:=hid (HK0.out.below HB.out (by rw[HZ0.out];exact Nat.le_refl _))
   have c0:wr.cell? ⟨g,r*3,none⟩=some (.int .u8 (iq r)):=by rw[←HG.out,HK.out.blk.cell,o7 _ r hlt];rfl
   have c1:wr.cell? ⟨g,r*3+1,none⟩=some (.string (nameAt r)):=by rw[←HG.out,HK.out.blk.cell,o8 _ r hlt];rfl
   have c2:wr.cell? ⟨g,r*3+2,none⟩=some (mP w.heap.size r):=by rw[←HG.out,HK.out.blk.cell,nK _ r hlt]
   obtain⟨fa,fl,fc,hfv⟩:=qF w.heap.size r hlt
   rw[hfv]at c2
   clear hfv
   by_cases he:nameAt r=s
   ·obtain⟨k,hk1,hk2⟩:=FK hlt he
    have HE:=hid hk1
    have HKA:=hid hk2
    have hbe:((nameAt r).toList==s.toList)=true:=by rw[he];exact beq_self_eq_true _
    clear he hk1 hk2
    go_wp2_with fail
    go_ret2
    refine⟨?_,(HB1.out.trans (HB.out.mono (by have:=HB1.out.size;omega))).alloc (by have:=HB1.out.size;have:=HB.out.size;omega) _⟩
    unfold GV
    rw[HE.out,HKA.out]
    rfl
   ·have hne:((nameAt r).toList==s.toList)=false:=by
     rw[beq_eq_false_iff_ne]
     intro h
     exact he (ByteArray.ext (Array.toList_inj.1 (by rw[←ByteArray.toList_eq,←ByteArray.toList_eq];exact h)))
    have HE:=hid he;clear he
    go_wp2_with fail
    go_roundw
    case rel=>exact⟨r+1,by omega,by go_num,HB.out.alloc HB.out.size _,fun q hq=>(by rcases Nat.lt_succ_iff_lt_or_eq.1 hq with h|h;exact HNO.out q h;exact h▸HE.out)⟩
    case measure=>simp[intOf];omega
  ·have hrr:r=27:=by omega
   have HRR:=hid hrr;clear hrr
   have HE:=hid (Jm (fun q hq=>HNO.out q (by rw[HRR.out];exact hq)))
   go_wp2_with fail
   go_ret2
   refine⟨?_,HB1.out.trans (HB.out.mono (by have:=HB1.out.size;omega))⟩
   unfold GV
   rw[HE.out]
   rfl
end Go.Proofs.YtkblmloobkiloaaGreatDoor
