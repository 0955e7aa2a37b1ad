/-
  MRA MRB MC MC2: what the laws of package msg need of them.
-/
import Derived.Test.YtkblmloobkiloaaGreatDoorT00
import Derived.Test.YtkblmloobkiloaaGreatDoorT15
import Derived.Test.YtkblmloobkiloaaGreatDoorT11
import Derived.Deep.RegionHeld3
import Derived.WalkSpells
set_option maxRecDepth 100000
set_option maxHeartbeats 6400000
namespace Go.Proofs.YtkblmloobkiloaaGreatDoor
open Go.Lib (hid)
open Go.RowKit
structure OL(w:World)(base:Nat)(m:Mg)(vn vq vd:Value):Prop where
 n:w.ownsRow base 9 1 vn m.names.length (h_ m.names)
 q:w.ownsRow base 37 3 vq m.aV.length (ng m.aV)
 d:w.ownsRow base 5 1 vd m.data.length (aX m.data)
theorem OL.off{S:Nat→Prop}{w w':World}{base:Nat}{m:Mg}{vn vq vd:Value}(h:OL w base m vn vq vd)(ho:Off S w w')(hs:∀i cur fr e,S i→(e=9∨e=37∨e=5)→w.heap[i]? ≠some (Obj.cells cur e fr)):OL w' base m vn vq vd:=
 ⟨dL ho h.n fun i cur fr hS=>hs i cur fr _ hS (.inl rfl),dL ho h.q fun i cur fr hS=>hs i cur fr _ hS (.inr (.inl rfl)),dL ho h.d fun i cur fr hS=>hs i cur fr _ hS (.inr (.inr rfl))⟩
theorem RdS.noT{w:World}{p:Nat}{bv:Value}{l:List UInt8}{st:Option (List UInt8)}{e:TypeId}(h:RdS w p bv l st)(he:129≠e):∀g cur fr,g=p→w.heap[g]? ≠some (Obj.cells cur e fr):=by
 obtain⟨_,_,h,_⟩:=h
 obtain⟨_,_,hb⟩:=h.blk
 exact hb.noT he
theorem OL.rd{w w':World}{p base:Nat}{m:Mg}{vn vq vd bv:Value}{l:List UInt8}{st:Option (List UInt8)}(h:OL w base m vn vq vd)(hr:RdS w p bv l st)(ho:jF p w w'):OL w' base m vn vq vd:=
 h.off ho fun i cur fr e hS he=>by
  rcases he with rfl|rfl|rfl<;>exact hr.noT (by decide) i cur fr hS
theorem OL.qp{w w':World}{q base:Nat}{m m2:Mg}{vn vq vd xn xq xd:Value}(h:OL w base m vn vq vd)(hm:aK w q m2 xn xq xd)(ho:Off (fun i=>i=q) w w'):OL w' base m vn vq vd:=
 h.off ho fun i cur fr e hS he=>by
  rcases he with rfl|rfl|rfl<;>exact Blk.noT hm (by decide) i cur fr hS
theorem OL.below{w w':World}{base:Nat}{m:Mg}{vn vq vd:Value}(h:OL w base m vn vq vd)(hb:Below w.heap.size w w'):OL w' base m vn vq vd:=⟨aI h.n hb,aI h.q hb,aI h.d hb⟩
theorem RdS.ne{w:World}{p q:Nat}{bv:Value}{l:List UInt8}{st:Option (List UInt8)}{t:TypeId}{cs:Array Value}(h:RdS w p bv l st)(hm:Blk w q t cs)(ht:129≠t):p≠q:=fun e=>h.noT ht q _ _ e.symm hm
def gY(p q base:Nat)(bv:Value)(l:List UInt8)(m:Mg)(st:Option (List UInt8))(w:World)(w':World):Prop:=
 RdS w' p bv l st∧(∃vn vq vd,aK w' q m vn vq vd∧OL w' base m vn vq vd)∧Off (fun i=>i=p∨i=q) w w'
theorem gY.end_{w w1 w':World}{p q base:Nat}{bv vn vq vd xn xq xd:Value}{l:List UInt8}{m m':Mg}{st:Option (List UInt8)}(h:RdS w1 p bv l st)(hm:aK w1 q m vn vq vd)(ho:OL w1 base m' xn xq xd)(h1:jF p w w1)(hb:aK w' q m' xn xq xd)(hoff:Off (fun i=>i=q) w1 w'):gY p q base bv l m' st w w':=
 ⟨h.off hoff (h.ne hm (by decide)) (dZ hm (by decide)),⟨xn,xq,xd,hb,ho.qp hm hoff⟩,(h1.mono fun _ _ h=> .inl h).trans (hoff.mono fun _ _ h=> .inr h)⟩
theorem aK.aW{w:World}{q:Nat}{m m':Mg}{vn vq vd xn xq xd:Value}(hm:aK w q m vn vq vd)(i:Nat)(v:Value)(e:(aF m vn vq vd).toArray.setIfInBounds i v=(aF m' xn xq xd).toArray):aK (w.setCell ⟨q,i,none⟩ v) q m' xn xq xd:=by
 have h:=Blk.aW hm i v
 rw[e]at h
 exact h
theorem bM(w:World)(q i:Nat)(v:Value):Off (fun k=>k=q) w (w.setCell ⟨q,i,none⟩ v):=(Off.refl (fun k=>k=q) w).setCell (p:=⟨q,i,none⟩) (show q=q from rfl) v
theorem zx(m:Mg)(n:Nat)(vn vq vd:Value):(aF m vn vq vd).toArray.setIfInBounds 2 (.int .u32 (n:Int))=(aF (m.aG n .bI) vn vq vd).toArray:=by kernel_rfl
theorem uj(m:Mg)(s:ByteArray)(vn vq vd:Value):(aF m vn vq vd).toArray.setIfInBounds 3 (.string s)=(aF (m.bV s .version) vn vq vd).toArray:=by kernel_rfl
theorem Dn(m:Mg)(n:Nat)(vn vq vd:Value):(aF m vn vq vd).toArray.setIfInBounds 4 (.int .u32 (n:Int))=(aF (m.aG n .dB) vn vq vd).toArray:=by kernel_rfl
theorem zy(m:Mg)(s:ByteArray)(vn vq vd:Value):(aF m vn vq vd).toArray.setIfInBounds 5 (.string s)=(aF (m.bV s .uname) vn vq vd).toArray:=by kernel_rfl
theorem zA(m:Mg)(s:ByteArray)(vn vq vd:Value):(aF m vn vq vd).toArray.setIfInBounds 6 (.string s)=(aF (m.bV s .bF) vn vq vd).toArray:=by kernel_rfl
theorem zB(m:Mg)(s:ByteArray)(vn vq vd:Value):(aF m vn vq vd).toArray.setIfInBounds 7 (.string s)=(aF (m.bV s .bH) vn vq vd).toArray:=by kernel_rfl
theorem xg(m:Mg)(n:Nat)(vn vq vd:Value):(aF m vn vq vd).toArray.setIfInBounds 8 (.int .u16 (n:Int))=(aF (m.aG n .aT) vn vq vd).toArray:=by kernel_rfl
theorem GR(m:Mg)(n:Nat)(vn vq vd:Value):(aF m vn vq vd).toArray.setIfInBounds 9 (.int .u32 (n:Int))=(aF (m.aG n .fid) vn vq vd).toArray:=by kernel_rfl
theorem xk(m:Mg)(n:Nat)(vn vq vd:Value):(aF m vn vq vd).toArray.setIfInBounds 10 (.int .u32 (n:Int))=(aF (m.aG n .aU) vn vq vd).toArray:=by kernel_rfl
theorem Dp(m:Mg)(n:Nat)(vn vq vd:Value):(aF m vn vq vd).toArray.setIfInBounds 16 (.int .u8 (n:Int))=(aF (m.aG n .mode) vn vq vd).toArray:=by kernel_rfl
theorem xu(m:Mg)(n:Nat)(vn vq vd:Value):(aF m vn vq vd).toArray.setIfInBounds 17 (.int .u32 (n:Int))=(aF (m.aG n .aQ) vn vq vd).toArray:=by kernel_rfl
theorem Dq(m:Mg)(s:ByteArray)(vn vq vd:Value):(aF m vn vq vd).toArray.setIfInBounds 18 (.string s)=(aF (m.bV s .name) vn vq vd).toArray:=by kernel_rfl
theorem set_perm(m:Mg)(n:Nat)(vn vq vd:Value):(aF m vn vq vd).toArray.setIfInBounds 19 (.int .u32 (n:Int))=(aF (m.aG n .perm) vn vq vd).toArray:=by kernel_rfl
theorem xw(m:Mg)(n:Nat)(vn vq vd:Value):(aF m vn vq vd).toArray.setIfInBounds 20 (.int .u64 (n:Int))=(aF (m.aG n .offset) vn vq vd).toArray:=by kernel_rfl
theorem zC(m:Mg)(n:Nat)(vn vq vd:Value):(aF m vn vq vd).toArray.setIfInBounds 21 (.int .u32 (n:Int))=(aF (m.aG n .count) vn vq vd).toArray:=by kernel_rfl
theorem sZ(m:Mg)(x:List ByteArray)(vn vq vd v:Value):(aF m vn vq vd).toArray.setIfInBounds 11 v=(aF {m with names:=x} v vq vd).toArray:=by kernel_rfl
theorem xA(m:Mg)(x:List Qd)(vn vq vd v:Value):(aF m vn vq vd).toArray.setIfInBounds 12 v=(aF {m with aV:=x} vn v vd).toArray:=by kernel_rfl
theorem xB(m:Mg)(x:List UInt8)(vn vq vd v:Value):(aF m vn vq vd).toArray.setIfInBounds 22 v=(aF {m with data:=x} vn vq v).toArray:=by kernel_rfl
theorem Bh(m:Mg)(x:Qd)(vn vq vd:Value):(((aF m vn vq vd).toArray.setIfInBounds 13 (.int .u8 (x.kind:Int))).setIfInBounds 14 (.int .u32 (x.vers:Int))).setIfInBounds 15 (.int .u64 (x.path:Int))=(aF {m with qid:=x} vn vq vd).toArray:=by kernel_rfl
theorem qc(m:Mg)(x:Sta)(vn vq vd:Value):over (aF m vn vq vd).toArray 23 (stL x)=(aF {m with stat:=x} vn vq vd).toArray:=by kernel_rfl
theorem uY(s:Sta):(stL s).toArray.all (·.oneCell')=true:=lJ ..
theorem je{w:World}{p q b o K:Nat}{bv old:Value}{l:List UInt8}{st:Option (List UInt8)}(hent:∀args w,Sem.run Tryz.prog (callFunc K args) w= .ok (.enter K args) w)(hat:∀w,Calls Tryz.prog K #[.pointer (some ⟨q,0,none⟩)] w fun e w'=>e= .returned (.pointer (some ⟨q,o,none⟩))∧w=w')(hc:Blk w b 135 #[fv K #[]])(hk:∀w',jF p w w'→w'.cell? ⟨q,o,none⟩=some old∧w'.frozen? ⟨q,o,none⟩=false)(h:RdS w p bv l st):
  Calls Tryz.prog 128 #[.pointer (some ⟨p,0,none⟩),.pointer (some ⟨q,0,none⟩),.pointer (some ⟨b,0,none⟩)] w fun e w'=>e= .returned (.tuple #[])∧∃w1,RdS w1 p bv l (dF 4 st).2∧jF p w w1∧w'=w1.setCell ⟨q,o,none⟩ (.int .u32 ((dF 4 st).1:Int)):=by
 have HAT:=hid (hat w)
 have HP:=hid (iZ h)
 have HK:=hid hk
 have kb:w.cell? ⟨b,0,none⟩=_:=hc.cell 0
 clear hat hc h hk
 go_enter Tryz.func128,Tryz.ntmps128
 go_wp2_with fail
 refine HAT.out.mono ?_
 rintro e w' ⟨rfl,rfl⟩
 go_wp2_with fail
 refine HP.out.mono ?_
 rintro e w1 ⟨rfl,hs,hb⟩
 have HS:=hid (And.intro hs hb)
 obtain⟨k0,z0⟩:=HK.out w1 hb
 clear hs hb
 go_wp2_with fail
 go_end0
 exact⟨rfl,w1,HS.out.1,HS.out.2,rfl⟩
theorem lD{w:World}{p q b o K:Nat}{bv old:Value}{l:List UInt8}{st:Option (List UInt8)}(hr:Ready w)(h8:8≤p)(hent:∀args w,Sem.run Tryz.prog (callFunc K args) w= .ok (.enter K args) w)(hat:∀w,Calls Tryz.prog K #[.pointer (some ⟨q,0,none⟩)] w fun e w'=>e= .returned (.pointer (some ⟨q,o,none⟩))∧w=w')(hc:Blk w b 138 #[fv K #[]])(hk:∀w',jF p w w'→w'.cell? ⟨q,o,none⟩=some old∧w'.frozen? ⟨q,o,none⟩=false)(h:RdS w p bv l st):
  Calls Tryz.prog 136 #[.pointer (some ⟨p,0,none⟩),.pointer (some ⟨q,0,none⟩),.pointer (some ⟨b,0,none⟩)] w fun e w'=>e= .returned (.tuple #[])∧∃w1,RdS w1 p bv l (bJ st).2∧jF p w w1∧w'=w1.setCell ⟨q,o,none⟩ (.string (bJ st).1):=by
 have HAT:=hid (hat w)
 have HP:=hid (jT hr h8 h)
 have HK:=hid hk
 have kb:w.cell? ⟨b,0,none⟩=_:=hc.cell 0
 clear hat hc h hr h8 hk
 go_enter Tryz.func136,Tryz.ntmps136
 go_wp2_with fail
 refine HAT.out.mono ?_
 rintro e w' ⟨rfl,rfl⟩
 go_wp2_with fail
 refine HP.out.mono ?_
 rintro e w1 ⟨rfl,hs,hb⟩
 have HS:=hid (And.intro hs hb)
 obtain⟨k0,z0⟩:=HK.out w1 hb
 clear hs hb
 go_wp2_with fail
 go_end0
 exact⟨rfl,w1,HS.out.1,HS.out.2,rfl⟩
theorem Dt{w:World}{p q base:Nat}{m:Mg}{bv vn vq vd:Value}{l:List UInt8}{st:Option (List UInt8)}(hm:aK w q m vn vq vd)(ho:OL w base m vn vq vd)(h:RdS w p bv l st):
  Calls Tryz.prog 144 #[.pointer (some ⟨p,0,none⟩),.pointer (some ⟨q,0,none⟩)] w fun e w'=>e= .returned (.tuple #[])∧gY p q base bv l (fJ m st .aT).1 (fJ m st .aT).2 w w':=by
 have HP:=hid (kE h)
 have HNE:=hid (h.ne hm (by decide))
 have HM:=hid hm
 have HOL:=hid (And.intro ho h)
 clear hm ho h
 go_enter Tryz.func144,Tryz.ntmps144
 go_wp2_with fail
 refine HP.out.mono ?_
 rintro e w1 ⟨rfl,hs,hb⟩
 have HM1:=hid (hb.blk HM.out (fun h=>HNE.out h.symm))
 have gV:=hid (HOL.out.1.rd HOL.out.2 hb)
 have HS:=hid (And.intro hs hb)
 have k0:w1.cell? ⟨q,8,none⟩=some (.int .u16 (m.aT:Int)):=Blk.cell HM1.out 8
 have z0:w1.frozen? ⟨q,8,none⟩=false:=Blk.frozen HM1.out 8
 clear hs hb
 go_wp2_with fail
 go_end0
 exact⟨rfl,gY.end_ HS.out.1 HM1.out ⟨gV.out.n,gV.out.q,gV.out.d⟩ HS.out.2 (aK.aW HM1.out _ _ (xg ..)) (bM ..)⟩
theorem I4{w:World}{p q base:Nat}{m:Mg}{bv vn vq vd:Value}{l:List UInt8}{st:Option (List UInt8)}(hm:aK w q m vn vq vd)(ho:OL w base m vn vq vd)(h:RdS w p bv l st):
  Calls Tryz.prog 149 #[.pointer (some ⟨p,0,none⟩),.pointer (some ⟨q,0,none⟩)] w fun e w'=>e= .returned (.tuple #[])∧gY p q base bv l (fJ m st .mode).1 (fJ m st .mode).2 w w':=by
 have HP:=hid (qU h)
 have HNE:=hid (h.ne hm (by decide))
 have HM:=hid hm
 have HOL:=hid (And.intro ho h)
 clear hm ho h
 go_enter Tryz.func149,Tryz.ntmps149
 go_wp2_with fail
 refine HP.out.mono ?_
 rintro e w1 ⟨rfl,hs,hb⟩
 have HM1:=hid (hb.blk HM.out (fun h=>HNE.out h.symm))
 have gV:=hid (HOL.out.1.rd HOL.out.2 hb)
 have HS:=hid (And.intro hs hb)
 have k0:w1.cell? ⟨q,16,none⟩=some (.int .u8 (m.mode:Int)):=Blk.cell HM1.out 16
 have z0:w1.frozen? ⟨q,16,none⟩=false:=Blk.frozen HM1.out 16
 clear hs hb
 go_wp2_with fail
 go_end0
 exact⟨rfl,gY.end_ HS.out.1 HM1.out ⟨gV.out.n,gV.out.q,gV.out.d⟩ HS.out.2 (aK.aW HM1.out _ _ (Dp ..)) (bM ..)⟩
theorem Du{w:World}{p q base:Nat}{m:Mg}{bv vn vq vd:Value}{l:List UInt8}{st:Option (List UInt8)}(hm:aK w q m vn vq vd)(ho:OL w base m vn vq vd)(h:RdS w p bv l st):
  Calls Tryz.prog 155 #[.pointer (some ⟨p,0,none⟩),.pointer (some ⟨q,0,none⟩)] w fun e w'=>e= .returned (.tuple #[])∧gY p q base bv l (fJ m st .offset).1 (fJ m st .offset).2 w w':=by
 have HP:=hid (pG h)
 have HNE:=hid (h.ne hm (by decide))
 have HM:=hid hm
 have HOL:=hid (And.intro ho h)
 clear hm ho h
 go_enter Tryz.func155,Tryz.ntmps155
 go_wp2_with fail
 refine HP.out.mono ?_
 rintro e w1 ⟨rfl,hs,hb⟩
 have HM1:=hid (hb.blk HM.out (fun h=>HNE.out h.symm))
 have gV:=hid (HOL.out.1.rd HOL.out.2 hb)
 have HS:=hid (And.intro hs hb)
 have k0:w1.cell? ⟨q,20,none⟩=some (.int .u64 (m.offset:Int)):=Blk.cell HM1.out 20
 have z0:w1.frozen? ⟨q,20,none⟩=false:=Blk.frozen HM1.out 20
 clear hs hb
 go_wp2_with fail
 go_end0
 exact⟨rfl,gY.end_ HS.out.1 HM1.out ⟨gV.out.n,gV.out.q,gV.out.d⟩ HS.out.2 (aK.aW HM1.out _ _ (xw ..)) (bM ..)⟩
theorem I5{w:World}{p q base:Nat}{m:Mg}{bv vn vq vd:Value}{l:List UInt8}{st:Option (List UInt8)}(hm:aK w q m vn vq vd)(ho:OL w base m vn vq vd)(hbase:base≤w.heap.size)(h:RdS w p bv l st):
  Calls Tryz.prog 162 #[.pointer (some ⟨p,0,none⟩),.pointer (some ⟨q,0,none⟩)] w fun e w'=>e= .returned (.tuple #[])∧gY p q base bv l (fJ m st .data).1 (fJ m st .data).2 w w':=by
 have HP:=hid (iZ h)
 have HNE:=hid (h.ne hm (by decide))
 have HM:=hid hm
 have HOL:=hid (And.intro ho h)
 have HBA:=hid hbase
 clear hm ho h hbase
 have hAl:(dF 4 st).1<4294967296:=uX 4 st
 have hw:wrap64 ((dF 4 st).1:Int)=((dF 4 st).1:Int):=IntWalk.wrap64_in _ (by omega)
 go_enter Tryz.func162,Tryz.ntmps162
 go_wp2_with fail
 refine HP.out.mono ?_
 rintro e w1 ⟨rfl,hs,hb⟩
 have HM1:=hid (hb.blk HM.out (fun h=>HNE.out h.symm))
 have gV:=hid (HOL.out.1.rd HOL.out.2 hb)
 have HS:=hid (And.intro hs hb)
 clear hs hb
 go_wp2_with fail
 refine(C9 (dF 4 st).1 HS.out.1).mono ?_
 rintro e w2 ⟨⟨v,rfl,hv⟩,hs,hb⟩
 have HM2:=hid (hb.blk HM1.out (fun h=>HNE.out h.symm))
 have lN:=hid (gV.out.rd HS.out.1 hb)
 have HV:=hid (iw hv (Nat.le_trans HBA.out HS.out.2.size))
 have HS2:=hid (And.intro hs (HS.out.2.trans hb))
 have k0:w2.cell? ⟨q,22,none⟩=some vd:=Blk.cell HM2.out 22
 have z0:w2.frozen? ⟨q,22,none⟩=false:=Blk.frozen HM2.out 22
 obtain⟨A,cap,rfl,hc,hmx⟩:=aJ hv
 clear hs hb hv hc hmx hw hAl
 go_wp2_with fail
 go_end0
 exact⟨rfl,gY.end_ (m':= {m with data:=(dn (dF 4 st).2 (dF 4 st).1).1}) HS2.out.1 HM2.out ⟨lN.out.n,lN.out.q,HV.out⟩ HS2.out.2 (aK.aW HM2.out _ _ (xB ..)) (bM ..)⟩
theorem Lp{w:World}{p q base:Nat}{m:Mg}{bv vn vq vd:Value}{l:List UInt8}{st:Option (List UInt8)}(hm:aK w q m vn vq vd)(ho:OL w base m vn vq vd)(h:RdS w p bv l st):
  Calls Tryz.prog 172 #[.pointer (some ⟨p,0,none⟩),.pointer (some ⟨q,0,none⟩)] w fun e w'=>e= .returned (.tuple #[])∧gY p q base bv l (fJ m st .qid).1 (fJ m st .qid).2 w w':=by
 have HP:=hid (ny h)
 have HNE:=hid (h.ne hm (by decide))
 have HM:=hid hm
 have HOL:=hid (And.intro ho h)
 clear hm ho h
 go_enter Tryz.func172,Tryz.ntmps172
 go_wp2_with fail
 refine HP.out.mono ?_
 rintro e w1 ⟨rfl,hs,hb⟩
 have HM1:=hid (hb.blk HM.out (fun h=>HNE.out h.symm))
 have gV:=hid (HOL.out.1.rd HOL.out.2 hb)
 have HS:=hid (And.intro hs hb)
 have k0:w1.cell? ⟨q,13,none⟩=some (.int .u8 (m.qid.kind:Int)):=Blk.cell HM1.out 13
 have k1:w1.cell? ⟨q,14,none⟩=some (.int .u32 (m.qid.vers:Int)):=Blk.cell HM1.out 14
 have k2:w1.cell? ⟨q,15,none⟩=some (.int .u64 (m.qid.path:Int)):=Blk.cell HM1.out 15
 have z0:w1.frozen? ⟨q,13,none⟩=false:=Blk.frozen HM1.out 13
 have z1:w1.frozen? ⟨q,14,none⟩=false:=Blk.frozen HM1.out 14
 have z2:w1.frozen? ⟨q,15,none⟩=false:=Blk.frozen HM1.out 15
 clear hs hb
 go_wp2_with fail
 go_end0
 refine⟨rfl,gY.end_ HS.out.1 HM1.out (m':= {m with qid:=(iU st).1}) ⟨gV.out.n,gV.out.q,gV.out.d⟩ HS.out.2 ?_ (((bM w1 q 13 _).trans (bM _ q 14 _)).trans (bM _ q 15 _))⟩
 have h:=((Blk.aW HM1.out 13 (.int .u8 ((iU st).1.kind:Int))).aW 14 (.int .u32 ((iU st).1.vers:Int))).aW 15 (.int .u64 ((iU st).1.path:Int))
 rw[Bh]at h
 exact h
theorem E_{w:World}{p q base:Nat}{m:Mg}{bv vn vq vd:Value}{l:List UInt8}{st:Option (List UInt8)}(hr:Ready w)(h8:8≤p)(hm:aK w q m vn vq vd)(ho:OL w base m vn vq vd)(hbase:base≤w.heap.size)(h:RdS w p bv l st):
  Calls Tryz.prog 212 #[.pointer (some ⟨p,0,none⟩),.pointer (some ⟨q,0,none⟩)] w fun e w'=>e= .returned (.tuple #[])∧gY p q base bv l (fJ m st .names).1 (fJ m st .names).2 w w':=by
 have hmf:=iF
 have HP:=hid (uP hr h8 h)
 have HNE:=hid (h.ne hm (by decide))
 have HM:=hid hm
 have HOL:=hid (And.intro ho h)
 have HBA:=hid hbase
 clear hm ho h hbase hr h8
 go_enter Tryz.func212,Tryz.ntmps212
 go_wp2_with fail
 refine HP.out.mono ?_
 rintro e w2 ⟨⟨v,rfl,hv⟩,hs,hb⟩
 have HM2:=hid (hb.blk HM.out (fun h=>HNE.out h.symm))
 have lN:=hid (HOL.out.1.rd HOL.out.2 hb)
 have HV:=hid (iw hv HBA.out)
 have HS2:=hid (And.intro hs hb)
 have k0:w2.cell? ⟨q,11,none⟩=some vn:=Blk.cell HM2.out 11
 have z0:w2.frozen? ⟨q,11,none⟩=false:=Blk.frozen HM2.out 11
 obtain⟨A,cap,rfl,hc,hmx⟩:=aJ hv
 clear hs hb hv hc hmx
 go_wp2_with fail
 go_end0
 exact⟨rfl,gY.end_ (m':= {m with names:=(jC bJ st).1}) HS2.out.1 HM2.out ⟨HV.out,lN.out.q,lN.out.d⟩ HS2.out.2 (aK.aW HM2.out _ _ (sZ ..)) (bM ..)⟩
theorem I7{w:World}{p q base:Nat}{m:Mg}{bv vn vq vd:Value}{l:List UInt8}{st:Option (List UInt8)}(hm:aK w q m vn vq vd)(ho:OL w base m vn vq vd)(hbase:base≤w.heap.size)(h:RdS w p bv l st):
  Calls Tryz.prog 224 #[.pointer (some ⟨p,0,none⟩),.pointer (some ⟨q,0,none⟩)] w fun e w'=>e= .returned (.tuple #[])∧gY p q base bv l (fJ m st .aV).1 (fJ m st .aV).2 w w':=by
 have hmf:=iF
 have HNE:=hid (h.ne hm (by decide))
 have hup:Below w.heap.size w (w.alloc (.cells #[.pointer (some ⟨p,0,none⟩)] 72)):=(Below.refl _ _).alloc (Nat.le_refl _) _
 have HM:=hid (Blk.below hm hup (Blk.lt hm))
 have HOL:=hid (And.intro (ho.below hup) (h.below hup))
 have HBA:=hid (Nat.le_trans hbase hup.size)
 have HO:=hid (Off.of_below (S:=fun i=>i=p) hup)
 have HC:=hid (Blk.new w 72 #[.pointer (some ⟨p,0,none⟩)])
 clear hm ho h hbase hup
 go_enter Tryz.func224,Tryz.ntmps224
 go_upto_region 1 with(fail)
 generalize w.alloc (.cells #[.pointer (some ⟨p,0,none⟩)] 72)=w0 at HM HOL HBA HO HC⊢
 generalize w.heap.size=c at HC⊢
 have kc:w0.cell? ⟨c,0,none⟩=_:=HC.out.cell 0
 go_wp2_with fail
 refine(uQ HC.out HOL.out.2).mono ?_
 rintro e w2 ⟨⟨v,rfl,hv⟩,hs,hb⟩
 have HM2:=hid (hb.blk HM.out (fun h=>HNE.out h.symm))
 have lN:=hid (HOL.out.1.rd HOL.out.2 hb)
 have HV:=hid (iw hv HBA.out)
 have HS2:=hid (And.intro hs (HO.out.trans hb))
 have k0:w2.cell? ⟨q,12,none⟩=some vq:=Blk.cell HM2.out 12
 have z0:w2.frozen? ⟨q,12,none⟩=false:=Blk.frozen HM2.out 12
 obtain⟨A,cap,rfl,hc,hmx⟩:=aJ hv
 clear hs hb hv hc hmx kc
 go_wp2_with fail
 go_end0
 exact⟨rfl,gY.end_ (m':= {m with aV:=(jC iU st).1}) HS2.out.1 HM2.out ⟨lN.out.n,HV.out,lN.out.d⟩ HS2.out.2 (aK.aW HM2.out _ _ (xA ..)) (bM ..)⟩
theorem I8{w:World}{p q base:Nat}{m:Mg}{bv vn vq vd:Value}{l:List UInt8}{st:Option (List UInt8)}(hr:Ready w)(h8:8≤p)(hm:aK w q m vn vq vd)(ho:OL w base m vn vq vd)(h:RdS w p bv l st):
  Calls Tryz.prog 236 #[.pointer (some ⟨p,0,none⟩),.pointer (some ⟨q,0,none⟩)] w fun e w'=>e= .returned (.tuple #[])∧gY p q base bv l (fJ m st .stat).1 (fJ m st .stat).2 w w':=by
 have HP:=hid (wZ hr h8 h)
 have HNE:=hid (h.ne hm (by decide))
 have HM:=hid hm
 have HOL:=hid (And.intro ho h)
 clear hm ho h hr h8
 go_enter Tryz.func236,Tryz.ntmps236
 go_wp2_with fail
 refine HP.out.mono ?_
 rintro e w1 ⟨rfl,hs,hb⟩
 have HM1:=hid (hb.blk HM.out (fun h=>HNE.out h.symm))
 have gV:=hid (HOL.out.1.rd HOL.out.2 hb)
 have HS:=hid (And.intro hs hb)
 clear hs hb
 go_wp2_with(refine dA HM1.out 23 (stL (stO st).1) _ (qc ..) (Nat.le_refl 36) (uY _) rfl _ _ _ rfl rfl rfl bP ?_;intro w2 hs hoo;have HMX:=hid hs;have HOX:=hid (hoo (fun i=>i=q) rfl w1 (Off.refl _ _));clear hs hoo)
 go_end0
 exact⟨rfl,gY.end_ HS.out.1 HM1.out (m':= {m with stat:=(stO st).1}) ⟨gV.out.n,gV.out.q,gV.out.d⟩ HS.out.2 HMX.out HOX.out⟩
theorem Dv(f:Fld){w:World}{p q base:Nat}{m:Mg}{bv vn vq vd:Value}{l:List UInt8}{st:Option (List UInt8)}{b:Nat}(hr:Ready w)(h8:8≤p)(hm:aK w q m vn vq vd)(ho:OL w base m vn vq vd)(hbase:base≤w.heap.size)(hc:yC w f b)(h:RdS w p bv l st):
  Calls Tryz.prog f.kt (#[.pointer (some ⟨p,0,none⟩),.pointer (some ⟨q,0,none⟩)]++f.cap b) w fun e w'=>e= .returned (.tuple #[])∧gY p q base bv l (fJ m st f).1 (fJ m st f).2 w w':=by
 have hne:=h.ne hm (by decide)
 cases f
 case bI=>
  refine(je (aS .bI rfl) (aZ .bI rfl q) (hc.2 rfl rfl) (fun w' hb=>⟨Blk.cell (hb.blk hm (fun h=>hne h.symm)) 2,Blk.frozen (hb.blk hm (fun h=>hne h.symm)) 2⟩) h).mono ?_
  rintro e w' ⟨rfl,w1,hs,hb,rfl⟩
  have hm1:aK w1 q m vn vq vd:=hb.blk hm (fun h=>hne h.symm)
  have ho1:=ho.rd h hb
  exact⟨rfl,gY.end_ hs hm1 ⟨ho1.n,ho1.q,ho1.d⟩ hb (aK.aW hm1 _ _ (zx ..)) (bM ..)⟩
 case version=>
  refine(lD hr h8 (aS .version rfl) (aZ .version rfl q) (hc.1 rfl) (fun w' hb=>⟨Blk.cell (hb.blk hm (fun h=>hne h.symm)) 3,Blk.frozen (hb.blk hm (fun h=>hne h.symm)) 3⟩) h).mono ?_
  rintro e w' ⟨rfl,w1,hs,hb,rfl⟩
  have hm1:aK w1 q m vn vq vd:=hb.blk hm (fun h=>hne h.symm)
  have ho1:=ho.rd h hb
  exact⟨rfl,gY.end_ hs hm1 ⟨ho1.n,ho1.q,ho1.d⟩ hb (aK.aW hm1 _ _ (uj ..)) (bM ..)⟩
 case dB=>
  refine(je (aS .dB rfl) (aZ .dB rfl q) (hc.2 rfl rfl) (fun w' hb=>⟨Blk.cell (hb.blk hm (fun h=>hne h.symm)) 4,Blk.frozen (hb.blk hm (fun h=>hne h.symm)) 4⟩) h).mono ?_
  rintro e w' ⟨rfl,w1,hs,hb,rfl⟩
  have hm1:aK w1 q m vn vq vd:=hb.blk hm (fun h=>hne h.symm)
  have ho1:=ho.rd h hb
  exact⟨rfl,gY.end_ hs hm1 ⟨ho1.n,ho1.q,ho1.d⟩ hb (aK.aW hm1 _ _ (Dn ..)) (bM ..)⟩
 case uname=>
  refine(lD hr h8 (aS .uname rfl) (aZ .uname rfl q) (hc.1 rfl) (fun w' hb=>⟨Blk.cell (hb.blk hm (fun h=>hne h.symm)) 5,Blk.frozen (hb.blk hm (fun h=>hne h.symm)) 5⟩) h).mono ?_
  rintro e w' ⟨rfl,w1,hs,hb,rfl⟩
  have hm1:aK w1 q m vn vq vd:=hb.blk hm (fun h=>hne h.symm)
  have ho1:=ho.rd h hb
  exact⟨rfl,gY.end_ hs hm1 ⟨ho1.n,ho1.q,ho1.d⟩ hb (aK.aW hm1 _ _ (zy ..)) (bM ..)⟩
 case bF=>
  refine(lD hr h8 (aS .bF rfl) (aZ .bF rfl q) (hc.1 rfl) (fun w' hb=>⟨Blk.cell (hb.blk hm (fun h=>hne h.symm)) 6,Blk.frozen (hb.blk hm (fun h=>hne h.symm)) 6⟩) h).mono ?_
  rintro e w' ⟨rfl,w1,hs,hb,rfl⟩
  have hm1:aK w1 q m vn vq vd:=hb.blk hm (fun h=>hne h.symm)
  have ho1:=ho.rd h hb
  exact⟨rfl,gY.end_ hs hm1 ⟨ho1.n,ho1.q,ho1.d⟩ hb (aK.aW hm1 _ _ (zA ..)) (bM ..)⟩
 case bH=>
  refine(lD hr h8 (aS .bH rfl) (aZ .bH rfl q) (hc.1 rfl) (fun w' hb=>⟨Blk.cell (hb.blk hm (fun h=>hne h.symm)) 7,Blk.frozen (hb.blk hm (fun h=>hne h.symm)) 7⟩) h).mono ?_
  rintro e w' ⟨rfl,w1,hs,hb,rfl⟩
  have hm1:aK w1 q m vn vq vd:=hb.blk hm (fun h=>hne h.symm)
  have ho1:=ho.rd h hb
  exact⟨rfl,gY.end_ hs hm1 ⟨ho1.n,ho1.q,ho1.d⟩ hb (aK.aW hm1 _ _ (zB ..)) (bM ..)⟩
 case aT=>exact Dt hm ho h
 case fid=>
  refine(je (aS .fid rfl) (aZ .fid rfl q) (hc.2 rfl rfl) (fun w' hb=>⟨Blk.cell (hb.blk hm (fun h=>hne h.symm)) 9,Blk.frozen (hb.blk hm (fun h=>hne h.symm)) 9⟩) h).mono ?_
  rintro e w' ⟨rfl,w1,hs,hb,rfl⟩
  have hm1:aK w1 q m vn vq vd:=hb.blk hm (fun h=>hne h.symm)
  have ho1:=ho.rd h hb
  exact⟨rfl,gY.end_ hs hm1 ⟨ho1.n,ho1.q,ho1.d⟩ hb (aK.aW hm1 _ _ (GR ..)) (bM ..)⟩
 case aU=>
  refine(je (aS .aU rfl) (aZ .aU rfl q) (hc.2 rfl rfl) (fun w' hb=>⟨Blk.cell (hb.blk hm (fun h=>hne h.symm)) 10,Blk.frozen (hb.blk hm (fun h=>hne h.symm)) 10⟩) h).mono ?_
  rintro e w' ⟨rfl,w1,hs,hb,rfl⟩
  have hm1:aK w1 q m vn vq vd:=hb.blk hm (fun h=>hne h.symm)
  have ho1:=ho.rd h hb
  exact⟨rfl,gY.end_ hs hm1 ⟨ho1.n,ho1.q,ho1.d⟩ hb (aK.aW hm1 _ _ (xk ..)) (bM ..)⟩
 case names=>exact E_ hr h8 hm ho hbase h
 case aV=>exact I7 hm ho hbase h
 case qid=>exact Lp hm ho h
 case mode=>exact I4 hm ho h
 case aQ=>
  refine(je (aS .aQ rfl) (aZ .aQ rfl q) (hc.2 rfl rfl) (fun w' hb=>⟨Blk.cell (hb.blk hm (fun h=>hne h.symm)) 17,Blk.frozen (hb.blk hm (fun h=>hne h.symm)) 17⟩) h).mono ?_
  rintro e w' ⟨rfl,w1,hs,hb,rfl⟩
  have hm1:aK w1 q m vn vq vd:=hb.blk hm (fun h=>hne h.symm)
  have ho1:=ho.rd h hb
  exact⟨rfl,gY.end_ hs hm1 ⟨ho1.n,ho1.q,ho1.d⟩ hb (aK.aW hm1 _ _ (xu ..)) (bM ..)⟩
 case name=>
  refine(lD hr h8 (aS .name rfl) (aZ .name rfl q) (hc.1 rfl) (fun w' hb=>⟨Blk.cell (hb.blk hm (fun h=>hne h.symm)) 18,Blk.frozen (hb.blk hm (fun h=>hne h.symm)) 18⟩) h).mono ?_
  rintro e w' ⟨rfl,w1,hs,hb,rfl⟩
  have hm1:aK w1 q m vn vq vd:=hb.blk hm (fun h=>hne h.symm)
  have ho1:=ho.rd h hb
  exact⟨rfl,gY.end_ hs hm1 ⟨ho1.n,ho1.q,ho1.d⟩ hb (aK.aW hm1 _ _ (Dq ..)) (bM ..)⟩
 case perm=>
  refine(je (aS .perm rfl) (aZ .perm rfl q) (hc.2 rfl rfl) (fun w' hb=>⟨Blk.cell (hb.blk hm (fun h=>hne h.symm)) 19,Blk.frozen (hb.blk hm (fun h=>hne h.symm)) 19⟩) h).mono ?_
  rintro e w' ⟨rfl,w1,hs,hb,rfl⟩
  have hm1:aK w1 q m vn vq vd:=hb.blk hm (fun h=>hne h.symm)
  have ho1:=ho.rd h hb
  exact⟨rfl,gY.end_ hs hm1 ⟨ho1.n,ho1.q,ho1.d⟩ hb (aK.aW hm1 _ _ (set_perm ..)) (bM ..)⟩
 case offset=>exact Du hm ho h
 case count=>
  refine(je (aS .count rfl) (aZ .count rfl q) (hc.2 rfl rfl) (fun w' hb=>⟨Blk.cell (hb.blk hm (fun h=>hne h.symm)) 21,Blk.frozen (hb.blk hm (fun h=>hne h.symm)) 21⟩) h).mono ?_
  rintro e w' ⟨rfl,w1,hs,hb,rfl⟩
  have hm1:aK w1 q m vn vq vd:=hb.blk hm (fun h=>hne h.symm)
  have ho1:=ho.rd h hb
  exact⟨rfl,gY.end_ hs hm1 ⟨ho1.n,ho1.q,ho1.d⟩ hb (aK.aW hm1 _ _ (zC ..)) (bM ..)⟩
 case data=>exact I5 hm ho hbase h
 case stat=>exact I8 hr h8 hm ho h
def lK(w:World)(lo hi:Nat)(v:Value)(fs:List Fld):Prop:=∃A c,v= .slice A fs.length c∧fs.length≤c∧c≤maxLen∧∀k f,fs[k]? =some f→∃ad,A=some ad∧lo≤ad.block∧ad.block<hi∧w.cell? (ad.add k)=some (.int .u8 (f.ix:Int))
theorem qg(a:Addr)(k:Nat):(a.add k).block=a.block:=by
 unfold Addr.add
 split<;>rfl
theorem lK.keep{w w':World}{lo hi:Nat}{v:Value}{fs:List Fld}(h:lK w lo hi v fs)(hk:∀i,lo≤i→i<hi→w'.heap[i]? =w.heap[i]?):lK w' lo hi v fs:=by
 obtain⟨A,c,e,h1,h2,h3⟩:=h
 refine⟨A,c,e,h1,h2,fun k f hf=> ?_⟩
 obtain⟨ad,rfl,hl,hh,hc⟩:=h3 k f hf
 refine⟨ad,rfl,hl,hh, ?_⟩
 rw[←hc]
 exact World.cell?_of_block (hk _ (by rw[qg];exact hl) (by rw[qg];exact hh))
theorem lK.at_{w:World}{lo hi n c:Nat}{A:Option Addr}{fs:List Fld}(h:lK w lo hi (.slice A n c) fs){k:Nat}{f:Fld}(hf:fs[k]? =some f):∃ad,A=some ad∧w.cell? (ad.add k)=some (.int .u8 (f.ix:Int)):=by
 obtain⟨A',c',e, -, -,h3⟩:=h
 injection e with e1 e2 e3
 subst e1
 obtain⟨ad,h1, -, -,h4⟩:=h3 k f hf
 exact⟨ad,h1,h4⟩
theorem Fa(r n:Nat)(hr:r<27):mP n r= .slice none 0 0∨∃j c,mP n r= .slice (some ⟨n+j,0,none⟩) c c:=by
 match r,hr with
 |0,_=>exact .inr ⟨0,_,rfl⟩
 |1,_=>exact .inr ⟨1,_,rfl⟩
 |2,_=>exact .inr ⟨2,_,rfl⟩
 |3,_=>exact .inr ⟨3,_,rfl⟩
 |4,_=>exact .inr ⟨4,_,rfl⟩
 |5,_=>exact .inr ⟨5,_,rfl⟩
 |6,_=>exact .inr ⟨6,_,rfl⟩
 |7,_=>exact .inr ⟨7,_,rfl⟩
 |8,_=>exact .inl rfl
 |9,_=>exact .inr ⟨8,_,rfl⟩
 |10,_=>exact .inr ⟨9,_,rfl⟩
 |11,_=>exact .inr ⟨10,_,rfl⟩
 |12,_=>exact .inr ⟨11,_,rfl⟩
 |13,_=>exact .inr ⟨12,_,rfl⟩
 |14,_=>exact .inr ⟨13,_,rfl⟩
 |15,_=>exact .inr ⟨14,_,rfl⟩
 |16,_=>exact .inr ⟨15,_,rfl⟩
 |17,_=>exact .inr ⟨16,_,rfl⟩
 |18,_=>exact .inr ⟨17,_,rfl⟩
 |19,_=>exact .inr ⟨18,_,rfl⟩
 |20,_=>exact .inl rfl
 |21,_=>exact .inr ⟨19,_,rfl⟩
 |22,_=>exact .inl rfl
 |23,_=>exact .inr ⟨20,_,rfl⟩
 |24,_=>exact .inr ⟨21,_,rfl⟩
 |25,_=>exact .inr ⟨22,_,rfl⟩
 |26,_=>exact .inl rfl
 |r+27,h=>exact absurd h (by omega)
theorem lK.of{w:World}{lo B:Nat}{v:Value}{fs:List Fld}(h:jq w B v fs)(hv:v= .slice none 0 0∨∃j c,v= .slice (some ⟨lo+j,0,none⟩) c c):lK w lo B v fs:=by
 have h0:=h
 obtain⟨A,c,rfl,h1,h2, -⟩:=h
 refine⟨A,c,rfl,h1,h2,fun k f hf=> ?_⟩
 obtain⟨ad,rfl,hb,hc⟩:=h0.at_ hf
 rcases hv with hv|⟨j,c',hv⟩
 ·cases hv
 ·injection hv with hv
  injection hv with hv
  subst hv
  exact⟨_,rfl,Nat.le_add_right _ _,hb,hc⟩
def I9(k:Nat)(w:World)(e:Ending)(w':World):Prop:=match bQ k with
 |some fs=>∃v,e= .returned (.tuple #[.agg #[.int .u8 (k:Int),.string (ofL (fO k)),v],.bool true])∧lK w' w.heap.size w'.heap.size v fs
 |none=>e= .returned (.tuple #[.agg #[.int .u8 0,.string ⟨#[]⟩,.slice none 0 0],.bool false])
theorem lK.wide{w:World}{lo lo' hi hi':Nat}{v:Value}{fs:List Fld}(h:lK w lo hi v fs)(h1:lo'≤lo)(h2:hi≤hi'):lK w lo' hi' v fs:=by
 obtain⟨A,c,e,h3,h4,h5⟩:=h
 refine⟨A,c,e,h3,h4,fun k f hf=> ?_⟩
 obtain⟨ad,rfl,hl,hh,hc⟩:=h5 k f hf
 exact⟨ad,rfl,Nat.le_trans h1 hl,Nat.lt_of_lt_of_le hh h2,hc⟩
theorem xC(k:Nat)(w:World):Calls Tryz.prog 43 #[.int .u8 (k:Int)] w fun e w'=>Below w.heap.size w w'∧I9 k w e w':=by
 refine(ug (k:Int) w).mono ?_
 rintro e w' ⟨hb,n,hn1,hn2,hk,⟨hi,rfl⟩|⟨hi,rfl⟩⟩
 ·refine⟨hb, ?_⟩
  obtain⟨fs,h1,h2,h3⟩:=uU _ hi
  rw[o9 _ hi]at h1 h2
  unfold I9
  rw[show((k:Int)).toNat=k from rfl]at h1 h2
  rw[h1]
  exact⟨_,by rw[o9 _ hi,h2],(lK.of ((h3 w' n hk).more hn2) (Fa _ n hi)).wide hn1 (Nat.le_refl _)⟩
 ·refine⟨hb, ?_⟩
  unfold I9
  cases hf:bQ k with
  |none=>rfl
  |some fs=>
   obtain⟨-, -,h1,h2⟩:=iP hf
   have:=wL (k-100) (by omega) (by rw[show 100+(k-100)=k by omega,hf];simp)
   rw[show 100+(k-100)=k by omega,hi]at this
   exact absurd this (by decide)
abbrev mgN(m:Mg):List Value:=aF m (.slice none 0 0) (.slice none 0 0) (.slice none 0 0)
theorem bW(m:Mg)(k t:Nat)(vn vq vd:Value):over (mgN (head k t)).toArray 0 (aF m vn vq vd)=(aF m vn vq vd).toArray:=by kernel_rfl
theorem bT(m:Mg){vn vq vd:Value}(h1:vn.oneCell'=true)(h2:vq.oneCell'=true)(h3:vd.oneCell'=true):(aF m vn vq vd).toArray.all (·.oneCell')=true:=by
 simp only[List.all_toArray,List.all_cons,h1,h2,h3]
 rfl
theorem OL.nil_(w:World)(base:Nat)(k t:Nat):OL w base (head k t) (.slice none 0 0) (.slice none 0 0) (.slice none 0 0):=⟨dS _ _ _ _,dS _ _ _ _,dS _ _ _ _⟩
theorem bG{w:World}{base n size:Nat}{e:TypeId}{v:Value}{xs:List Value}(h:w.ownsRow base e size v n xs):v.oneCell'=true:=by
 obtain⟨A,c,rfl, -⟩:=aJ h
 rfl
def TI(r:Mg×Nat)(w:World)(e:Ending)(w':World):Prop:=
 (∃vn vq vd,e= .returned (.tuple #[iM r.1 vn vq vd,.int .i64 (r.2:Int)])∧OL w' w.heap.size r.1 vn vq vd)∧Below w.heap.size w w'
theorem fK{fn:Func}{tmps:Array Value}{w:World}{q i j:Nat}{m:Mg}{vn vq vd:Value}{er:Int}(hr:fn.results= #[.cell i 41,.tmp j])(h2:tmps.getD i undef= .pointer (some ⟨q,0,none⟩))(h3:tmps.getD j undef= .int .i64 er)(hk:aK w q m vn vq vd):
  (results fn tmps).run Tryz.prog w= .ok (.tuple #[iM m vn vq vd,.int .i64 er]) w:=by
 have h2':tmps[i]?.getD undef= .pointer (some ⟨q,0,none⟩):=by simpa using h2
 have h3':tmps[j]?.getD undef= .int .i64 er:=by simpa using h3
 have hl7:(loadVar 41 ⟨q,0,none⟩).run Tryz.prog w= .ok (iM m vn vq vd) w:=
  run_loadVar_mid w q 0 41 (aF m vn vq vd) _ (Blk.range hk 0 _ (by simp)) Tryz.underlying41 rfl aB
 simp[results,hr,h2',h3',asAddr,hl7]
theorem xE(x:List UInt8)(n k:Nat)(h:n+k≤x.length):dF k (some (x.drop n))=(aH ((x.drop n).take k),some (x.drop (n+k))):=by
 rw[lT (by rw[List.length_drop];omega),List.drop_drop]
theorem rV(hv:Value)(x:List UInt8)(w:World)(hx:Bys w w.heap.size hv x)(hr:Ready w)(hbig:x.length≤16777216):
  Calls Tryz.prog 13 #[hv] w (TI (dec x) w):=by
 have hup:Below w.heap.size w (w.alloc (.cells (mgN (head 0 0)).toArray 41)):=(Below.refl _ _).alloc (Nat.le_refl _) _
 have HZ:=hid (show aK (w.alloc (.cells (mgN (head 0 0)).toArray 41)) w.heap.size (head 0 0) (.slice none 0 0) (.slice none 0 0) (.slice none 0 0)from Blk.new w _ _)
 have HB:=hid hup
 have hsz:(w.alloc (.cells (mgN (head 0 0)).toArray 41)).heap.size=w.heap.size+1:=World.size_alloc _ _
 have HX:=hid ((hx.below hup).more (show w.heap.size≤(w.alloc (.cells (mgN (head 0 0)).toArray 41)).heap.size from by omega))
 have HRD:=hid (hr.below hup (Nat.le_refl _))
 have H8:=hid hr.eight
 have HD:=hid (Oh x)
 have Em:=hid hbig
 obtain⟨A,cap,rfl,hc,hm, -⟩:=hx
 clear hr hup hbig
 go_enter Tryz.func13,Tryz.ntmps13
 go_upto_region 1 with(fail)
 change Code.wp _ _ _ _ (w.alloc (.cells (mgN (head 0 0)).toArray 41))
 generalize w.alloc (.cells (mgN (head 0 0)).toArray 41)=w0 at HZ HB hsz HX HRD⊢
 generalize hz:w.heap.size=z at HZ HB hsz H8⊢
 have HZZ:=hid hz;clear hz
 by_cases hlen:x.length<7∨65536<x.length
 ·have HE:=hid (show dec x=(head 0 0,31)from by rw[HD.out,if_pos hlen])
  have HL:=hid hlen
  rcases hlen with hlen|hlen
  all_goals(
   go_wp2_with(refine dA HZ.out 0 (mgN (head 0 0)) _ (bW ..) (Nat.le_refl 36) (bT _ rfl rfl rfl) rfl _ _ _ rfl rfl rfl aB ?_;intro wz hs ho;have HZF:=hid hs;have HOF:=hid (ho (fun i=>z≤i) (Nat.le_refl _) w0 (Off.refl _ _));clear hs ho)
   refine bodyPost_ret (fK (m:=head 0 0) (er:=31) rfl rfl rfl HZF.out) rfl ?_
   rw[HE.out]
   have hz:=HZZ.out
   exact⟨⟨_,_,_,rfl,OL.nil_ ..⟩,by rw[hz];exact HB.out.trans (HOF.out.below (fun i hi=>hi) (by omega))⟩)
 ·have h7:7≤x.length:=by omega
  have h6:x.length≤65536:=by omega
  go_wp2_with fail
  refine(uO _ x HX.out Em.out).mono ?_
  rintro e w1 ⟨p,bv,rfl,hp,hs,hb⟩
  have HS1:=hid hs
  have HP:=hid (show z<p from by omega)
  have HZ1:=hid (Blk.below HZ.out hb (Blk.lt HZ.out))
  have HB1:=hid (HB.out.trans (hb.mono (by omega)))
  have Lr:=hid (HRD.out.below hb (Nat.le_refl _))
  clear hs hb hp HZ HB HRD HX
  go_wp2_with fail
  refine(iZ HS1.out).mono ?_
  have e4:=xE x 0 4 (by omega)
  rw[List.drop_zero,Nat.zero_add]at e4
  rw[e4]
  rintro e w2 ⟨rfl,hs,hb⟩
  have HS2:=hid hs
  have HZ2:=hid (hb.blk HZ1.out (by have:=HP.out;omega))
  have HO2:=hid (show Off (fun i=>z≤i) w1 w2 from hb.mono fun k _ hk=>by have:=HP.out;have hk:k=p:=hk;omega)
  clear hs hb e4
  have hn4:aH (x.take 4)<4294967296:=Nat.lt_of_lt_of_le (dD _) (show 256^_≤256^4 from Nat.pow_le_pow_right (by decide) (by rw[List.length_take];omega))
  have hw4:wrap64 (aH (x.take 4):Int)=(aH (x.take 4):Int):=IntWalk.wrap64_in _ (by omega)
  by_cases hsame:aH (x.take 4)=x.length
  ·have hne:((aH (x.take 4):Int) != (x.length:Int))=false:=by rw[hsame];simp
   have HD2:=hid (HD.out.trans ((if_neg hlen).trans (if_neg (by omega))))
   clear HD
   go_wp2_with fail
   refine(qU HS2.out).mono ?_
   rw[xE x 4 1 (by omega)]
   rintro e w3 ⟨rfl,hs,hb⟩
   have HS3:=hid hs
   have HZ3:=hid (hb.blk HZ2.out (by have:=HP.out;omega))
   have HO3:=hid (HO2.out.trans (hb.mono fun k _ hk=>by have:=HP.out;have hk:k=p:=hk;omega))
   clear hs hb HS2 HZ2 HO2
   go_wp2_with fail
   refine(kE HS3.out).mono ?_
   rw[xE x 5 2 (by omega)]
   rintro e w4 ⟨rfl,hs,hb⟩
   have HS4:=hid hs
   have HZ4:=hid (hb.blk HZ3.out (by have:=HP.out;omega))
   have HO4:=hid (HO3.out.trans (hb.mono fun k _ hk=>by have:=HP.out;have hk:k=p:=hk;omega))
   clear hs hb HS3 HZ3 HO3
   have hkl:aH ((x.drop 4).take 1)<256:=Nat.lt_of_lt_of_le (dD _) (show 256^_≤256^1 from Nat.pow_le_pow_right (by decide) (by rw[List.length_take];omega))
   dsimp only at HS4⊢
   generalize aH ((x.drop 4).take 1)=kd at*
   generalize aH ((x.drop 5).take 2)=tg at*
   have H0:=hid (show z<w4.heap.size from by have:=Blk.lt HZ4.out;omega)
   have HPL:=hid (show p<w4.heap.size from HS4.out.lt)
   have HAL:=hid (World.size_alloc w4 (.cells (mgN (head 0 0)).toArray 41))
   go_wp2_with(change wpList _ _ _ _ _ (w4.alloc (.cells (mgN (head 0 0)).toArray 41));have HH5:=hid (show aK (w4.alloc (.cells (mgN (head 0 0)).toArray 41)) w4.heap.size (head 0 0) (.slice none 0 0) (.slice none 0 0) (.slice none 0 0)from Blk.new w4 _ _);have HS5:=hid (HS4.out.below ((Below.refl _ _).alloc (Nat.le_refl _) (.cells (mgN (head 0 0)).toArray 41)));have HZ5:=hid (Blk.alloc HZ4.out (.cells (mgN (head 0 0)).toArray 41));have HO5:=hid (HO4.out.alloc (.cells (mgN (head 0 0)).toArray 41));generalize w4.alloc (.cells (mgN (head 0 0)).toArray 41)=w5 at HH5 HS5 HZ5 HO5 HAL⊢;generalize w4.heap.size=h at HH5 H0 HPL HAL⊢;refine dA HH5.out 0 (mgN (head kd tg)) _ (bW ..) (Nat.le_refl 36) (bT _ rfl rfl rfl) rfl _ _ _ rfl rfl rfl aB ?_;intro w6 hs ho;have HH6:=hid (show aK w6 h (head kd tg) (.slice none 0 0) (.slice none 0 0) (.slice none 0 0)from hs);have kh:w6.cell? ⟨h,0,none⟩=some (.int .u8 (kd:Int)):=Blk.cell hs 0;have HS6:=hid (HS5.out.off (ho (fun i=>i=h) rfl w5 (Off.refl _ _)) (by have:=HPL.out;omega) (dZ HH5.out (by decide)));have HZ6:=hid ((ho (fun i=>i=h) rfl w5 (Off.refl _ _)).blk HZ5.out (by have:=H0.out;omega));have HO6:=hid (ho (fun i=>z≤i) (by have:=H0.out;omega) w1 HO5.out);have HHL:=hid (show h<w6.heap.size from Blk.lt hs);clear hs ho HS4 HZ4 HO4 HH5 HS5 HZ5 HO5)
   refine(xC kd w6).mono ?_
   rintro e w7 ⟨hb,hrow⟩
   unfold I9 at hrow
   have HH7:=hid (Blk.below HH6.out hb (Blk.lt HH6.out))
   have HZ7:=hid (Blk.below HZ6.out hb (Blk.lt HZ6.out))
   have HS7:=hid (HS6.out.below hb)
   have HO7:=hid (HO6.out.trans (Off.of_below hb))
   have QB:=hid hb.size
   clear hb kh HH6 HZ6 HS6 HO6
   cases hk:bQ kd with
   |none=>
    rw[hk]at hrow HD2
    subst hrow
    have HE:=hid HD2.out
    clear HD2 hk
    have HH8:=hid (show aK (w7.alloc (.cells #[.int .u8 0,.string ⟨#[]⟩,.slice none 0 0] 79)) h (head kd tg) (.slice none 0 0) (.slice none 0 0) (.slice none 0 0)from Blk.alloc HH7.out _)
    have HZ8:=hid (show aK (w7.alloc (.cells #[.int .u8 0,.string ⟨#[]⟩,.slice none 0 0] 79)) z (head 0 0) (.slice none 0 0) (.slice none 0 0) (.slice none 0 0)from Blk.alloc HZ7.out _)
    have HO8:=hid (HO7.out.alloc (.cells #[.int .u8 0,.string ⟨#[]⟩,.slice none 0 0] 79))
    go_upto_region 8 with(fail)
    generalize w7.alloc (.cells #[.int .u8 0,.string ⟨#[]⟩,.slice none 0 0] 79)=w8 at HH8 HZ8 HO8⊢
    go_wp2_with(first|(refine wlw HH8.out 0 (mgN (head kd tg)) rfl rfl _ _ rfl rfl _ Tryz.underlying41 rfl aB ?_)|(refine dA HZ8.out 0 (mgN (head kd tg)) _ (bW ..) (Nat.le_refl 36) (bT _ rfl rfl rfl) rfl _ _ _ rfl rfl rfl aB ?_;intro wz hs ho;have HZF:=hid hs;have HOF:=hid (ho (fun i=>z≤i) (Nat.le_refl _) w1 HO8.out);clear hs ho))
    refine bodyPost_ret (fK (m:=head kd tg) (er:=32) rfl rfl rfl HZF.out) rfl ?_
    rw[HE.out]
    have hz:=HZZ.out
    exact⟨⟨_,_,_,rfl,OL.nil_ ..⟩,by rw[hz];exact HB1.out.trans (HOF.out.below (fun i hi=>hi) (by have:=Blk.lt HZ1.out;omega))⟩
   |some fs=>
    rw[hk]at hrow HD2
    obtain⟨fvl,rfl,hfl⟩:=hrow
    have HK:=hid hk
    have HF7:=hid hfl
    obtain⟨fA,fc,rfl,hfc,hfm, -⟩:=hfl
    have GN:fs.length≤20:=by
     have hh:=HK.out
     unfold bQ at hh
     split at hh<;>first|(obtain rfl:=Option.some.inj hh;decide)|(exact absurd hh (by simp))
    clear hk
    have hup:Below w7.heap.size w7 (w7.alloc (.cells #[.int .u8 (kd:Int),.string (ofL (fO kd)),.slice fA fs.length fc] 79)):=(Below.refl _ _).alloc (Nat.le_refl _) _
    have HR8:=hid (Blk.new w7 79 #[.int .u8 (kd:Int),.string (ofL (fO kd)),.slice fA fs.length fc])
    have HH8:=hid (Blk.below HH7.out hup (Blk.lt HH7.out))
    have HZ8:=hid (Blk.below HZ7.out hup (Blk.lt HZ7.out))
    have HS8:=hid (HS7.out.below hup)
    have HO8:=hid (HO7.out.trans (Off.of_below hup))
    have HF8:=hid (HF7.out.keep fun i _ hi=>hup.block i hi)
    have QC:=hid (World.size_alloc w7 (.cells #[.int .u8 (kd:Int),.string (ofL (fO kd)),.slice fA fs.length fc] 79))
    clear hup HH7 HZ7 HS7 HO7 HF7
    go_upto_region 8 with(fail)
    generalize w7.alloc (.cells #[.int .u8 (kd:Int),.string (ofL (fO kd)),.slice fA fs.length fc] 79)=w8 at HR8 HH8 HZ8 HS8 HO8 HF8 QC⊢
    generalize w7.heap.size=rb at HR8 HF8 QB QC⊢
    have uS:=hid (show h<rb∧rb<w8.heap.size from by have:=HHL.out;have:=QB.out;have:=QC.out;omega)
    have Fb:=hid (show z<rb∧p<rb∧p<w6.heap.size from by have:=HHL.out;have:=QB.out;have:=HPL.out;have:=H0.out;omega)
    go_upto_region 11 with(first|(refine wlw HH8.out 0 (mgN (head kd tg)) rfl rfl _ _ rfl rfl _ Tryz.underlying41 rfl aB ?_)|(change wpList _ _ _ _ _ (w8.alloc (.cells (mgN (head 0 0)).toArray 41));have HG9:=hid (show aK (w8.alloc (.cells (mgN (head 0 0)).toArray 41)) w8.heap.size (head 0 0) (.slice none 0 0) (.slice none 0 0) (.slice none 0 0)from Blk.new w8 _ _);have HS9:=hid (HS8.out.below ((Below.refl _ _).alloc (Nat.le_refl _) (.cells (mgN (head 0 0)).toArray 41)));have HZ9:=hid (Blk.alloc HZ8.out (.cells (mgN (head 0 0)).toArray 41));have HH9:=hid (Blk.alloc HH8.out (.cells (mgN (head 0 0)).toArray 41));have HR9:=hid (Blk.alloc HR8.out (.cells (mgN (head 0 0)).toArray 41));have HF9:=hid (HF8.out.keep fun i _ hi=>Below.heap_alloc w8 (.cells (mgN (head 0 0)).toArray 41) i (by have:=uS.out;omega));have HO9:=hid (HO8.out.alloc (.cells (mgN (head 0 0)).toArray 41));generalize w8.alloc (.cells (mgN (head 0 0)).toArray 41)=w9 at HG9 HS9 HZ9 HH9 HR9 HF9 HO9⊢;generalize w8.heap.size=g at HG9 uS⊢;refine dA HG9.out 0 (mgN (head kd tg)) _ (bW ..) (Nat.le_refl 36) (bT _ rfl rfl rfl) rfl _ _ _ rfl rfl rfl aB ?_;intro wa hs ho;have HGA:=hid (show aK wa g (head kd tg) (.slice none 0 0) (.slice none 0 0) (.slice none 0 0)from hs);have HSA:=hid (HS9.out.off (ho (fun i=>i=g) rfl w9 (Off.refl _ _)) (by have:=uS.out;have:=Fb.out;omega) (dZ HG9.out (by decide)));have HZA:=hid ((ho (fun i=>i=g) rfl w9 (Off.refl _ _)).blk HZ9.out (by have:=uS.out;have:=Fb.out;omega));have HHA:=hid ((ho (fun i=>i=g) rfl w9 (Off.refl _ _)).blk HH9.out (by have:=uS.out;omega));have HRA:=hid ((ho (fun i=>i=g) rfl w9 (Off.refl _ _)).blk HR9.out (by have:=uS.out;omega));have HFA:=hid (HF9.out.keep fun i _ hi=>(ho (fun i=>i=g) rfl w9 (Off.refl _ _)).block i (by have:=Blk.lt HR9.out;omega) (by have:=uS.out;omega));have HOA:=hid (ho (fun i=>z≤i) (by have:=uS.out;have:=Fb.out;omega) w1 HO9.out);clear hs ho HS8 HZ8 HH8 HR8 HF8 HO8 HG9 HS9 HZ9 HH9 HR9 HF9 HO9))
    have k2:wa.cell? ⟨rb,2,none⟩=some (.slice fA fs.length fc):=Blk.cell HRA.out 2
    have HZL:=hid (Blk.lt HZA.out)
    go_upto_region 12 with(fail)
    clear k2
    have HNE:=hid (show p≠g∧z≠p∧z≠g∧rb≠p∧rb≠g∧h≠g∧h≠p from by have:=uS.out;have:=Fb.out;have:=HP.out;have:=HPL.out;have:=H0.out;omega)
    go_loopw [10,49] (fun _ i wr=>∃k:Nat,k≤fs.length∧i= .int .i64 k∧gY p g z bv x (iE (fs.take k) (head kd tg) (some (x.drop 7))).1 (iE (fs.take k) (head kd tg) (some (x.drop 7))).2 wa wr) (fun _ i _=>fs.length-(intOf i).toNat)
    case atStart=>
     exact⟨0,by omega,rfl,HSA.out,⟨_,_,_,HGA.out,OL.nil_ ..⟩,Off.refl _ _⟩
    case round=>
     obtain⟨k,hk,rfl,hs,⟨vn,vq,vd,hmb,hol⟩,ho⟩:=hrel
     have HSR:=hid hs
     have HMR:=hid hmb
     have HOL:=hid hol
     have HOR:=hid ho
     clear hs hmb hol ho
     by_cases hlt:k<fs.length
     ·obtain⟨f,hf⟩:∃f,fs[k]? =some f:=⟨fs[k],List.getElem?_eq_getElem _⟩
      obtain⟨ad,rfl,kx⟩:=(HFA.out.keep fun i hlo hi=>HOR.out.block i (by have:=Blk.lt HRA.out;omega) (by have:=Fb.out;have:=uS.out;omega)).at_ hf
      have HFF:=hid (show iE (fs.take (k+1)) (head kd tg) (some (x.drop 7))=fJ (iE (fs.take k) (head kd tg) (some (x.drop 7))).1 (iE (fs.take k) (head kd tg) (some (x.drop 7))).2 f from by
       rw[List.take_add_one,hf,Option.toList_some,rP])
      generalize iE (fs.take k) (head kd tg) (some (x.drop 7))=T at HSR HMR HOL HFF⊢
      clear hf
      go_wp2_with fail
      refine(jY f wr).mono ?_
      rintro e w11 ⟨rfl,hb,hcap⟩
      have hent:=IE f
      have hfd:=fun a b c d e f' g w=>(EI a b c d e f' g w).2.2.2.1
      have HTK:=hid (Dv f (Lr.out.low (show Below 8 w1 w11 from(HOA.out.below (fun i hi=>by have:=H8.out;omega) (by have:=Lr.out.eight;omega)).trans ((HOR.out.below (fun i hi=>by have:=HP.out;have:=H8.out;have:=uS.out;have:=Fb.out;omega) (by have:=HZL.out;have:=H8.out;omega)).trans (hb.mono (by have:=HOR.out.size;have:=HZL.out;have:=H8.out;omega)))) (Nat.le_refl 8)) (by have:=HP.out;have:=H8.out;omega) (Blk.below HMR.out hb (Blk.lt HMR.out)) (HOL.out.below hb) (by have:=HOR.out.size;have:=HZL.out;have:=hb.size;omega) hcap (HSR.out.below hb))
      have A_:=hid (HOR.out.trans (Off.of_below hb))
      clear hb hcap kx HSR HMR HOL
      go_wp2_with fail
      refine HTK.out.mono ?_
      rintro e w12 ⟨rfl,hs,hmm,ho⟩
      have wU:=hid hs
      have Ls:=hid hmm
      have wV:=hid (A_.out.trans ho)
      clear hs hmm ho hent hfd
      go_wp2_with fail
      go_roundw
      case rel=>
       refine⟨k+1,by omega,by go_num, ?_, ?_,wV.out⟩
       ·rw[HFF.out]
        exact wU.out
       ·rw[HFF.out]
        exact Ls.out
      case measure=>simp[intOf];omega
     ·have hkl:k=fs.length:=by omega
      subst hkl
      rw[List.take_length]at HSR HMR HOL
      generalize iE fs (head kd tg) (some (x.drop 7))=T at HSR HMR HOL HD2
      have HHR:=hid (HOR.out.blk HHA.out (by have:=HNE.out;omega))
      have HZR:=hid (HOR.out.blk HZA.out (by have:=HNE.out;omega))
      have HOZ:=hid (HOA.out.trans (HOR.out.mono fun i _ hi=>by have:=HP.out;have:=uS.out;have:=Fb.out;omega))
      clear HHA HZA HRA HFA HOR HOA
      go_wp2_with fail
      refine(zo HSR.out).mono ?_
      rintro e w12 ⟨rfl,hs,hb⟩
      have wU:=hid hs
      have Ls:=hid (hb.blk HMR.out (by have:=HNE.out;omega))
      have TJ:=hid (HOL.out.rd HSR.out hb)
      have QD:=hid (hb.blk HHR.out (by have:=HNE.out;omega))
      have QE:=hid (hb.blk HZR.out (by have:=HNE.out;omega))
      have wV:=hid (HOZ.out.trans (hb.mono fun i _ hi=>by have:=HP.out;have hi:i=p:=hi;omega))
      clear hs hb HSR HMR HOL HHR HZR HOZ
      go_wp2_with fail
      refine(sS wU.out).mono ?_
      rintro e w13 ⟨⟨er,wh,rfl,he⟩,hs,hb⟩
      have Vx:=hid (Blk.below Ls.out hb (Blk.lt Ls.out))
      have Oo:=hid (TJ.out.below hb)
      have Vy:=hid (Blk.below QD.out hb (Blk.lt QD.out))
      have QF:=hid (Blk.below QE.out hb (Blk.lt QE.out))
      have yL:=hid (wV.out.trans (Off.of_below hb))
      clear hs hb wU Ls TJ QD QE wV
      unfold EN at HD2
      cases hE:AX T.2 with
      |none=>
       rw[hE]at he HD2
       have hne0:er≠0:=fun h0=>by have h1:=he.1 h0;cases h1
       have hne:((er:Int) != 0)=true:=by rw[bne_iff_ne];omega
       clear he hE hne0
       go_wp2_with(first|(refine wlw Vy.out 0 (mgN (head kd tg)) rfl rfl _ _ rfl rfl _ Tryz.underlying41 rfl aB ?_)|(refine dA QF.out 0 (mgN (head kd tg)) _ (bW ..) (Nat.le_refl 36) (bT _ rfl rfl rfl) rfl _ _ _ rfl rfl rfl aB ?_;intro wz hs ho;have HZF:=hid hs;have HOF:=hid (ho (fun i=>z≤i) (Nat.le_refl _) w1 yL.out);clear hs ho))
       refine bodyPost_ret (fK (m:=head kd tg) (er:=33) rfl rfl rfl HZF.out) rfl ?_
       rw[HD2.out]
       have hz:=HZZ.out
       exact⟨⟨_,_,_,rfl,OL.nil_ ..⟩,by rw[hz];exact HB1.out.trans (HOF.out.below (fun i hi=>hi) (by have:=Blk.lt HZ1.out;omega))⟩
      |some y=>
       rw[hE]at he HD2
       have hne:((er:Int) != 0)=false:=by rw[he.2 rfl];rfl
       have HON:=hid (And.intro (bG Oo.out.n) (And.intro (bG Oo.out.q) (bG Oo.out.d)))
       clear he hE
       go_wp2_with(first|(refine wlw Vx.out 0 (aF T.1 vn vq vd) rfl rfl _ _ rfl rfl _ Tryz.underlying41 rfl aB ?_)|(refine dA QF.out 0 (aF T.1 vn vq vd) _ (bW ..) (Nat.le_refl 36) (bT _ HON.out.1 HON.out.2.1 HON.out.2.2) rfl _ _ _ rfl rfl rfl aB ?_;intro wz hs ho;have HZF:=hid hs;have HOF:=hid (ho (fun i=>z≤i) (Nat.le_refl _) w1 yL.out);have HLF:=hid (Oo.out.qp QF.out (ho (fun i=>i=z) rfl w13 (Off.refl _ _)));clear hs ho))
       refine bodyPost_ret (fK (m:=T.1) (er:=0) rfl rfl rfl HZF.out) rfl ?_
       rw[HD2.out]
       have hz:=HZZ.out
       exact⟨⟨_,_,_,rfl,by rw[hz];exact HLF.out⟩,by rw[hz];exact HB1.out.trans (HOF.out.below (fun i hi=>hi) (by have:=Blk.lt HZ1.out;omega))⟩
  ·have hne:((aH (x.take 4):Int) != (x.length:Int))=true:=by rw[bne_iff_ne];omega
   have HE:=hid (show dec x=(head 0 0,31)from by rw[HD.out,if_neg hlen,if_pos hsame])
   clear HD
   go_wp2_with(refine dA HZ2.out 0 (mgN (head 0 0)) _ (bW ..) (Nat.le_refl 36) (bT _ rfl rfl rfl) rfl _ _ _ rfl rfl rfl aB ?_;intro wz hs ho;have HZF:=hid hs;have HOF:=hid (ho (fun i=>z≤i) (Nat.le_refl _) w1 HO2.out);clear hs ho)
   refine bodyPost_ret (fK (m:=head 0 0) (er:=31) rfl rfl rfl HZF.out) rfl ?_
   rw[HE.out]
   have hz:=HZZ.out
   exact⟨⟨_,_,_,rfl,OL.nil_ ..⟩,by rw[hz];exact HB1.out.trans (HOF.out.below (fun i hi=>hi) (by have:=Blk.lt HZ1.out;omega))⟩
theorem cell_far(w:World){b o c i:Nat}(h:b≠c)(v:Value):(w.setCell ⟨c,i,none⟩ v).cell? ⟨b,o,none⟩=w.cell? ⟨b,o,none⟩:=
 World.cell?_of_block (Below.heap_setCell _ _ _ _ h)
def Pq(c base:Nat)(k:Mg)(w w':World):Prop:=(∃xn xq xd,aK w' c k xn xq xd∧OL w' base k xn xq xd)∧Off (fun i=>i=c) w w'
theorem Pq.end_{w w1 w':World}{c base:Nat}{k k':Mg}{xn xq xd yn yq yd:Value}(hk:aK w1 c k xn xq xd)(ho:OL w1 base k' yn yq yd)(h1:Below w.heap.size w w1)(hb:aK w' c k' yn yq yd)(hoff:Off (fun i=>i=c) w1 w'):Pq c base k' w w':=
 ⟨⟨_,_,_,hb,ho.qp hk hoff⟩,(Off.of_below h1).trans hoff⟩
theorem Oq(l:List ByteArray):l.length≤(l.map fun s=>2+s.size).sum:=by
 induction l with
 |nil=>exact Nat.le_refl _
 |cons x l ih=>
  simp only[List.length_cons,List.map_cons,List.sum_cons]
  omega
theorem Mg.small.names{m:Mg}(h:m.small):m.names.length≤16777216:=by
 have h1:2+(m.names.map fun s=>2+s.size).sum≤16777216:=h .names
 have:=Oq m.names
 omega
theorem Mg.small.aV{m:Mg}(h:m.small):m.aV.length≤16777216:=by
 have h1:2+13*m.aV.length≤16777216:=h .aV
 omega
theorem Mg.small.data{m:Mg}(h:m.small):m.data.length≤16777216:=by
 have h1:4+m.data.length≤16777216:=h .data
 omega
theorem xG(m:Mg)(vn vq vd:Value)(w:World)(ho:m.ok)(hl:Lists w w.heap.size m vn vq vd)(hr:Ready w)(hz:m.small):
  Calls Tryz.prog 31 #[iM m vn vq vd] w fun e w'=>e= .returned (.int .i64 ((enc m).1.length:Int))∧Below w.heap.size w w':=by
 obtain⟨wq,hwq⟩:∃wq,wq=w.alloc (.cells (aF m vn vq vd).toArray 41):=⟨_,rfl⟩
 have oz:Below w.heap.size w wq:=by rw[hwq];exact(Below.refl _ _).alloc (Nat.le_refl _) _
 have HQ:=hid (show aK wq w.heap.size m vn vq vd from by rw[hwq];exact Blk.new w _ _)
 have HE:=hid (oh m vn vq vd wq ho ((hl.below oz).more oz.size) (hr.below oz (Nat.le_refl _)) hz)
 have HB:=hid oz
 clear ho hl hr hz oz
 unfold iM
 go_enter Tryz.func31,Tryz.ntmps31
 go_upto_region 1 with(fail)
 change Code.wp _ _ _ _ (w.alloc (.cells (aF m vn vq vd).toArray 41))
 rw[←hwq]
 clear hwq
 generalize hq:w.heap.size=q at HQ HB⊢
 have HQQ:=hid hq;clear hq
 go_wp2_with(refine wlw HQ.out 0 (aF m vn vq vd) rfl rfl _ _ rfl rfl _ Tryz.underlying41 rfl aB ?_)
 refine HE.out.mono ?_
 rintro e w1 ⟨⟨v,rfl,hv⟩,hb⟩
 have HB1:=hid (HB.out.trans (hb.mono (by have:=HB.out.size;have:=HQQ.out;omega)))
 obtain⟨A,c,rfl, -⟩:=aJ hv
 have hq:=HQQ.out
 clear hb hv
 rw[←hq]at HB1
 clear hq HB HQQ
 go_wp2_with fail
 go_ret
 exact⟨rfl,HB1.out⟩
end Go.Proofs.YtkblmloobkiloaaGreatDoor
