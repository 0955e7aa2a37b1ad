/-
  MC2 MT1 MT2 M3: what the laws of package msg need of them.
-/
import Derived.Test.YtkblmloobkiloaaGreatDoorK00
import Derived.Test.YtkblmloobkiloaaGreatDoorK07
import Derived.Test.YtkblmloobkiloaaGreatDoorK02
import Derived.Test.YtkblmloobkiloaaGreatDoorK04
import Derived.Test.YtkblmloobkiloaaGreatDoorK01
import Derived.Lib.LaidTab
import Derived.Lib.ItoaMem
import Derived.Shelf.Strings.BuilderK
import Derived.Lib.RuneBytes
import Derived.Test.YtkblmloobkiloaaGreatDoorK05
set_option maxRecDepth 100000
set_option maxHeartbeats 6400000
namespace Go.Proofs.YtkblmloobkiloaaGreatDoor
open Go.Lib (hid)
open Go.RowKit
def Pq(c base:Nat)(k:Mg)(w w':World):Prop:=(∃xn xq xd,aK w' c k xn xq xd∧OL w' base k xn xq xd)∧Off (fun i=>i=c) w w'
theorem Pq.end_{w w1 w':World}{c base:Nat}{k k':Mg}{xn xq xd yn yq yd:Value}(hk:aK w1 c k xn xq xd)(ho:OL w1 base k' yn yq yd)(h1:Below w.heap.size w w1)(hb:aK w' c k' yn yq yd)(hoff:Off (fun i=>i=c) w1 w'):Pq c base k' w w':=
 ⟨⟨_,_,_,hb,ho.qp hk hoff⟩,(Off.of_below h1).trans hoff⟩
theorem Oq(l:List ByteArray):l.length≤(l.map fun s=>2+s.size).sum:=by
 induction l with
 |nil=>exact Nat.le_refl _
 |cons x l ih=>
  simp only[List.length_cons,List.map_cons,List.sum_cons]
  omega
theorem Mg.small.names{m:Mg}(h:m.small):m.names.length≤16777216:=by
 have h1:2+(m.names.map fun s=>2+s.size).sum≤16777216:=h .names
 have:=Oq m.names
 omega
theorem Mg.small.aV{m:Mg}(h:m.small):m.aV.length≤16777216:=by
 have h1:2+13*m.aV.length≤16777216:=h .aV
 omega
theorem Mg.small.data{m:Mg}(h:m.small):m.data.length≤16777216:=by
 have h1:4+m.data.length≤16777216:=h .data
 omega
theorem ac6{w:World}{c q base:Nat}{k m:Mg}{xn xq xd vn vq vd:Value}(hk:aK w c k xn xq xd)(ho:OL w base k xn xq xd)(hm:aK w q m vn vq vd):
  Calls Tryz.prog 145 #[.pointer (some ⟨c,0,none⟩),.pointer (some ⟨q,0,none⟩)] w fun e w'=>e= .returned (.tuple #[])∧Pq c base (k.move m .aT) w w':=by
 have HE:=hid (Pq.end_ (k':=k.move m .aT) hk ⟨ho.n,ho.q,ho.d⟩ (Below.refl _ w) (aK.aW hk _ _ (xg k m.aT xn xq xd)) (bM w c _ _))
 have k0:w.cell? ⟨q,8,none⟩=some (.int .u16 (m.aT:Int)):=Blk.cell hm 8
 have k1:w.cell? ⟨c,8,none⟩=some (.int .u16 (k.aT:Int)):=Blk.cell hk 8
 have z1:w.frozen? ⟨c,8,none⟩=false:=Blk.frozen hk 8
 clear hk ho hm
 go_enter Tryz.func145,Tryz.ntmps145
 go_wp2_with fail
 go_end0
 exact⟨rfl,HE.out⟩
theorem adG{w:World}{c q base:Nat}{k m:Mg}{xn xq xd vn vq vd:Value}(hk:aK w c k xn xq xd)(ho:OL w base k xn xq xd)(hm:aK w q m vn vq vd):
  Calls Tryz.prog 150 #[.pointer (some ⟨c,0,none⟩),.pointer (some ⟨q,0,none⟩)] w fun e w'=>e= .returned (.tuple #[])∧Pq c base (k.move m .mode) w w':=by
 have HE:=hid (Pq.end_ (k':=k.move m .mode) hk ⟨ho.n,ho.q,ho.d⟩ (Below.refl _ w) (aK.aW hk _ _ (Dp k m.mode xn xq xd)) (bM w c _ _))
 have k0:w.cell? ⟨q,16,none⟩=some (.int .u8 (m.mode:Int)):=Blk.cell hm 16
 have k1:w.cell? ⟨c,16,none⟩=some (.int .u8 (k.mode:Int)):=Blk.cell hk 16
 have z1:w.frozen? ⟨c,16,none⟩=false:=Blk.frozen hk 16
 clear hk ho hm
 go_enter Tryz.func150,Tryz.ntmps150
 go_wp2_with fail
 go_end0
 exact⟨rfl,HE.out⟩
theorem ac7{w:World}{c q base:Nat}{k m:Mg}{xn xq xd vn vq vd:Value}(hk:aK w c k xn xq xd)(ho:OL w base k xn xq xd)(hm:aK w q m vn vq vd):
  Calls Tryz.prog 157 #[.pointer (some ⟨c,0,none⟩),.pointer (some ⟨q,0,none⟩)] w fun e w'=>e= .returned (.tuple #[])∧Pq c base (k.move m .offset) w w':=by
 have HE:=hid (Pq.end_ (k':=k.move m .offset) hk ⟨ho.n,ho.q,ho.d⟩ (Below.refl _ w) (aK.aW hk _ _ (xw k m.offset xn xq xd)) (bM w c _ _))
 have k0:w.cell? ⟨q,20,none⟩=some (.int .u64 (m.offset:Int)):=Blk.cell hm 20
 have k1:w.cell? ⟨c,20,none⟩=some (.int .u64 (k.offset:Int)):=Blk.cell hk 20
 have z1:w.frozen? ⟨c,20,none⟩=false:=Blk.frozen hk 20
 clear hk ho hm
 go_enter Tryz.func157,Tryz.ntmps157
 go_wp2_with fail
 go_end0
 exact⟨rfl,HE.out⟩
theorem adQ{w:World}{c q base:Nat}{k m:Mg}{xn xq xd vn vq vd:Value}(hk:aK w c k xn xq xd)(ho:OL w base k xn xq xd)(hm:aK w q m vn vq vd):
  Calls Tryz.prog 174 #[.pointer (some ⟨c,0,none⟩),.pointer (some ⟨q,0,none⟩)] w fun e w'=>e= .returned (.tuple #[])∧Pq c base (k.move m .qid) w w':=by
 have HE:=hid (Pq.end_ (k':=k.move m .qid) hk ⟨ho.n,ho.q,ho.d⟩ (Below.refl _ w) (w':=((w.setCell ⟨c,13,none⟩ (.int .u8 (m.qid.kind:Int))).setCell ⟨c,14,none⟩ (.int .u32 (m.qid.vers:Int))).setCell ⟨c,15,none⟩ (.int .u64 (m.qid.path:Int))) (yn:=xn) (yq:=xq) (yd:=xd) (by
  have h:=((Blk.aW hk 13 (.int .u8 (m.qid.kind:Int))).aW 14 (.int .u32 (m.qid.vers:Int))).aW 15 (.int .u64 (m.qid.path:Int))
  rw[Bh]at h
  exact h) (((bM w c 13 _).trans (bM _ c 14 _)).trans (bM _ c 15 _)))
 have j0:w.cell? ⟨q,13,none⟩=some (.int .u8 (m.qid.kind:Int)):=Blk.cell hm 13
 have j1:w.cell? ⟨q,14,none⟩=some (.int .u32 (m.qid.vers:Int)):=Blk.cell hm 14
 have j2:w.cell? ⟨q,15,none⟩=some (.int .u64 (m.qid.path:Int)):=Blk.cell hm 15
 have k0:w.cell? ⟨c,13,none⟩=some (.int .u8 (k.qid.kind:Int)):=Blk.cell hk 13
 have k1:w.cell? ⟨c,14,none⟩=some (.int .u32 (k.qid.vers:Int)):=Blk.cell hk 14
 have k2:w.cell? ⟨c,15,none⟩=some (.int .u64 (k.qid.path:Int)):=Blk.cell hk 15
 have z0:w.frozen? ⟨c,13,none⟩=false:=Blk.frozen hk 13
 have z1:w.frozen? ⟨c,14,none⟩=false:=Blk.frozen hk 14
 have z2:w.frozen? ⟨c,15,none⟩=false:=Blk.frozen hk 15
 clear hk ho hm
 go_enter Tryz.func174,Tryz.ntmps174
 go_wp2_with fail
 go_end0
 exact⟨rfl,HE.out⟩
theorem adl{w:World}{c q base:Nat}{k m:Mg}{xn xq xd vn vq vd:Value}(hk:aK w c k xn xq xd)(ho:OL w base k xn xq xd)(hm:aK w q m vn vq vd)(hl:Lists w w.heap.size m vn vq vd)(hz:m.small)(hbase:base≤w.heap.size):
  Calls Tryz.prog 214 #[.pointer (some ⟨c,0,none⟩),.pointer (some ⟨q,0,none⟩)] w fun e w'=>e= .returned (.tuple #[])∧Pq c base (k.move m .names) w w':=by
 have HC:=hid (acJ vn m.names hl.n hz.names)
 have HK:=hid (And.intro hk (And.intro ho hbase))
 have k0:w.cell? ⟨q,11,none⟩=some vn:=Blk.cell hm 11
 obtain⟨A0,c0,e0, -, -, -⟩:=hl.n
 rw[e0]at HC k0
 clear hk ho hm hl hz hbase e0
 go_enter Tryz.func214,Tryz.ntmps214
 go_wp2_with fail
 refine HC.out.mono ?_
 rintro e w1 ⟨⟨v,rfl,hv⟩,hb⟩
 have HK1:=hid (Blk.below HK.out.1 hb (Blk.lt HK.out.1))
 have HOL:=hid (HK.out.2.1.below hb)
 have HV:=hid (iw hv HK.out.2.2)
 have HB:=hid hb
 have k1:w1.cell? ⟨c,11,none⟩=some xn:=Blk.cell HK1.out 11
 have z1:w1.frozen? ⟨c,11,none⟩=false:=Blk.frozen HK1.out 11
 obtain⟨A,cap,rfl,hc,hmx⟩:=aJ hv
 clear hb hv hc hmx k0
 go_wp2_with fail
 go_end0
 exact⟨rfl,Pq.end_ (k':=k.move m .names) HK1.out ⟨HV.out,HOL.out.q,HOL.out.d⟩ HB.out (aK.aW HK1.out _ _ (sZ ..)) (bM ..)⟩
theorem adH{w:World}{c q base:Nat}{k m:Mg}{xn xq xd vn vq vd:Value}(hk:aK w c k xn xq xd)(ho:OL w base k xn xq xd)(hm:aK w q m vn vq vd)(hl:Lists w w.heap.size m vn vq vd)(hz:m.small)(hbase:base≤w.heap.size):
  Calls Tryz.prog 227 #[.pointer (some ⟨c,0,none⟩),.pointer (some ⟨q,0,none⟩)] w fun e w'=>e= .returned (.tuple #[])∧Pq c base (k.move m .aV) w w':=by
 have HC:=hid (acK vq m.aV hl.q hz.aV)
 have HK:=hid (And.intro hk (And.intro ho hbase))
 have k0:w.cell? ⟨q,12,none⟩=some vq:=Blk.cell hm 12
 obtain⟨A0,c0,e0, -, -, -⟩:=hl.q
 rw[e0]at HC k0
 clear hk ho hm hl hz hbase e0
 go_enter Tryz.func227,Tryz.ntmps227
 go_wp2_with fail
 refine HC.out.mono ?_
 rintro e w1 ⟨⟨v,rfl,hv⟩,hb⟩
 have HK1:=hid (Blk.below HK.out.1 hb (Blk.lt HK.out.1))
 have HOL:=hid (HK.out.2.1.below hb)
 have HV:=hid (iw hv HK.out.2.2)
 have HB:=hid hb
 have k1:w1.cell? ⟨c,12,none⟩=some xq:=Blk.cell HK1.out 12
 have z1:w1.frozen? ⟨c,12,none⟩=false:=Blk.frozen HK1.out 12
 obtain⟨A,cap,rfl,hc,hmx⟩:=aJ hv
 clear hb hv hc hmx k0
 go_wp2_with fail
 go_end0
 exact⟨rfl,Pq.end_ (k':=k.move m .aV) HK1.out ⟨HOL.out.n,HV.out,HOL.out.d⟩ HB.out (aK.aW HK1.out _ _ (xA ..)) (bM ..)⟩
theorem adI{w:World}{c q base:Nat}{k m:Mg}{xn xq xd vn vq vd:Value}(hk:aK w c k xn xq xd)(ho:OL w base k xn xq xd)(hm:aK w q m vn vq vd)(hl:Lists w w.heap.size m vn vq vd)(hz:m.small)(hbase:base≤w.heap.size):
  Calls Tryz.prog 164 #[.pointer (some ⟨c,0,none⟩),.pointer (some ⟨q,0,none⟩)] w fun e w'=>e= .returned (.tuple #[])∧Pq c base (k.move m .data) w w':=by
 have HC:=hid (acS vd m.data hl.d hz.data)
 have HK:=hid (And.intro hk (And.intro ho hbase))
 have k0:w.cell? ⟨q,22,none⟩=some vd:=Blk.cell hm 22
 obtain⟨A0,c0,e0, -, -, -⟩:=hl.d
 rw[e0]at HC k0
 clear hk ho hm hl hz hbase e0
 go_enter Tryz.func164,Tryz.ntmps164
 go_wp2_with fail
 refine HC.out.mono ?_
 rintro e w1 ⟨⟨v,rfl,hv⟩,hb⟩
 have HK1:=hid (Blk.below HK.out.1 hb (Blk.lt HK.out.1))
 have HOL:=hid (HK.out.2.1.below hb)
 have HV:=hid (iw hv HK.out.2.2)
 have HB:=hid hb
 have k1:w1.cell? ⟨c,22,none⟩=some xd:=Blk.cell HK1.out 22
 have z1:w1.frozen? ⟨c,22,none⟩=false:=Blk.frozen HK1.out 22
 obtain⟨A,cap,rfl,hc,hmx⟩:=aJ hv
 clear hb hv hc hmx k0
 go_wp2_with fail
 go_end0
 exact⟨rfl,Pq.end_ (k':=k.move m .data) HK1.out ⟨HOL.out.n,HOL.out.q,HV.out⟩ HB.out (aK.aW HK1.out _ _ (xB ..)) (bM ..)⟩
theorem adJ{w:World}{c q base:Nat}{k m:Mg}{xn xq xd vn vq vd:Value}(hk:aK w c k xn xq xd)(ho:OL w base k xn xq xd)(hm:aK w q m vn vq vd):
  Calls Tryz.prog 238 #[.pointer (some ⟨c,0,none⟩),.pointer (some ⟨q,0,none⟩)] w fun e w'=>e= .returned (.tuple #[])∧Pq c base (k.move m .stat) w w':=by
 have HK:=hid (And.intro hk ho)
 have HM:=hid hm
 clear hk ho hm
 go_enter Tryz.func238,Tryz.ntmps238
 go_wp2_with(first|(refine wlw HM.out 23 (stL m.stat) rfl rfl _ _ rfl rfl _ Tryz.underlying39 rfl bP ?_)|(refine dA HK.out.1 23 (stL m.stat) _ (qc ..) (Nat.le_refl 36) (uY _) rfl _ _ _ rfl rfl rfl bP ?_;intro w2 hs hoo;have HMX:=hid hs;have HOX:=hid (hoo (fun i=>i=c) rfl w (Off.refl _ _));clear hs hoo))
 go_end0
 exact⟨rfl,Pq.end_ (k':=k.move m .stat) HK.out.1 ⟨HK.out.2.n,HK.out.2.q,HK.out.2.d⟩ (Below.refl _ _) HMX.out HOX.out⟩
theorem aci{w:World}{a b:Nat}{t t':TypeId}{xs ys:Array Value}(h:Blk w a t xs)(h':Blk w b t' ys)(ht:t≠t'):a≠b:=fun e=>Blk.noT h ht b _ _ e.symm h'
theorem ac8(f:Fld){w:World}{c q base:Nat}{k m:Mg}{xn xq xd vn vq vd:Value}(hk:aK w c k xn xq xd)(ho:OL w base k xn xq xd)(hm:aK w q m vn vq vd){b:Nat}(hqc:q≠c)(hl:Lists w w.heap.size m vn vq vd)(hz:m.small)(hbase:base≤w.heap.size)(hc:yC w f b):
  Calls Tryz.prog f.km (#[.pointer (some ⟨c,0,none⟩),.pointer (some ⟨q,0,none⟩)]++f.cap b) w fun e w'=>e= .returned (.tuple #[])∧Pq c base (k.move m f) w w':=by
 cases f
 case bI=>
  refine(ab6 (x:=m.bI) (aS .bI rfl) (fun q w=>aZ .bI rfl q w) hqc (aci (hc.2 rfl rfl) hk (by decide)) (Blk.cell (hc.2 rfl rfl) 0) (Blk.cell hm 2) (Blk.cell hk 2) (Blk.frozen hk 2)).mono ?_
  rintro e w' ⟨rfl,w1,hb,rfl⟩
  have hk1:aK w1 c k xn xq xd:=Blk.below hk hb (Blk.lt hk)
  have ho1:=ho.below hb
  exact⟨rfl,Pq.end_ (k':=k.move m .bI) hk1 ⟨ho1.n,ho1.q,ho1.d⟩ hb (aK.aW hk1 _ _ (zx ..)) (bM ..)⟩
 case version=>
  refine(ach (x:=m.version) (aS .version rfl) (fun q w=>aZ .version rfl q w) hqc (aci (hc.1 rfl) hk (by decide)) (Blk.cell (hc.1 rfl) 0) (Blk.cell hm 3) (Blk.cell hk 3) (Blk.frozen hk 3)).mono ?_
  rintro e w' ⟨rfl,w1,hb,rfl⟩
  have hk1:aK w1 c k xn xq xd:=Blk.below hk hb (Blk.lt hk)
  have ho1:=ho.below hb
  exact⟨rfl,Pq.end_ (k':=k.move m .version) hk1 ⟨ho1.n,ho1.q,ho1.d⟩ hb (aK.aW hk1 _ _ (uj ..)) (bM ..)⟩
 case dB=>
  refine(ab6 (x:=m.dB) (aS .dB rfl) (fun q w=>aZ .dB rfl q w) hqc (aci (hc.2 rfl rfl) hk (by decide)) (Blk.cell (hc.2 rfl rfl) 0) (Blk.cell hm 4) (Blk.cell hk 4) (Blk.frozen hk 4)).mono ?_
  rintro e w' ⟨rfl,w1,hb,rfl⟩
  have hk1:aK w1 c k xn xq xd:=Blk.below hk hb (Blk.lt hk)
  have ho1:=ho.below hb
  exact⟨rfl,Pq.end_ (k':=k.move m .dB) hk1 ⟨ho1.n,ho1.q,ho1.d⟩ hb (aK.aW hk1 _ _ (Dn ..)) (bM ..)⟩
 case uname=>
  refine(ach (x:=m.uname) (aS .uname rfl) (fun q w=>aZ .uname rfl q w) hqc (aci (hc.1 rfl) hk (by decide)) (Blk.cell (hc.1 rfl) 0) (Blk.cell hm 5) (Blk.cell hk 5) (Blk.frozen hk 5)).mono ?_
  rintro e w' ⟨rfl,w1,hb,rfl⟩
  have hk1:aK w1 c k xn xq xd:=Blk.below hk hb (Blk.lt hk)
  have ho1:=ho.below hb
  exact⟨rfl,Pq.end_ (k':=k.move m .uname) hk1 ⟨ho1.n,ho1.q,ho1.d⟩ hb (aK.aW hk1 _ _ (zy ..)) (bM ..)⟩
 case bF=>
  refine(ach (x:=m.bF) (aS .bF rfl) (fun q w=>aZ .bF rfl q w) hqc (aci (hc.1 rfl) hk (by decide)) (Blk.cell (hc.1 rfl) 0) (Blk.cell hm 6) (Blk.cell hk 6) (Blk.frozen hk 6)).mono ?_
  rintro e w' ⟨rfl,w1,hb,rfl⟩
  have hk1:aK w1 c k xn xq xd:=Blk.below hk hb (Blk.lt hk)
  have ho1:=ho.below hb
  exact⟨rfl,Pq.end_ (k':=k.move m .bF) hk1 ⟨ho1.n,ho1.q,ho1.d⟩ hb (aK.aW hk1 _ _ (zA ..)) (bM ..)⟩
 case bH=>
  refine(ach (x:=m.bH) (aS .bH rfl) (fun q w=>aZ .bH rfl q w) hqc (aci (hc.1 rfl) hk (by decide)) (Blk.cell (hc.1 rfl) 0) (Blk.cell hm 7) (Blk.cell hk 7) (Blk.frozen hk 7)).mono ?_
  rintro e w' ⟨rfl,w1,hb,rfl⟩
  have hk1:aK w1 c k xn xq xd:=Blk.below hk hb (Blk.lt hk)
  have ho1:=ho.below hb
  exact⟨rfl,Pq.end_ (k':=k.move m .bH) hk1 ⟨ho1.n,ho1.q,ho1.d⟩ hb (aK.aW hk1 _ _ (zB ..)) (bM ..)⟩
 case aT=>exact ac6 hk ho hm
 case fid=>
  refine(ab6 (x:=m.fid) (aS .fid rfl) (fun q w=>aZ .fid rfl q w) hqc (aci (hc.2 rfl rfl) hk (by decide)) (Blk.cell (hc.2 rfl rfl) 0) (Blk.cell hm 9) (Blk.cell hk 9) (Blk.frozen hk 9)).mono ?_
  rintro e w' ⟨rfl,w1,hb,rfl⟩
  have hk1:aK w1 c k xn xq xd:=Blk.below hk hb (Blk.lt hk)
  have ho1:=ho.below hb
  exact⟨rfl,Pq.end_ (k':=k.move m .fid) hk1 ⟨ho1.n,ho1.q,ho1.d⟩ hb (aK.aW hk1 _ _ (GR ..)) (bM ..)⟩
 case aU=>
  refine(ab6 (x:=m.aU) (aS .aU rfl) (fun q w=>aZ .aU rfl q w) hqc (aci (hc.2 rfl rfl) hk (by decide)) (Blk.cell (hc.2 rfl rfl) 0) (Blk.cell hm 10) (Blk.cell hk 10) (Blk.frozen hk 10)).mono ?_
  rintro e w' ⟨rfl,w1,hb,rfl⟩
  have hk1:aK w1 c k xn xq xd:=Blk.below hk hb (Blk.lt hk)
  have ho1:=ho.below hb
  exact⟨rfl,Pq.end_ (k':=k.move m .aU) hk1 ⟨ho1.n,ho1.q,ho1.d⟩ hb (aK.aW hk1 _ _ (xk ..)) (bM ..)⟩
 case names=>exact adl hk ho hm hl hz hbase
 case aV=>exact adH hk ho hm hl hz hbase
 case qid=>exact adQ hk ho hm
 case mode=>exact adG hk ho hm
 case aQ=>
  refine(ab6 (x:=m.aQ) (aS .aQ rfl) (fun q w=>aZ .aQ rfl q w) hqc (aci (hc.2 rfl rfl) hk (by decide)) (Blk.cell (hc.2 rfl rfl) 0) (Blk.cell hm 17) (Blk.cell hk 17) (Blk.frozen hk 17)).mono ?_
  rintro e w' ⟨rfl,w1,hb,rfl⟩
  have hk1:aK w1 c k xn xq xd:=Blk.below hk hb (Blk.lt hk)
  have ho1:=ho.below hb
  exact⟨rfl,Pq.end_ (k':=k.move m .aQ) hk1 ⟨ho1.n,ho1.q,ho1.d⟩ hb (aK.aW hk1 _ _ (xu ..)) (bM ..)⟩
 case name=>
  refine(ach (x:=m.name) (aS .name rfl) (fun q w=>aZ .name rfl q w) hqc (aci (hc.1 rfl) hk (by decide)) (Blk.cell (hc.1 rfl) 0) (Blk.cell hm 18) (Blk.cell hk 18) (Blk.frozen hk 18)).mono ?_
  rintro e w' ⟨rfl,w1,hb,rfl⟩
  have hk1:aK w1 c k xn xq xd:=Blk.below hk hb (Blk.lt hk)
  have ho1:=ho.below hb
  exact⟨rfl,Pq.end_ (k':=k.move m .name) hk1 ⟨ho1.n,ho1.q,ho1.d⟩ hb (aK.aW hk1 _ _ (Dq ..)) (bM ..)⟩
 case perm=>
  refine(ab6 (x:=m.perm) (aS .perm rfl) (fun q w=>aZ .perm rfl q w) hqc (aci (hc.2 rfl rfl) hk (by decide)) (Blk.cell (hc.2 rfl rfl) 0) (Blk.cell hm 19) (Blk.cell hk 19) (Blk.frozen hk 19)).mono ?_
  rintro e w' ⟨rfl,w1,hb,rfl⟩
  have hk1:aK w1 c k xn xq xd:=Blk.below hk hb (Blk.lt hk)
  have ho1:=ho.below hb
  exact⟨rfl,Pq.end_ (k':=k.move m .perm) hk1 ⟨ho1.n,ho1.q,ho1.d⟩ hb (aK.aW hk1 _ _ (set_perm ..)) (bM ..)⟩
 case offset=>exact ac7 hk ho hm
 case count=>
  refine(ab6 (x:=m.count) (aS .count rfl) (fun q w=>aZ .count rfl q w) hqc (aci (hc.2 rfl rfl) hk (by decide)) (Blk.cell (hc.2 rfl rfl) 0) (Blk.cell hm 21) (Blk.cell hk 21) (Blk.frozen hk 21)).mono ?_
  rintro e w' ⟨rfl,w1,hb,rfl⟩
  have hk1:aK w1 c k xn xq xd:=Blk.below hk hb (Blk.lt hk)
  have ho1:=ho.below hb
  exact⟨rfl,Pq.end_ (k':=k.move m .count) hk1 ⟨ho1.n,ho1.q,ho1.d⟩ hb (aK.aW hk1 _ _ (zC ..)) (bM ..)⟩
 case data=>exact adI hk ho hm hl hz hbase
 case stat=>exact adJ hk ho hm
def ado(m:Mg)(w:World)(e:Ending)(w':World):Prop:=
 (∃vn vq vd,e= .returned (iM m vn vq vd)∧OL w' w.heap.size m vn vq vd)∧Below w.heap.size w w'
theorem adK(k:Nat)(w:World):Calls Tryz.prog 43 #[.int .u8 (k:Int)] w fun e w'=>Below w.heap.size w w'∧∃kv:Int,∃s v b,e= .returned (.tuple #[.agg #[.int .u8 kv,.string s,v],.bool b])∧lK w' w.heap.size w'.heap.size v ((bQ k).getD []):=by
 refine(xC k w).mono ?_
 rintro e w' ⟨hb,hr⟩
 refine⟨hb, ?_⟩
 unfold I9 at hr
 cases hk:bQ k with
 |none=>
  rw[hk]at hr
  exact⟨0,⟨#[]⟩,.slice none 0 0,false,hr,none,0,rfl,Nat.le_refl _,Nat.zero_le _,fun k f hf=>by simp at hf⟩
 |some fs=>
  rw[hk]at hr
  obtain⟨v,he,hf⟩:=hr
  exact⟨(k:Int),_,v,true,he,hf⟩
theorem adR{k:Nat}:((bQ k).getD []).length≤20:=by
 unfold bQ
 split<;>decide
theorem ac9(m:Mg)(vn vq vd:Value)(w:World)(hl:Lists w w.heap.size m vn vq vd)(hz:m.small):
  Calls Tryz.prog 32 #[iM m vn vq vd] w (ado (clean m) w):=by
 obtain⟨wq,hwq⟩:∃wq,wq=w.alloc (.cells (aF m vn vq vd).toArray 41):=⟨_,rfl⟩
 have oz:Below w.heap.size w wq:=by rw[hwq];exact(Below.refl _ _).alloc (Nat.le_refl _) _
 have LH:wq.heap.size=w.heap.size+1:=by rw[hwq];exact World.size_alloc _ _
 obtain⟨w0,hw0⟩:∃w0,w0=wq.alloc (.cells (mgN (head 0 0)).toArray 41):=⟨_,rfl⟩
 have hup0:Below wq.heap.size wq w0:=by rw[hw0];exact(Below.refl _ _).alloc (Nat.le_refl _) _
 have hsz0:w0.heap.size=wq.heap.size+1:=by rw[hw0];exact World.size_alloc _ _
 have HQ:=hid (show aK w0 w.heap.size m vn vq vd from by rw[hw0,hwq];exact Blk.alloc (Blk.new w _ _) _)
 have HZ:=hid (show aK w0 (w.heap.size+1) (head 0 0) (.slice none 0 0) (.slice none 0 0) (.slice none 0 0)from by rw[←LH,hw0];exact Blk.new wq _ _)
 have HB:=hid (oz.trans (hup0.mono (by omega)))
 have HL:=hid (hl.below HB.out)
 have HSM:=hid hz
 have HSZ:=hid (show w0.heap.size=w.heap.size+2 from by omega)
 clear hl hz oz hup0 hsz0 LH
 unfold iM
 go_enter Tryz.func32,Tryz.ntmps32
 go_upto_region 1 with(fail)
 change Code.wp _ _ _ _ ((w.alloc (.cells (aF m vn vq vd).toArray 41)).alloc (.cells (mgN (head 0 0)).toArray 41))
 rw[←hwq,←hw0]
 clear hwq hw0
 generalize hq:w.heap.size=q at HQ HZ HB HL HSZ⊢
 have HQQ:=hid hq;clear hq
 have k0:w0.cell? ⟨q,0,none⟩=some (.int .u8 (m.kind:Int)):=Blk.cell HQ.out 0
 have k1:w0.cell? ⟨q,1,none⟩=some (.int .u16 (m.tag:Int)):=Blk.cell HQ.out 1
 have HAL:=hid (World.size_alloc w0 (.cells (mgN (head 0 0)).toArray 41))
 go_upto_region 2 with(change wpList _ _ _ _ _ (w0.alloc (.cells (mgN (head 0 0)).toArray 41));have HC1:=hid (show aK (w0.alloc (.cells (mgN (head 0 0)).toArray 41)) w0.heap.size (head 0 0) (.slice none 0 0) (.slice none 0 0) (.slice none 0 0)from Blk.new w0 _ _);have HZ1:=hid (Blk.alloc HZ.out (.cells (mgN (head 0 0)).toArray 41));have HQ1:=hid (Blk.alloc HQ.out (.cells (mgN (head 0 0)).toArray 41));have HB1:=hid (HB.out.alloc (by have:=HSZ.out;omega) (.cells (mgN (head 0 0)).toArray 41));have HL1:=hid (HL.out.below ((Below.refl q w0).alloc (by have:=HSZ.out;omega) (.cells (mgN (head 0 0)).toArray 41)));clear k0 k1;generalize w0.alloc (.cells (mgN (head 0 0)).toArray 41)=w1 at HC1 HZ1 HQ1 HB1 HL1 HAL⊢;generalize w0.heap.size=c at HC1 HSZ HAL⊢;refine dA HC1.out 0 (mgN (head m.kind m.tag)) _ (bW ..) (Nat.le_refl 36) (bT _ rfl rfl rfl) rfl _ _ _ rfl rfl rfl aB ?_;intro w2 hs ho;have HC2:=hid (show aK w2 c (head m.kind m.tag) (.slice none 0 0) (.slice none 0 0) (.slice none 0 0)from hs);have HZ2:=hid ((ho (fun i=>i=c) rfl w1 (Off.refl _ _)).blk HZ1.out (by have:=HSZ.out;omega));have HQ2:=hid ((ho (fun i=>i=c) rfl w1 (Off.refl _ _)).blk HQ1.out (by have:=HSZ.out;omega));have hbb:Below q w1 w2:=(ho (fun i=>i=c) rfl w1 (Off.refl _ _)).below (fun i hi=>by have:=HSZ.out;omega) (by have:=HSZ.out;have:=HAL.out;omega);have HB2:=hid (HB1.out.trans hbb);have HL2:=hid (HL1.out.below hbb);have HCL:=hid (show c<w2.heap.size from Blk.lt hs);clear hs ho hbb HC1 HZ1 HQ1 HB1 HL1)
 have k0:w2.cell? ⟨q,0,none⟩=some (.int .u8 (m.kind:Int)):=Blk.cell HQ2.out 0
 clear HQ HZ HB HL
 go_wp2_with fail
 refine(adK m.kind w2).mono ?_
 rintro e w3 ⟨hb,kv,s,v,bb,rfl,hf⟩
 have hup:Below w2.heap.size w2 (w3.alloc (.cells #[.int .u8 kv,.string s,v] 79)):=hb.alloc hb.size _
 have HR4:=hid (Blk.new w3 79 #[.int .u8 kv,.string s,v])
 have HC4:=hid (Blk.below HC2.out hup (Blk.lt HC2.out))
 have HZ4:=hid (Blk.below HZ2.out hup (Blk.lt HZ2.out))
 have HQ4:=hid (Blk.below HQ2.out hup (Blk.lt HQ2.out))
 have hq2:q≤w2.heap.size:=by have:=Blk.lt HQ2.out;omega
 have HB4:=hid (HB2.out.trans (hup.mono hq2))
 have HL4:=hid (HL2.out.below (hup.mono hq2))
 have HF4:=hid (hf.keep fun i _ hi=>Below.heap_alloc w3 (.cells #[.int .u8 kv,.string s,v] 79) i hi)
 have HS4:=hid (World.size_alloc w3 (.cells #[.int .u8 kv,.string s,v] 79))
 have HW3:=hid (show q<c∧q+1<c∧c<w2.heap.size∧w2.heap.size≤w3.heap.size from by have:=HSZ.out;have:=HCL.out;have:=hb.size;omega)
 obtain⟨fA,fc,rfl,hfc,hfm, -⟩:=hf
 have GN:=adR (k:=m.kind)
 generalize hfs:(bQ m.kind).getD []=fs at*
 have HFS:=hid (show clean m=fs.foldl (fun c f=>c.move m f) (head m.kind m.tag)from by rw[←hfs];rfl)
 clear hb hup hq2 k0 hfs HC2 HZ2 HQ2 HB2 HL2
 go_upto_region 3 with(fail)
 generalize w3.alloc (.cells #[.int .u8 kv,.string s,.slice fA fs.length fc] 79)=w4 at HR4 HC4 HZ4 HQ4 HB4 HL4 HF4 HS4⊢
 generalize w3.heap.size=rb at HR4 HF4 HS4 HW3⊢
 have k2:w4.cell? ⟨rb,2,none⟩=some (.slice fA fs.length fc):=Blk.cell HR4.out 2
 go_upto_region 4 with(fail)
 clear k2
 go_loopw [7,22] (fun _ i wr=>∃j:Nat,j≤fs.length∧i= .int .i64 j∧Pq c q ((fs.take j).foldl (fun c f=>c.move m f) (head m.kind m.tag)) w4 wr) (fun _ i _=>fs.length-(intOf i).toNat)
 case atStart=>exact⟨0,by omega,rfl,⟨_,_,_,HC4.out,OL.nil_ ..⟩,Off.refl _ _⟩
 case round=>
  obtain⟨j,hj,rfl,⟨xn,xq,xd,hmb,hol⟩,ho⟩:=hrel
  have HMR:=hid hmb
  have HOL:=hid hol
  have HOR:=hid ho
  have HBQ:=hid (ho.below (B:=q) (fun i hi=>by have:=HW3.out;have hi:i=c:=hi;omega) (by have:=HW3.out;have:=HS4.out;omega))
  clear hmb hol ho
  by_cases hlt:j<fs.length
  ·obtain⟨f,hf⟩:∃f,fs[j]? =some f:=⟨fs[j],List.getElem?_eq_getElem _⟩
   obtain⟨ad,rfl,kx⟩:=(HF4.out.keep fun i hlo hi=>HOR.out.block i (by have:=HS4.out;omega) (by have:=HW3.out;omega)).at_ hf
   have HFF:=hid (show(fs.take (j+1)).foldl (fun c f=>c.move m f) (head m.kind m.tag)=((fs.take j).foldl (fun c f=>c.move m f) (head m.kind m.tag)).move m f from by
    rw[List.take_add_one,hf,Option.toList_some,List.foldl_append]
    rfl)
   generalize(fs.take j).foldl (fun c f=>c.move m f) (head m.kind m.tag)=T at HMR HOL HFF⊢
   clear hf
   go_wp2_with fail
   refine(jY f wr).mono ?_
   rintro e w5 ⟨rfl,hb,hcap⟩
   have hent:=adF f
   have hfd:=fun a b c d e f' g w=>(EI a b c d e f' g w).2.2.2.2.1
   have hqw:q≤wr.heap.size:=by have:=HBQ.out.size;have:=HW3.out;have:=HS4.out;omega
   have HMV:=hid (ac8 f (Blk.below HMR.out hb (Blk.lt HMR.out)) (HOL.out.below hb) (Blk.below (HOR.out.blk HQ4.out (by have:=HW3.out;omega)) hb (Blk.lt (HOR.out.blk HQ4.out (by have:=HW3.out;omega)))) (by have:=HW3.out;omega) (((HL4.out.below HBQ.out).below (hb.mono hqw)).more (by have:=hb.size;omega)) HSM.out (by have:=hb.size;omega) hcap)
   have HO5:=hid (HOR.out.trans (Off.of_below hb))
   clear hb hcap kx HMR HOL hqw
   go_wp2_with fail
   refine HMV.out.mono ?_
   rintro e w6 ⟨rfl,hmm,ho⟩
   have HM6:=hid hmm
   have HO6:=hid (HO5.out.trans ho)
   clear hmm ho hent hfd
   go_wp2_with fail
   go_roundw
   case rel=>
    refine⟨j+1,by omega,by go_num, ?_,HO6.out⟩
    rw[HFF.out]
    exact HM6.out
   case measure=>simp[intOf];omega
  ·have hjl:j=fs.length:=by omega
   subst hjl
   rw[List.take_length,←HFS.out]at HMR HOL
   have HON:=hid (And.intro (bG HOL.out.n) (And.intro (bG HOL.out.q) (bG HOL.out.d)))
   have HZR:=hid (HOR.out.blk HZ4.out (by have:=HW3.out;omega))
   have HBR:=hid (HB4.out.trans HBQ.out)
   clear HOR HBQ HFS HF4 HR4 HC4 HZ4 HQ4 HL4 HB4
   generalize hT:clean m=T at HMR HOL⊢
   have HT:=hid hT;clear hT
   go_wp2_with(first|(refine wlw HMR.out 0 (aF T xn xq xd) rfl rfl _ _ rfl rfl _ Tryz.underlying41 rfl aB ?_)|(refine dA HZR.out 0 (aF T xn xq xd) _ (bW ..) (Nat.le_refl 36) (bT _ HON.out.1 HON.out.2.1 HON.out.2.2) rfl _ _ _ rfl rfl rfl aB ?_;intro wz hs ho;have HZF:=hid hs;have HBF:=hid (HBR.out.trans ((ho (fun i=>i=q+1) rfl wr (Off.refl _ _)).below (fun i hi=>by omega) (by have:=Blk.lt HZR.out;omega)));have HLF:=hid (HOL.out.qp HZR.out (ho (fun i=>i=q+1) rfl wr (Off.refl _ _)));clear hs ho))
   refine bodyPost_ret (bf (l:=aF T xn xq xd) rfl Tryz.underlying41 rfl aB rfl HZF.out) rfl ?_
   have hq:=HQQ.out
   rw[HT.out]
   exact⟨⟨_,_,_,rfl,by rw[hq];exact HLF.out⟩,by rw[hq];exact HBF.out⟩
theorem xG(m:Mg)(vn vq vd:Value)(w:World)(ho:m.ok)(hl:Lists w w.heap.size m vn vq vd)(hr:Ready w)(hz:m.small):
  Calls Tryz.prog 31 #[iM m vn vq vd] w fun e w'=>e= .returned (.int .i64 ((enc m).1.length:Int))∧Below w.heap.size w w':=by
 obtain⟨wq,hwq⟩:∃wq,wq=(al w (aF m vn vq vd) 41):=⟨_,rfl⟩
 have oz:Below w.heap.size w wq:=by rw[hwq];exact(Below.refl _ _).alloc (Nat.le_refl _) _
 have HQ:=hid (show aK wq w.heap.size m vn vq vd from by rw[hwq];exact Blk.new w _ _)
 have HE:=hid (oh m vn vq vd wq ho ((hl.below oz).more oz.size) (hr.below oz (Nat.le_refl _)) hz)
 have HB:=hid oz
 clear ho hl hr hz oz
 unfold iM
 go_enter Tryz.func31,Tryz.ntmps31
 go_upto_region 1 with(fail)
 change Code.wp _ _ _ _ (al w (aF m vn vq vd) 41)
 rw[←hwq]
 clear hwq
 generalize hq:w.heap.size=q at HQ HB⊢
 have HQQ:=hid hq;clear hq
 go_wp2_with(refine wlw HQ.out 0 (aF m vn vq vd) rfl rfl _ _ rfl rfl _ Tryz.underlying41 rfl aB ?_)
 refine HE.out.mono ?_
 rintro e w1 ⟨⟨v,rfl,hv⟩,hb⟩
 have HB1:=hid (HB.out.trans (hb.mono (by have:=HB.out.size;have:=HQQ.out;omega)))
 obtain⟨A,c,rfl, -⟩:=aJ hv
 have hq:=HQQ.out
 clear hb hv
 rw[←hq]at HB1
 clear hq HB HQQ
 go_wp2_with fail
 go_ret
 exact⟨rfl,HB1.out⟩
end Go.Proofs.YtkblmloobkiloaaGreatDoor
namespace Go.Proofs.YtkblmloobkiloaaGreatDoor
open Go.Lib (hid)
open Go.RowKit Go.Sort
def TP(w:World):Prop:=Lib.TabIs Tryz.prog w "internal/strconv.uint64pow10" .u64 Lib.pow10Tab
theorem Cc:Tryz.prog.globalNamed "internal/strconv.uint64pow10" =some 0:=by kernel_rfl
theorem TP.low{w w':World}{B:Nat}(h:TP w)(hb:Below B w w')(hB:8≤B):TP w':=by
 unfold TP Lib.TabIs World.var? at h⊢
 rw[Cc]at h⊢
 simp only[Option.bind_some]at h⊢
 rw[hb.block _ (Nat.lt_of_lt_of_le (show 0<8 by decide) hB)]
 exact h
theorem below_grow(w:World)(k:Nat)(os:Array Obj):Below w.heap.size w (grow (w.drewN k) os):=by
 refine⟨rfl,rfl,rfl, ?_,fun i hi=> ?_⟩
 ·show w.heap.size≤(w.heap++os).size
  rw[Array.size_append]
  omega
 ·show(w.heap++os)[i]? =w.heap[i]?
  rw[Array.getElem?_append_left hi]
theorem NJ(w:World)(o:Obj)(dk:Array UInt8)(k:Nat):Below w.heap.size w ((putRow (fun(b:UInt8)=>Value.int .u8 (b.toNat:Int)) (w.alloc o) w.heap.size 0 dk).drewN k):=by
 rw[alloc_eq_grow]
 obtain⟨os',_,e⟩:=putRow_grow_new (fun(b:UInt8)=>Value.int .u8 (b.toNat:Int)) w #[o] w.heap.size 0 dk (Nat.le_refl _)
 rw[e]
 exact below_grow w k os'
theorem holds_zero0(w:World)(T:TypeId)(nd:Nat)(hs:nd≤24):Holds (fun(b:UInt8)=>Value.int .u8 (b.toNat:Int)) (w.alloc (.cells Lib.zeros24 T)) w.heap.size 0 (Array.replicate nd (0:UInt8)):=fun j hj=>by
 have hj':j<nd:=by simpa using hj
 refine⟨?_,World.frozen?_alloc_new _ _ _ _⟩
 rw[World.cell?_alloc_new,Lib.zeros24_at _ (by omega),getElem!_pos _ j hj]
 simp
theorem rG(u:Nat)(hu64:u<18446744073709551616)(w:World)(htab:TP w):
  Calls Tryz.prog 190 #[.int .u64 (u:Int),.int .i64 10] w fun e w'=>e= .returned (.string (ofL (Lib.decDigits u)))∧Below w.heap.size w w':=by
 by_cases hs:u<100
 ·have HC:=hid (Tryz.internal_strconv_small u hs w)
  have hw:wrap64 (u:Int)=(u:Int):=IntWalk.wrap64_in _ (by omega)
  clear htab hu64
  go_enter Tryz.func190,Tryz.ntmps190
  go_wp2_with fail
  refine HC.out.mono ?_
  rintro e w' ⟨rfl,rfl⟩
  go_wp2_with fail
  go_ret
  exact⟨rfl,Below.refl _ _⟩
 ·have hu1:1≤u:=by omega
  have hnd20:Lib.nDigits u≤20:=by have:=Lib.numDigits_eq u hu1 hu64;split at this<;>omega
  have hb3:Lib.nDigits u≤24:=by omega
  have hal:Tryz.prog.arrayLen 221=24:=by kernel_rfl
  have hsl1:∀W,(Instr.sliceAt 221 (.pointer (some ⟨w.heap.size,0,none⟩)) none (some (.int .i64 (Lib.nDigits u:Int))) none).run Tryz.prog W= .ok (.slice (some ⟨w.heap.size,0,none⟩) (Lib.nDigits u) 24) W:=fun W=>by
   rw[run_sliceAt_array_h W 221 ⟨w.heap.size,0,none⟩ (by kernel_rfl) .i64 (Lib.nDigits u:Int) (by omega) (by rw[hal];omega)]
   go_simp
  have hH0:=holds_zero0 w 221 (Lib.nDigits u) hb3
  have hfmt:=Tryz.internal_strconv_formatBase10 w.heap.size 0 24 u (Array.replicate (Lib.nDigits u) 0) (w.alloc (.cells Lib.zeros24 221)) hH0 (by rw[Array.size_replicate];exact Lib.lt_pow_nDigits u) hu64 (by rw[Array.size_replicate];omega)
  rw[Array.size_replicate]at hfmt
  have HH0:=hid hH0
  have HF:=hid hfmt
  have HND:=hid (Tryz.internal_strconv_numDigits u hu1 hu64 (w.alloc (.cells Lib.zeros24 221)) (Lib.tabIs_alloc htab _))
  clear hH0 hal hfmt htab
  go_enter Tryz.func190,Tryz.ntmps190
  go_wp2_with fail
  refine HND.out.mono ?_
  rintro e w' ⟨rfl,rfl⟩
  go_wp2_with fail
  refine HF.out.mono ?_
  rintro e w' ⟨rfl,k,v',dk,rfl,hF⟩
  have hcv:(convert 22 9 (.slice (some ⟨w.heap.size,0,none⟩) (Lib.nDigits u) 24)).run Tryz.prog ((putRow (fun(b:UInt8)=>Value.int .u8 (b.toNat:Int)) (w.alloc (.cells Lib.zeros24 221)) w.heap.size 0 dk).drewN k)= .ok (.string ⟨(Lib.decDigits u).toArray⟩) ((putRow (fun(b:UInt8)=>Value.int .u8 (b.toNat:Int)) (w.alloc (.cells Lib.zeros24 221)) w.heap.size 0 dk).drewN k):=by
   have h:=run_convert_bytes_back (P:=Tryz.prog) ((putRow (fun(b:UInt8)=>Value.int .u8 (b.toNat:Int)) (w.alloc (.cells Lib.zeros24 221)) w.heap.size 0 dk).drewN k) 22 9 5 ⟨w.heap.size,0,none⟩ 24 (Lib.decDigits u) Tryz.underlying22 Tryz.underlying5 Tryz.underlying9 (fun j hj=>by
    rw[Lib.row_is_numeral hF j hj,Lib.add_plain,World.cell?_drewN]
    exact cell?_putRow (fun(b:UInt8)=>Value.int .u8 (b.toNat:Int)) _ w.heap.size 0 _ dk HH0.out (by rw[hF.size,Array.size_replicate]) j (by rw[hF.size];rw[Lib.decDigits_length]at hj;exact hj))
   rw[Lib.decDigits_length]at h
   exact h
  have HB:=hid (NJ w (.cells Lib.zeros24 221) dk k)
  clear hF
  go_wp2_with fail
  go_ret
  exact⟨rfl,HB.out⟩
theorem sH(u:Nat)(hu64:u<18446744073709551616)(w:World)(htab:TP w):
  Calls Tryz.prog 115 #[.int .u64 (u:Int),.int .i64 10] w fun e w'=>e= .returned (.string (ofL (Lib.decDigits u)))∧Below w.heap.size w w':=by
 have HC:=hid (rG u hu64 w htab)
 clear htab hu64
 go_enter Tryz.func115,Tryz.ntmps115
 go_wp2_with fail
 refine HC.out.mono ?_
 rintro e w' ⟨rfl,hb⟩
 have HB:=hid hb
 clear hb
 go_wp2_with fail
 go_ret
 exact⟨rfl,HB.out⟩
theorem dN(u:Nat)(hu64:u<18446744073709551616)(w:World)(htab:TP w):
  Calls Tryz.prog 59 #[.int .u64 (u:Int)] w fun e w'=>e= .returned (.string (ofL (Lib.decDigits u)))∧Below w.heap.size w w':=by
 have HC:=hid (sH u hu64 w htab)
 clear htab hu64
 go_enter Tryz.func59,Tryz.ntmps59
 go_wp2_with fail
 refine HC.out.mono ?_
 rintro e w' ⟨rfl,hb⟩
 have HB:=hid hb
 clear hb
 go_wp2_with fail
 go_ret
 exact⟨rfl,HB.out⟩
end Go.Proofs.YtkblmloobkiloaaGreatDoor
namespace Go.Proofs.YtkblmloobkiloaaGreatDoor
open Go.Lib (hid)
open Go.RowKit
abbrev SB(w:World)(B b:Nat)(l:List Value):Prop:=Lib.IsBuilderF 197 5 B b l w
theorem Gt:(Tryz.prog.info? 197).map (·.size)=some 2:=by kernel_rfl
theorem NK:liesAt Tryz.prog Tryz.prog.depth 197 (2/Tryz.prog.cellsOf 197) 0 197 1=true:=by kernel_rfl
theorem Ap(b:Nat)(w:World)(h0:w.cell? ⟨b,0,none⟩=some (.pointer (some ⟨b,0,none⟩))):
  Calls Tryz.prog 252 #[.pointer (some ⟨b,0,none⟩)] w fun e w'=>e= .returned (.tuple #[])∧w'=w:=by
 obtain⟨j,hj,_⟩:=Option.map_eq_some_iff.1 Gt
 go_enter Tryz.func252,Tryz.ntmps252
 go_wp2
 rw[Lib.run_neq_ptr_same w _ Tryz.underlying195 hj]
 go_wp2
 go_end0
 exact⟨rfl,rfl⟩
theorem yx(b:Nat)(w:World)(h0:w.cell? ⟨b,0,none⟩=some (.pointer none))(hsh:w.shape? b=some (197,2))(hfz:w.frozen? ⟨b,0,none⟩=false):
  Calls Tryz.prog 252 #[.pointer (some ⟨b,0,none⟩)] w fun e w'=>e= .returned (.tuple #[])∧w'=w.setCell ⟨b,0,none⟩ (.pointer (some ⟨b,0,none⟩)):=by
 obtain⟨j,hj,hjs⟩:=Option.map_eq_some_iff.1 Gt
 go_enter Tryz.func252,Tryz.ntmps252
 go_wp2
 rw[Lib.run_to_unsafe w ⟨b,0,none⟩ Tryz.underlying195 Tryz.underlying247 hj (by rw[hjs];decide) hsh (Nat.zero_lt_succ 1)]
 simp only[Result.andThen]
 rw[Oper.upon_value]
 go_wp2
 rw[run_callFunc_extern Tryz.func276 (by kernel_rfl) (by kernel_rfl) (by kernel_rfl) (e:=Extern.AbiNoEscape.same) (by kernel_rfl)]
 rw[Lib.run_noEscape]
 simp only[Result.andThen]
 rw[Oper.upon_value]
 go_wp2
 rw[Lib.run_from_unsafe w ⟨b,0,none⟩ Tryz.underlying247 Tryz.underlying195 hj hsh NK]
 simp only[Result.andThen]
 rw[Oper.upon_value]
 go_wp2
 go_end0
 exact⟨rfl,rfl⟩
theorem ni(B b:Nat)(bs:List Value)(w:World)(h:SB w B b bs):
  Calls Tryz.prog 252 #[.pointer (some ⟨b,0,none⟩)] w fun e w'=>e= .returned (.tuple #[])∧(Lib.BuilderAtF 197 5 B b (.pointer (some ⟨b,0,none⟩)) bs w'∧Below B w w'∧Lib.OthersKept 5 (some b) w w'):=by
 rcases h with h|h
 ·refine(yx b w h.cell0 h.shape h.frozen0).mono ?_
  rintro e w' ⟨rfl,rfl⟩
  exact⟨rfl,h.used _,(Below.refl B w).setCell (p:=⟨b,0,none⟩) h.1 _,(Lib.OthersKept.refl _ _ w).setCell ⟨b,0,none⟩ rfl _⟩
 ·refine(Ap b w h.cell0).mono ?_
  rintro e w' ⟨rfl,rfl⟩
  exact⟨rfl,h,Below.refl B _,Lib.OthersKept.refl _ _ _⟩
theorem jR(B b:Nat)(bs:List Value)(c:Int)(w:World)(h:SB w B b bs)(hlen:bs.length+1≤140737488355328)(hBw:B≤w.heap.size):
  Calls Tryz.prog 198 #[.pointer (some ⟨b,0,none⟩),.int .u8 c] w fun e w'=>e= .returned .nilIface∧SB w' B b (bs++[.int .u8 c])∧Below B w w'∧Lib.OthersKept 5 (some b) w w':=by
 obtain⟨i0,hi,hz0,hz1,hz2⟩:=info_parts mF
 go_enter Tryz.func198,Tryz.ntmps198
 go_wp2_with(go_at_call 252;refine(ni B b bs _ h).mono ?_)
 rintro e w1 ⟨rfl,h1,hb1,hk1⟩
 obtain⟨hB,v,hbk,hown,hne⟩:=h1
 have c0:w1.cell? ⟨b,0,none⟩=some (.pointer (some ⟨b,0,none⟩)):=by rw[Lib.cell_of_heap hbk];rfl
 have c1:w1.cell? ⟨b,1,none⟩=some v:=by rw[Lib.cell_of_heap hbk];rfl
 go_wp2_with(at_builtin;refine wpList_append_ownF _ rfl _ _ 22 rfl B 5 i0 (.int .u8 0) 1 1 Tryz.underlying22 hi hz0 hz1 hz2 rfl (by decide) _ _ _ rfl (hown.alloc _) ⟨w1.heap.size,0,none⟩ 1 1 [.int .u8 c] rfl rfl ?c1 ?c2 ?c3 ?c4 ?c5 ?_)
 case c1=>
  intro j u hj
  match j,hj with
  |0,hj=>simp at hj;subst hj;simp[Addr.add]
 case c2=>intro u hu;simp at hu;subst hu;rfl
 case c3=>unfold maxLen;omega
 case c4=>omega
 case c5=>have:=hb1.size;simp;omega
 intro v' w2 hown' hgrow _
 have hlt:b<w1.heap.size:=dP hbk
 have hb2:w2.heap[b]? =some (.cells #[.pointer (some ⟨b,0,none⟩),v] 197 (0,0)):=by
  rw[hgrow.block b (by simp;omega) (fun e=>hne e.symm),Lib.alloc_old w1 _ b hlt]
  exact hbk
 have d0:w2.cell? ⟨b,0,none⟩=some (.pointer (some ⟨b,0,none⟩)):=by rw[Lib.cell_of_heap hb2];rfl
 have d1:w2.cell? ⟨b,1,none⟩=some v:=by rw[Lib.cell_of_heap hb2];rfl
 have f1:w2.frozen? ⟨b,1,none⟩=false:=Lib.frozen_of_heap hb2 1
 obtain⟨g,cap,rfl⟩:∃g cap,v'= .slice (some ⟨g,0,none⟩) (bs.length+1) cap:=by
  rcases hown'.2 with⟨_,h0⟩|⟨g,cap,cur,fz,hv,_⟩
  ·omega
  ·exact⟨g,cap,hv⟩
 go_wp2
 go_ret
 refine⟨rfl, ?_, ?_,((hk1.alloc _).grown hgrow (Lib.ownsRowF_kind (hown.alloc _))).setCell ⟨b,1,none⟩ rfl _⟩
 ·exact .inr (Lib.BuilderAtF.put (T:=197) (e:=5) hB hb2 (bs':=bs++[.int .u8 c]) (by simpa using hown') (by decide))
 ·exact((hb1.alloc (by have:=hb1.size;omega) _).grown hgrow (by have:=hb1.size;simp;omega) (fun k hk=>(hown.lt k hk).1)).setCell (p:=⟨b,1,none⟩) hB _
theorem oV(B b:Nat)(bs:List Value)(s:ByteArray)(w:World)(h:SB w B b bs)(hlen:bs.length+s.size≤140737488355328)(hBw:B≤w.heap.size):
  Calls Tryz.prog 200 #[.pointer (some ⟨b,0,none⟩),.string s] w fun e w'=>e= .returned (.tuple #[.int .i64 s.size,.nilIface])∧SB w' B b (bs++Lib.strCells s)∧Below B w w'∧Lib.OthersKept 5 (some b) w w':=by
 obtain⟨i0,hi,hz0,hz1,hz2⟩:=info_parts mF
 go_enter Tryz.func200,Tryz.ntmps200
 go_wp2_with(go_at_call 252;refine(ni B b bs _ h).mono ?_)
 rintro e w1 ⟨rfl,h1,hb1,hk1⟩
 obtain⟨hB,v,hbk,hown,hne⟩:=h1
 have c0:w1.cell? ⟨b,0,none⟩=some (.pointer (some ⟨b,0,none⟩)):=by rw[Lib.cell_of_heap hbk];rfl
 have c1:w1.cell? ⟨b,1,none⟩=some v:=by rw[Lib.cell_of_heap hbk];rfl
 go_wp2_with(at_builtin;refine Lib.wpList_append_own_stringF _ rfl _ _ 22 9 rfl B 5 i0 Tryz.underlying22 Tryz.underlying9 hi hz0 hz1 hz2 _ _ _ rfl hown s rfl ?c3 ?c4 ?c5 ?_)
 case c3=>unfold maxLen;omega
 case c4=>omega
 case c5=>have:=hb1.size;omega
 intro v' w2 hown' hgrow _
 have hlt:b<w1.heap.size:=dP hbk
 have hb2:w2.heap[b]? =some (.cells #[.pointer (some ⟨b,0,none⟩),v] 197 (0,0)):=by
  rw[hgrow.block b hlt (fun e=>hne e.symm)]
  exact hbk
 have d0:w2.cell? ⟨b,0,none⟩=some (.pointer (some ⟨b,0,none⟩)):=by rw[Lib.cell_of_heap hb2];rfl
 have d1:w2.cell? ⟨b,1,none⟩=some v:=by rw[Lib.cell_of_heap hb2];rfl
 have f1:w2.frozen? ⟨b,1,none⟩=false:=Lib.frozen_of_heap hb2 1
 obtain⟨ao,n',cap,rfl⟩:∃ao n' cap,v'= .slice ao n' cap:=by
  rcases hown'.2 with⟨hv,_⟩|⟨g,cap,cur,fz,hv,_⟩
  ·exact⟨_,_,_,hv⟩
  ·exact⟨_,_,_,hv⟩
 go_wp2
 go_ret2
 refine⟨rfl, ?_, ?_,(hk1.grown hgrow (Lib.ownsRowF_kind hown)).setCell ⟨b,1,none⟩ rfl _⟩
 ·exact .inr (Lib.BuilderAtF.put (T:=197) (e:=5) hB hb2 (bs':=bs++Lib.strCells s) (by simpa [Lib.strCells_length]using hown') (by decide))
 ·exact(hb1.grown hgrow (by have:=hb1.size;omega) (fun k hk=>(hown.lt k hk).1)).setCell (p:=⟨b,1,none⟩) hB _
theorem nY(B b:Nat)(bs:List Value)(r:Int)(hr0: -2147483648≤r)(hr1:r≤2147483647)(w:World)(h:SB w B b bs)(hlen:bs.length+4≤140737488355328)(hBw:B≤w.heap.size):
  Calls Tryz.prog 199 #[.pointer (some ⟨b,0,none⟩),.int .i32 r] w fun e w'=>(∃u v,e= .returned (.tuple #[u,v]))∧SB w' B b (bs++Lib.runeCells r)∧Below B w w'∧Lib.OthersKept 5 (some b) w w':=by
 have hk4:=Lib.runeCells_le r
 go_enter Tryz.func199,Tryz.ntmps199
 go_wp2_with(go_at_call 252;refine(ni B b bs _ h).mono ?_)
 rintro e w1 ⟨rfl,h1,hb1,hk1⟩
 obtain⟨hB,v,hbk,hown,hne⟩:=h1
 obtain⟨ao,cap,rfl⟩:∃ao cap,v= .slice ao bs.length cap:=by
  rcases hown.2 with⟨hv,h0⟩|⟨g,cap,cur,fz,hv,_⟩
  ·exact⟨none,0,by rw[hv,h0]⟩
  ·exact⟨_,_,hv⟩
 have c0:w1.cell? ⟨b,0,none⟩=some (.pointer (some ⟨b,0,none⟩)):=by rw[Lib.cell_of_heap hbk];rfl
 have c1:w1.cell? ⟨b,1,none⟩=some (.slice ao bs.length cap):=by rw[Lib.cell_of_heap hbk];rfl
 go_wp2_with(go_at_call 253;refine(Tryz.utf8_AppendRune_row B _ bs.length bs r hr0 hr1 _ hown hlen (by have:=hb1.size;omega)).mono ?_)
 rintro e w2 ⟨v',rfl,hown',o,hgrow⟩
 have hlt:b<w1.heap.size:=dP hbk
 have hb2:w2.heap[b]? =some (.cells #[.pointer (some ⟨b,0,none⟩),.slice ao bs.length cap] 197 (0,0)):=by
  rw[hgrow.block b (by simp;omega) (fun e=>hne e.symm),Lib.alloc_old w1 _ b hlt]
  exact hbk
 have d0:w2.cell? ⟨b,0,none⟩=some (.pointer (some ⟨b,0,none⟩)):=by rw[Lib.cell_of_heap hb2];rfl
 have d1:w2.cell? ⟨b,1,none⟩=some (.slice ao bs.length cap):=by rw[Lib.cell_of_heap hb2];rfl
 have f1:w2.frozen? ⟨b,1,none⟩=false:=Lib.frozen_of_heap hb2 1
 obtain⟨g,cap',rfl⟩:∃g cap',v'= .slice (some ⟨g,0,none⟩) (bs.length+(Lib.runeCells r).length) cap':=by
  rcases hown'.2 with⟨_,h0⟩|⟨g,cap',cur,fz,hv,_⟩
  ·omega
  ·exact⟨g,cap',hv⟩
 go_wp2
 go_ret2
 refine⟨⟨_,_,rfl⟩, ?_, ?_,((hk1.alloc _).grown hgrow (Lib.ownsRowF_kind (hown.alloc _))).setCell ⟨b,1,none⟩ rfl _⟩
 ·exact .inr (Lib.BuilderAtF.put (T:=197) (e:=5) hB hb2 (bs':=bs++Lib.runeCells r) (by simpa using hown') (by decide))
 ·exact((hb1.alloc (by have:=hb1.size;omega) _).grown hgrow (by have:=hb1.size;simp;omega) (fun k hk=>(hown.lt k hk).1)).setCell (p:=⟨b,1,none⟩) hB _
end Go.Proofs.YtkblmloobkiloaaGreatDoor
namespace Go.Proofs.YtkblmloobkiloaaGreatDoor
open Go.Lib (hid)
open Go.Lib (decDigits)
theorem bC{ε α β:Type}(a:α)(f:α→Except ε β):((.ok a:Except ε α) >>= f)=f a:=rfl
def more(first:Bool)(l:List (List UInt8)):List UInt8:=if first then iJ l else l.flatMap fun y=>32::y
section
variable {α:Type} {one:List UInt8→Except Nat (α×List UInt8)} {put:α→List UInt8} {ok:α→Prop}
end
theorem Cm(c m:Mg)(f:Fld):(c.move m f).val f=m.val f:=by
 cases f<;>rfl
theorem Alike.val{a b:Mg}{f:Fld}(h:Alike a b f):a.val f=b.val f:=by rw[←Cm a a f,←Cm a b f,h]
theorem Alike.part{a b:Mg}{f:Fld}(h:Alike a b f):a.part f=b.part f:=by unfold Mg.part;rw[h.val]
theorem GH{m:Mg}{fs:List Fld}(hk:bQ m.kind=some fs)(h:(refused m).1=0):qA m=fO m.kind++32::(decDigits m.tag++fs.flatMap m.part):=by
 unfold qA
 rw[hk]
 dsimp only
 rw[if_pos h]
end Go.Proofs.YtkblmloobkiloaaGreatDoor
