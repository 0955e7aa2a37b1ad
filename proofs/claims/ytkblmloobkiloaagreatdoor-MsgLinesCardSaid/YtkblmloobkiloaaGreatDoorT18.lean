/-
  MT7 MT8 MP1: what the laws of package msg need of them.
-/
import Derived.Test.YtkblmloobkiloaaGreatDoorT00
import Derived.Test.YtkblmloobkiloaaGreatDoorT16
import Derived.Test.YtkblmloobkiloaaGreatDoorT17
import Derived.WalkLawsBesides
set_option maxRecDepth 100000
namespace Go.Proofs.YtkblmloobkiloaaGreatDoor
open Go.Lib (hid)
open Go.RowKit
open Go.Lib (decDigits)
theorem Mg.small.Pv{m:Mg}(h:m.small):∀x∈m.names,x.size≤16777216:=by
 intro x hx
 have h1:2+(m.names.map fun s=>2+s.size).sum≤16777216:=h .names
 have h2:∀l:List ByteArray,x∈l→x.size≤(l.map fun s=>2+s.size).sum:=by
  intro l
  induction l with
  |nil=>intro h;cases h
  |cons y l ih=>
   intro h
   rw[List.map_cons,List.sum_cons]
   rcases List.mem_cons.1 h with rfl|h
   ·omega
   ·have:=ih h;omega
 have:=h2 _ hx
 omega
theorem Mg.small.TK{m:Mg}(h:m.small):m.stat.name.size≤16777216∧m.stat.uid.size≤16777216∧m.stat.gid.size≤16777216∧m.stat.fE.size≤16777216:=by
 have h1:2+(49+m.stat.name.size+m.stat.uid.size+m.stat.gid.size+m.stat.fE.size)≤16777216:=h .stat
 omega
theorem Qd.ok.wide{q:Qd}(h:q.ok):q.kind<18446744073709551616∧q.vers<18446744073709551616∧q.path<18446744073709551616:=by
 obtain⟨h1,h2,h3⟩:=h
 omega
theorem Mg.prt{m:Mg}(ho:m.ok)(hg:m.good .stat=true)(hz:m.small):m.stat.prt:=by
 obtain⟨n1,n2,hq,n4,n5,n6,n7⟩:=ho.stat
 have hg:(Go.Proofs.YtkblmloobkiloaaGreatDoor.good m.stat.name&&Go.Proofs.YtkblmloobkiloaaGreatDoor.good m.stat.uid&&Go.Proofs.YtkblmloobkiloaaGreatDoor.good m.stat.gid&&Go.Proofs.YtkblmloobkiloaaGreatDoor.good m.stat.fE)=true:=hg
 simp only[Bool.and_eq_true]at hg
 obtain⟨⟨⟨g1,g2⟩,g3⟩,g4⟩:=hg
 obtain⟨z1,z2,z3,z4⟩:=hz.TK
 exact⟨by omega,by omega,hq.wide,by omega,by omega,by omega,by omega,⟨g1,z1⟩,⟨g2,z2⟩,⟨g3,z3⟩,⟨g4,z4⟩⟩
theorem jf{w:World}{q b o K n:Nat}(hn:n<18446744073709551616)(hent:∀args w,Sem.run Tryz.prog (callFunc K args) w= .ok (.enter K args) w)(hat:∀w,Calls Tryz.prog K #[.pointer (some ⟨q,0,none⟩)] w fun e w'=>e= .returned (.pointer (some ⟨q,o,none⟩))∧w=w')(hc:Blk w b 135 #[fv K #[]])(ks:w.cell? ⟨q,o,none⟩=some (.int .u32 (n:Int)))(ht:TP w):
  Calls Tryz.prog 130 #[.pointer (some ⟨q,0,none⟩),.pointer (some ⟨b,0,none⟩)] w fun e w'=>e= .returned (.string (ofL (decDigits n)))∧Below w.heap.size w w':=by
 have HAT:=hid (hat w)
 have HD:=hid (dN n hn w ht)
 have hw:=eH hn
 have kb:w.cell? ⟨b,0,none⟩=_:=hc.cell 0
 clear hat hc hn ht
 go_enter Tryz.func130,Tryz.ntmps130
 go_wp2_with fail
 refine HAT.out.mono ?_
 rintro e w' ⟨rfl,rfl⟩
 go_wp2_with fail
 refine HD.out.mono ?_
 rintro e w1 ⟨rfl,hb⟩
 have HB:=hid hb
 clear hb
 go_wp2_with fail
 go_ret
 exact⟨rfl,HB.out⟩
theorem lF{w:World}{q b o K:Nat}{s:ByteArray}(hg:good s=true)(hz:s.size≤16777216)(hent:∀args w,Sem.run Tryz.prog (callFunc K args) w= .ok (.enter K args) w)(hat:∀w,Calls Tryz.prog K #[.pointer (some ⟨q,0,none⟩)] w fun e w'=>e= .returned (.pointer (some ⟨q,o,none⟩))∧w=w')(hc:Blk w b 138 #[fv K #[]])(ks:w.cell? ⟨q,o,none⟩=some (.string s)):
  Calls Tryz.prog 139 #[.pointer (some ⟨q,0,none⟩),.pointer (some ⟨b,0,none⟩)] w fun e w'=>e= .returned (.string (ofL (bD s)))∧Below w.heap.size w w':=by
 have HAT:=hid (hat w)
 have HD:=hid (jS s hg hz w)
 have kb:w.cell? ⟨b,0,none⟩=_:=hc.cell 0
 clear hat hc hg hz
 go_enter Tryz.func139,Tryz.ntmps139
 go_wp2_with fail
 refine HAT.out.mono ?_
 rintro e w' ⟨rfl,rfl⟩
 go_wp2_with fail
 refine HD.out.mono ?_
 rintro e w1 ⟨rfl,hb⟩
 have HB:=hid hb
 clear hb
 go_wp2_with fail
 go_ret
 exact⟨rfl,HB.out⟩
theorem Bj{w:World}{q:Nat}{m:Mg}{vn vq vd:Value}(hm:aK w q m vn vq vd)(hl:Lists w w.heap.size m vn vq vd)(ht:TP w)(h8:8≤w.heap.size)(ho:m.ok)(hg:m.good .aT=true)(hz:m.small):
  Calls Tryz.prog 146 #[.pointer (some ⟨q,0,none⟩)] w fun e w'=>e= .returned (.string (ofL (m.val .aT)))∧Below w.heap.size w w':=by
 have HD:=hid (dN m.aT (by have:=ho.aT;omega) w ht)
 have hw:=eH (show m.aT<18446744073709551616 from by have:=ho.aT;omega)
 have k0:w.cell? ⟨q,8,none⟩=some (.int .u16 (m.aT:Int)):=Blk.cell hm 8
 clear hm hl ht h8 ho hg hz
 go_enter Tryz.func146,Tryz.ntmps146
 go_wp2_with fail
 refine HD.out.mono ?_
 rintro e w1 ⟨rfl,hb⟩
 have HB:=hid hb
 clear hb
 go_wp2_with fail
 go_ret
 exact⟨rfl,HB.out⟩
theorem Fe{w:World}{q:Nat}{m:Mg}{vn vq vd:Value}(hm:aK w q m vn vq vd)(hl:Lists w w.heap.size m vn vq vd)(ht:TP w)(h8:8≤w.heap.size)(ho:m.ok)(hg:m.good .mode=true)(hz:m.small):
  Calls Tryz.prog 151 #[.pointer (some ⟨q,0,none⟩)] w fun e w'=>e= .returned (.string (ofL (m.val .mode)))∧Below w.heap.size w w':=by
 have HD:=hid (dN m.mode (by have:=ho.mode;omega) w ht)
 have hw:=eH (show m.mode<18446744073709551616 from by have:=ho.mode;omega)
 have k0:w.cell? ⟨q,16,none⟩=some (.int .u8 (m.mode:Int)):=Blk.cell hm 16
 clear hm hl ht h8 ho hg hz
 go_enter Tryz.func151,Tryz.ntmps151
 go_wp2_with fail
 refine HD.out.mono ?_
 rintro e w1 ⟨rfl,hb⟩
 have HB:=hid hb
 clear hb
 go_wp2_with fail
 go_ret
 exact⟨rfl,HB.out⟩
theorem Bl{w:World}{q:Nat}{m:Mg}{vn vq vd:Value}(hm:aK w q m vn vq vd)(hl:Lists w w.heap.size m vn vq vd)(ht:TP w)(h8:8≤w.heap.size)(ho:m.ok)(hg:m.good .offset=true)(hz:m.small):
  Calls Tryz.prog 158 #[.pointer (some ⟨q,0,none⟩)] w fun e w'=>e= .returned (.string (ofL (m.val .offset)))∧Below w.heap.size w w':=by
 have HD:=hid (dN m.offset (by have:=ho.offset;omega) w ht)
 have hw:=eH (show m.offset<18446744073709551616 from by have:=ho.offset;omega)
 have k0:w.cell? ⟨q,20,none⟩=some (.int .u64 (m.offset:Int)):=Blk.cell hm 20
 clear hm hl ht h8 ho hg hz
 go_enter Tryz.func158,Tryz.ntmps158
 go_wp2_with fail
 refine HD.out.mono ?_
 rintro e w1 ⟨rfl,hb⟩
 have HB:=hid hb
 clear hb
 go_wp2_with fail
 go_ret
 exact⟨rfl,HB.out⟩
theorem I_{w:World}{q:Nat}{m:Mg}{vn vq vd:Value}(hm:aK w q m vn vq vd)(hl:Lists w w.heap.size m vn vq vd)(ht:TP w)(h8:8≤w.heap.size)(ho:m.ok)(hg:m.good .qid=true)(hz:m.small):
  Calls Tryz.prog 175 #[.pointer (some ⟨q,0,none⟩)] w fun e w'=>e= .returned (.string (ofL (m.val .qid)))∧Below w.heap.size w w':=by
 have HD:=hid (sW m.qid ho.qid.wide w ht h8)
 have k0:w.cell? ⟨q,13,none⟩=some (.int .u8 (m.qid.kind:Int)):=Blk.cell hm 13
 have k1:w.cell? ⟨q,14,none⟩=some (.int .u32 (m.qid.vers:Int)):=Blk.cell hm 14
 have k2:w.cell? ⟨q,15,none⟩=some (.int .u64 (m.qid.path:Int)):=Blk.cell hm 15
 clear hm hl ht h8 ho hg hz
 go_enter Tryz.func175,Tryz.ntmps175
 go_wp2_with fail
 refine HD.out.mono ?_
 rintro e w1 ⟨rfl,hb⟩
 have HB:=hid hb
 clear hb
 go_wp2_with fail
 go_ret
 exact⟨rfl,HB.out⟩
theorem Fg{w:World}{q:Nat}{m:Mg}{vn vq vd:Value}(hm:aK w q m vn vq vd)(hl:Lists w w.heap.size m vn vq vd)(ht:TP w)(h8:8≤w.heap.size)(ho:m.ok)(hg:m.good .data=true)(hz:m.small):
  Calls Tryz.prog 166 #[.pointer (some ⟨q,0,none⟩)] w fun e w'=>e= .returned (.string (ofL (m.val .data)))∧Below w.heap.size w w':=by
 have k0:w.cell? ⟨q,22,none⟩=some vd:=Blk.cell hm 22
 have HD:=hid (sJ vd m.data w hl.d hz.data)
 clear hm hl ht h8 ho hg hz
 go_enter Tryz.func166,Tryz.ntmps166
 go_wp2_with fail
 refine HD.out.mono ?_
 rintro e w1 ⟨rfl,hb⟩
 have HB:=hid hb
 clear hb
 go_wp2_with fail
 go_ret
 exact⟨rfl,HB.out⟩
theorem Dw{w:World}{q:Nat}{m:Mg}{vn vq vd:Value}(hm:aK w q m vn vq vd)(hl:Lists w w.heap.size m vn vq vd)(ht:TP w)(h8:8≤w.heap.size)(ho:m.ok)(hg:m.good .names=true)(hz:m.small):
  Calls Tryz.prog 216 #[.pointer (some ⟨q,0,none⟩)] w fun e w'=>e= .returned (.string (ofL (m.val .names)))∧Below w.heap.size w w':=by
 have hnm:m.names.length≤16∧∀x∈m.names,good x=true:=by
  have h:(decide (m.names.length≤16)&&m.names.all good)=true:=hg
  rw[Bool.and_eq_true]at h
  exact⟨of_decide_eq_true h.1,List.all_eq_true.1 h.2⟩
 have k0:w.cell? ⟨q,11,none⟩=some vn:=Blk.cell hm 11
 have HD:=hid (Dk vn m.names w hl.n hnm.1 (fun x hx=>⟨hnm.2 x hx,hz.Pv x hx⟩))
 clear hm hl ht h8 ho hg hz
 go_enter Tryz.func216,Tryz.ntmps216
 go_wp2_with fail
 refine HD.out.mono ?_
 rintro e w1 ⟨rfl,hb⟩
 have HB:=hid hb
 clear hb
 go_wp2_with fail
 go_ret
 exact⟨rfl,HB.out⟩
theorem Fh{w:World}{q:Nat}{m:Mg}{vn vq vd:Value}(hm:aK w q m vn vq vd)(hl:Lists w w.heap.size m vn vq vd)(ht:TP w)(h8:8≤w.heap.size)(ho:m.ok)(hg:m.good .aV=true)(hz:m.small):
  Calls Tryz.prog 229 #[.pointer (some ⟨q,0,none⟩)] w fun e w'=>e= .returned (.string (ofL (m.val .aV)))∧Below w.heap.size w w':=by
 have k0:w.cell? ⟨q,12,none⟩=some vq:=Blk.cell hm 12
 have HD:=hid (Dl vq m.aV w hl.q (of_decide_eq_true hg) (fun x hx=>(ho.aV x hx).wide) ht h8)
 clear hm hl ht h8 ho hg hz
 go_enter Tryz.func229,Tryz.ntmps229
 go_wp2_with fail
 refine HD.out.mono ?_
 rintro e w1 ⟨rfl,hb⟩
 have HB:=hid hb
 clear hb
 go_wp2_with fail
 go_ret
 exact⟨rfl,HB.out⟩
theorem Fj{w:World}{q:Nat}{m:Mg}{vn vq vd:Value}(hm:aK w q m vn vq vd)(hl:Lists w w.heap.size m vn vq vd)(ht:TP w)(h8:8≤w.heap.size)(ho:m.ok)(hg:m.good .stat=true)(hz:m.small):
  Calls Tryz.prog 239 #[.pointer (some ⟨q,0,none⟩)] w fun e w'=>e= .returned (.string (ofL (m.val .stat)))∧Below w.heap.size w w':=by
 have HD:=hid (Bg m.stat (Mg.prt ho hg hz) w ht h8)
 have HM:=hid hm
 clear hm hl ht h8 ho hg hz
 go_enter Tryz.func239,Tryz.ntmps239
 go_wp2_with(refine wlw HM.out 23 (stL m.stat) rfl rfl _ _ rfl rfl _ Tryz.underlying39 rfl bP ?_)
 refine HD.out.mono ?_
 rintro e w1 ⟨rfl,hb⟩
 have HB:=hid hb
 clear hb
 go_wp2_with fail
 go_ret
 exact⟨rfl,HB.out⟩
theorem Bo(f:Fld){w:World}{q:Nat}{m:Mg}{vn vq vd:Value}(hm:aK w q m vn vq vd)(hl:Lists w w.heap.size m vn vq vd)(ht:TP w)(h8:8≤w.heap.size)(ho:m.ok){b:Nat}(hc:yC w f b)(hg:m.good f=true)(hz:m.small):
  Calls Tryz.prog f.kr (#[.pointer (some ⟨q,0,none⟩)]++f.cap b) w fun e w'=>e= .returned (.string (ofL (m.val f)))∧Below w.heap.size w w':=by
 cases f
 case bI=>exact jf (n:=m.bI) (by have:=ho.bI;omega) (aS .bI rfl) (aZ .bI rfl q) (hc.2 rfl rfl) (Blk.cell hm 2) ht
 case version=>exact lF (s:=m.version) hg (by have h:2+m.version.size≤16777216:=hz .version;omega) (aS .version rfl) (aZ .version rfl q) (hc.1 rfl) (Blk.cell hm 3)
 case dB=>exact jf (n:=m.dB) (by have:=ho.dB;omega) (aS .dB rfl) (aZ .dB rfl q) (hc.2 rfl rfl) (Blk.cell hm 4) ht
 case uname=>exact lF (s:=m.uname) hg (by have h:2+m.uname.size≤16777216:=hz .uname;omega) (aS .uname rfl) (aZ .uname rfl q) (hc.1 rfl) (Blk.cell hm 5)
 case bF=>exact lF (s:=m.bF) hg (by have h:2+m.bF.size≤16777216:=hz .bF;omega) (aS .bF rfl) (aZ .bF rfl q) (hc.1 rfl) (Blk.cell hm 6)
 case bH=>exact lF (s:=m.bH) hg (by have h:2+m.bH.size≤16777216:=hz .bH;omega) (aS .bH rfl) (aZ .bH rfl q) (hc.1 rfl) (Blk.cell hm 7)
 case aT=>exact Bj hm hl ht h8 ho hg hz
 case fid=>exact jf (n:=m.fid) (by have:=ho.fid;omega) (aS .fid rfl) (aZ .fid rfl q) (hc.2 rfl rfl) (Blk.cell hm 9) ht
 case aU=>exact jf (n:=m.aU) (by have:=ho.aU;omega) (aS .aU rfl) (aZ .aU rfl q) (hc.2 rfl rfl) (Blk.cell hm 10) ht
 case names=>exact Dw hm hl ht h8 ho hg hz
 case aV=>exact Fh hm hl ht h8 ho hg hz
 case qid=>exact I_ hm hl ht h8 ho hg hz
 case mode=>exact Fe hm hl ht h8 ho hg hz
 case aQ=>exact jf (n:=m.aQ) (by have:=ho.aQ;omega) (aS .aQ rfl) (aZ .aQ rfl q) (hc.2 rfl rfl) (Blk.cell hm 17) ht
 case name=>exact lF (s:=m.name) hg (by have h:2+m.name.size≤16777216:=hz .name;omega) (aS .name rfl) (aZ .name rfl q) (hc.1 rfl) (Blk.cell hm 18)
 case perm=>exact jf (n:=m.perm) (by have:=ho.perm;omega) (aS .perm rfl) (aZ .perm rfl q) (hc.2 rfl rfl) (Blk.cell hm 19) ht
 case offset=>exact Bl hm hl ht h8 ho hg hz
 case count=>exact jf (n:=m.count) (by have:=ho.count;omega) (aS .count rfl) (aZ .count rfl q) (hc.2 rfl rfl) (Blk.cell hm 21) ht
 case data=>exact Fg hm hl ht h8 ho hg hz
 case stat=>exact Fj hm hl ht h8 ho hg hz
theorem Ot(m:Mg)(f:Fld)(ho:m.ok)(hg:m.good f=true)(hz:m.small):(m.val f).length≤2147483648:=by
 have hd:∀n,n<18446744073709551616→(decDigits n).length≤20:=fun n hn=>by have:=jD n hn;rw[dU]at this;exact this
 have hq:=fun s=>kT s
 cases f
 case bI=>show(decDigits m.bI).length≤_;have:=hd m.bI (by have:=ho.bI;omega);omega
 case version=>show(bD m.version).length≤_;have:=hq m.version;have h:2+m.version.size≤16777216:=hz .version;omega
 case dB=>show(decDigits m.dB).length≤_;have:=hd m.dB (by have:=ho.dB;omega);omega
 case uname=>show(bD m.uname).length≤_;have:=hq m.uname;have h:2+m.uname.size≤16777216:=hz .uname;omega
 case bF=>show(bD m.bF).length≤_;have:=hq m.bF;have h:2+m.bF.size≤16777216:=hz .bF;omega
 case bH=>show(bD m.bH).length≤_;have:=hq m.bH;have h:2+m.bH.size≤16777216:=hz .bH;omega
 case aT=>show(decDigits m.aT).length≤_;have:=hd m.aT (by have:=ho.aT;omega);omega
 case fid=>show(decDigits m.fid).length≤_;have:=hd m.fid (by have:=ho.fid;omega);omega
 case aU=>show(decDigits m.aU).length≤_;have:=hd m.aU (by have:=ho.aU;omega);omega
 case mode=>show(decDigits m.mode).length≤_;have:=hd m.mode (by have:=ho.mode;omega);omega
 case aQ=>show(decDigits m.aQ).length≤_;have:=hd m.aQ (by have:=ho.aQ;omega);omega
 case name=>show(bD m.name).length≤_;have:=hq m.name;have h:2+m.name.size≤16777216:=hz .name;omega
 case perm=>show(decDigits m.perm).length≤_;have:=hd m.perm (by have:=ho.perm;omega);omega
 case offset=>show(decDigits m.offset).length≤_;have:=hd m.offset (by have:=ho.offset;omega);omega
 case count=>show(decDigits m.count).length≤_;have:=hd m.count (by have:=ho.count;omega);omega
 case qid=>show(iG m.qid).length≤_;have:=pI m.qid ho.qid.wide;omega
 case data=>show(m.data.flatMap jW).length≤_;rw[GI];have:=hz.data;omega
 case names=>
  show(91::(iJ (m.names.map bD)++[93])).length≤_
  have h:(decide (m.names.length≤16)&&m.names.all good)=true:=hg
  rw[Bool.and_eq_true]at h
  have h1:=of_decide_eq_true h.1
  have h2:=nN (m.names.map bD) 67108866 (by
   intro x hx
   obtain⟨y,hy,rfl⟩:=List.mem_map.1 hx
   have:=hq y
   have:=hz.Pv y hy
   omega)
  rw[List.length_map]at h2
  have h3:m.names.length*(67108866+1)≤16*(67108866+1):=Nat.mul_le_mul_right _ h1
  rw[List.length_cons,List.length_append,List.length_cons,List.length_nil]
  omega
 case aV=>
  show(91::(iJ (m.aV.map iG)++[93])).length≤_
  have h1:m.aV.length≤16:=of_decide_eq_true hg
  have h2:=nN (m.aV.map iG) 62 (by
   intro x hx
   obtain⟨y,hy,rfl⟩:=List.mem_map.1 hx
   exact pI y (ho.aV y hy).wide)
  rw[List.length_map]at h2
  have h3:m.aV.length*(62+1)≤16*(62+1):=Nat.mul_le_mul_right _ h1
  rw[List.length_cons,List.length_append,List.length_cons,List.length_nil]
  omega
 case stat=>
  show(rD m.stat).length≤_
  have hp:=Mg.prt ho hg hz
  have a0:=hd _ hp.type
  have a1:=hd _ hp.dev
  have a2:=pI _ hp.qid
  have a3:=hd _ hp.mode
  have a4:=hd _ hp.atime
  have a5:=hd _ hp.mtime
  have a6:=hd _ hp.length
  have a7:=hq m.stat.name
  have a8:=hq m.stat.uid
  have a9:=hq m.stat.gid
  have b0:=hq m.stat.fE
  have b7:=hp.name.2
  have b8:=hp.uid.2
  have b9:=hp.gid.2
  have c0:=hp.fE.2
  unfold rD
  simp only[List.length_append,List.length_cons,List.length_nil]
  omega
theorem Lu{m:Mg}{fs:List Fld}(hk:bQ m.kind=some fs)(h:(refused m).1=0):(enc m).1.length=m.size fs∧fs.all m.good=true:=by
 have hr:=h
 unfold refused at hr
 rw[hk]at hr
 dsimp only at hr
 by_cases hg:fs.all m.good=true
 ·refine⟨?_,hg⟩
  unfold enc
  rw[hk]
  dsimp only
  rw[if_pos h]
  dsimp only
  simp only[List.length_append,bK,vK,Mg.size]
 ·rw[if_neg hg]at hr
  cases hr
theorem Dx{m:Mg}(h:(refused m).1≠0):(enc m).1=[]∧qA m=[]:=by
 unfold enc qA
 cases hk:bQ m.kind with
 |none=>exact⟨rfl,rfl⟩
 |some fs=>
  dsimp only
  rw[if_neg h,if_neg h]
  exact⟨rfl,rfl⟩
theorem Dy{m:Mg}(h:(refused m).1=0):∃fs,bQ m.kind=some fs:=by
 unfold refused at h
 cases hk:bQ m.kind with
 |none=>rw[hk]at h;cases h
 |some fs=>exact⟨fs,rfl⟩
theorem Dz(f:Fld):f.jJ.size≤7:=by cases f<;>decide
theorem Ja(k:Nat):(fO k).length≤8:=by
 unfold fO
 split<;>simp
set_option maxHeartbeats 6400000 in
theorem Fp(m:Mg)(vn vq vd:Value)(w:World)(ho:m.ok)(hl:Lists w w.heap.size m vn vq vd)(hr:Ready w)(ht:TP w)(hz:m.small):
  Calls Tryz.prog 21 #[iM m vn vq vd] w fun e w'=>e= .returned (.string (ofL (qA m)))∧Below w.heap.size w w':=by
 obtain⟨wq,hwq⟩:∃wq,wq=w.alloc (.cells (aF m vn vq vd).toArray 41):=⟨_,rfl⟩
 have oz:Below w.heap.size w wq:=by rw[hwq];exact(Below.refl _ _).alloc (Nat.le_refl _) _
 have HQ:=hid (show aK wq w.heap.size m vn vq vd from by rw[hwq];exact Blk.new w _ _)
 have HSZ:=hid (xG m vn vq vd wq ho ((hl.below oz).more oz.size) (hr.below oz (Nat.le_refl _)) hz)
 have HB:=hid oz
 have HL:=hid (hl.below oz)
 have H8:=hid hr.eight
 have HT:=hid (ht.low oz hr.eight)
 have HO:=hid ho
 have HZ:=hid hz
 clear ho hl hr ht hz oz
 unfold iM
 go_enter Tryz.func21,Tryz.ntmps21
 go_upto_region 1 with(fail)
 change Code.wp _ _ _ _ (w.alloc (.cells (aF m vn vq vd).toArray 41))
 rw[←hwq]
 clear hwq
 generalize hq:w.heap.size=q at HQ HB HL H8⊢
 have HQQ:=hid hq;clear hq
 go_wp2_with(refine wlw HQ.out 0 (aF m vn vq vd) rfl rfl _ _ rfl rfl _ Tryz.underlying41 rfl aB ?_)
 refine HSZ.out.mono ?_
 rintro e w1 ⟨rfl,hb⟩
 have HB1:=hid (HB.out.trans (hb.mono (by have:=Blk.lt HQ.out;omega)))
 have HQ1:=hid (Blk.below HQ.out hb (Blk.lt HQ.out))
 have HL1:=hid (HL.out.below (hb.mono (by have:=Blk.lt HQ.out;omega)))
 have HT1:=hid (HT.out.low hb (by have:=Blk.lt HQ.out;have:=H8.out;omega))
 clear hb HSZ HQ HB HL HT
 by_cases href:(refused m).1=0
 ·obtain⟨fs,hk⟩:=Dy href
  obtain⟨hlen,hall⟩:=Lu hk href
  have HTX:=hid (GH hk href)
  have EJ:=hid hall
  have hne:(((enc m).1.length:Int)==0)=false:=by
   rw[beq_eq_false_iff_ne,hlen]
   unfold Mg.size
   omega
  generalize((enc m).1.length:Int)=eL at hne⊢
  have HK:=hid hk
  clear hlen hall hk href
  have k0:w1.cell? ⟨q,0,none⟩=some (.int .u8 (m.kind:Int)):=Blk.cell HQ1.out 0
  go_wp2_with fail
  refine(xC m.kind w1).mono ?_
  rintro e w2 ⟨hb,hrow⟩
  unfold I9 at hrow
  rw[HK.out]at hrow
  obtain⟨fvl,rfl,hfl⟩:=hrow
  have hup:Below w1.heap.size w1 (w2.alloc (.cells #[.int .u8 (m.kind:Int),.string (ofL (fO m.kind)),fvl] 79)):=hb.alloc hb.size _
  have HR3:=hid (Blk.new w2 79 #[.int .u8 (m.kind:Int),.string (ofL (fO m.kind)),fvl])
  have HF3:=hid (hfl.keep fun i _ hi=>Below.heap_alloc w2 (.cells #[.int .u8 (m.kind:Int),.string (ofL (fO m.kind)),fvl] 79) i hi)
  have HS3:=hid (World.size_alloc w2 (.cells #[.int .u8 (m.kind:Int),.string (ofL (fO m.kind)),fvl] 79))
  have hq1:q<w1.heap.size:=Blk.lt HQ1.out
  have HQ3:=hid (Blk.below HQ1.out hup hq1)
  have HB3:=hid (HB1.out.trans (hup.mono (Nat.le_of_lt hq1)))
  have HL3:=hid (HL1.out.below (hup.mono (Nat.le_of_lt hq1)))
  have HT3:=hid (HT1.out.low hup (by have:=H8.out;omega))
  have TL:=hid (And.intro hq1 hb.size)
  obtain⟨fA,fc,rfl,hfc,hfm, -⟩:=hfl
  have GN:fs.length≤20:=by
   have hh:=HK.out
   unfold bQ at hh
   split at hh<;>first|(obtain rfl:=Option.some.inj hh;decide)|(exact absurd hh (by simp))
  clear hb hup k0 HQ1 HB1 HL1 HT1 hq1
  obtain⟨N,hN⟩:∃N,N=ofL (fO m.kind):=⟨_,rfl⟩
  have hNs:N.size≤8:=by rw[hN,dU];exact Ja _
  obtain⟨D,hD⟩:∃D,D=ofL (decDigits m.tag):=⟨_,rfl⟩
  have hDs:D.size≤20:=by rw[hD];exact jD _ (by have:=HO.out.tag;omega)
  obtain⟨P0,hP0⟩:∃P,P=N++⟨#[32]⟩:=⟨_,rfl⟩
  have hs0:P0.size=N.size+1:=by rw[hP0,ByteArray.size_append];rfl
  have ha0:∀w,(Op.stringOp .add N ⟨#[32]⟩).run Tryz.prog w= .ok (.string P0) w:=fun w=>by
   rw[hP0]
   exact run_string_add_sum w _ _ (by rw[←ByteArray.size_append,←hP0];omega)
  obtain⟨P1,hP1⟩:∃P,P=P0++D:=⟨_,rfl⟩
  have hs1:P1.size=P0.size+D.size:=by rw[hP1,ByteArray.size_append]
  have ha1:∀w,(Op.stringOp .add P0 D).run Tryz.prog w= .ok (.string P1) w:=fun w=>by
   rw[hP1]
   exact run_string_add_sum w _ _ (by rw[←ByteArray.size_append,←hP1];omega)
  have HP1:=hid (show P1=ofL (fO m.kind++32::decDigits m.tag)∧P1.size≤29 from by
   refine⟨?_,by omega⟩
   rw[hP1,hP0,hN,hD]
   show ofL (fO m.kind)++ofL [32]++ofL (decDigits m.tag)=_
   simp only[Bf]
   simp)
  have HD:=hid hD.symm
  rw[←hN]at HR3 HF3 HS3 HQ3 HB3 HL3 HT3
  have HNN:=hid hN
  clear hs0 hs1 hP0 hP1 hNs hDs hD
  rw[←hN]
  clear hN
  go_upto_region 4 with(fail)
  generalize w2.alloc (.cells #[.int .u8 (m.kind:Int),.string N,.slice fA fs.length fc] 79)=w3 at HR3 HF3 HS3 HQ3 HB3 HL3 HT3⊢
  generalize w2.heap.size=rb at HR3 HF3 HS3 TL⊢
  have HGE:=hid (show q<rb∧rb<w3.heap.size∧8≤w3.heap.size from by have:=TL.out;have:=HS3.out;have:=H8.out;omega)
  have HTP:=hid (show∀wx,Below w3.heap.size w3 wx→TP wx from fun wx h=>HT3.out.low h HGE.out.2.2)
  have j1:w3.cell? ⟨rb,1,none⟩=some (.string N):=HR3.out.cell 1
  have j2:w3.cell? ⟨q,1,none⟩=some (.int .u16 (m.tag:Int)):=Blk.cell HQ3.out 1
  have HJ:=hid (show∀wx:World,Below w3.heap.size w3 wx→wx.cell? ⟨rb,1,none⟩=some (.string N)∧wx.cell? ⟨q,1,none⟩=some (.int .u16 (m.tag:Int))from fun wx h=>⟨(h.cell (p:=⟨rb,1,none⟩) HGE.out.2.1).trans j1,(h.cell (p:=⟨q,1,none⟩) (Nat.lt_trans HGE.out.1 HGE.out.2.1)).trans j2⟩)
  have QG:IntKind.u64.wrap (m.tag:Int)=(m.tag:Int):=eH (by have:=HO.out.tag;omega)
  have HTG:=hid (show m.tag<18446744073709551616 from by have:=HO.out.tag;omega)
  clear j1 j2
  refine wp_region_held_drew (S:=fun wx=>Below w3.heap.size w3 wx) (by kernel_rfl) (aC w3) (fun hHeld=> ?_)
  generalize w3.drew=wd at hHeld⊢
  refine tk 18 0 (.pointer (some ⟨rb,1,none⟩)) ?_
  simp only[ah]
  refine tk2 19 1 (.string N) rfl (fun wq hSw=>by have k:=(HJ.out _ hSw).1;go_simp) ?_
  simp only[ah]
  refine tk 20 2 (.string P0) ?_
  simp only[ah]
  refine tk 21 3 (.pointer (some ⟨q,1,none⟩)) ?_
  simp only[ah]
  refine tk2 22 4 (.int .u16 (m.tag:Int)) rfl (fun wq hSw=>by have k:=(HJ.out _ hSw).2;go_simp) ?_
  simp only[ah]
  refine tk 23 5 (.int .u64 (m.tag:Int)) ?_
  simp only[ah]
  refine wpAnyH_ready (rs:=[6]) (by kernel_rfl) (by simp) ?_
  refine AllReadyH.cons rfl (fun K hK=> ?_) AllReadyH.nil
  rw[if_pos (by rfl)]
  go_simp
  (with_reducible refine(dN m.tag HTG.out wd (HTP.out _ hHeld)).mono ?_)
  rintro e wy ⟨rfl,hb⟩
  rw[HD.out]
  dsimp only
  have cO:=hHeld.trans (hb.mono hHeld.size)
  clear hb hHeld
  refine hK.out _ _ cO (fun hHeld=> ?_)
  clear hK cO
  refine tk 25 7 (.string P1) ?_
  simp only[ah]
  refine tk 5 8 (.string P1) ?_
  simp only[ah]
  refine wpAnyH_done (by kernel_rfl) ?_ _
  have HR5:=hid (Blk.below HR3.out hHeld (Blk.lt HR3.out))
  have HF5:=hid (HF3.out.keep fun i _ hi=>hHeld.block i (by have:=HGE.out;omega))
  have HQ5:=hid (Blk.below HQ3.out hHeld (Blk.lt HQ3.out))
  have HB5:=hid (HB3.out.trans (hHeld.mono (by have:=HGE.out;omega)))
  have HL5:=hid (HL3.out.below (hHeld.mono (by have:=HGE.out;omega)))
  have HT5:=hid (HTP.out _ hHeld)
  have HG5:=hid (show q<rb∧rb<wy.heap.size∧8≤q from by have:=HGE.out;have:=hHeld.size;have:=H8.out;omega)
  clear hHeld ha0 ha1 QG HJ HTP HR3 HF3 HQ3 HB3 HL3 HT3 HS3
  have k2:wy.cell? ⟨rb,2,none⟩=some (.slice fA fs.length fc):=Blk.cell HR5.out 2
  go_upto_region 6 with(fail)
  clear k2
  go_loopw [5,7,8,29] (fun v _ _ i wr=>∃k:Nat,k≤fs.length∧i= .int .i64 k∧(∃S,v= .string S∧S=ofL (fO m.kind++32::(decDigits m.tag++(fs.take k).flatMap m.part))∧S.size≤29+k*4294967296)∧Below wy.heap.size wy wr) (fun _ _ _ i _=>fs.length-(intOf i).toNat)
  case atStart=>
   refine⟨0,by omega,rfl,⟨P1,rfl, ?_,by have:=HP1.out.2;omega⟩,Below.refl _ _⟩
   rw[HP1.out.1,List.take_zero,List.flatMap_nil,List.append_nil]
  case round=>
   obtain⟨k,hk,rfl,⟨S,rfl,hS,hSz⟩,hb⟩:=hrel
   have HSS:=hid (And.intro hS hSz);clear hS hSz
   have HBR:=hid hb;clear hb
   by_cases hlt:k<fs.length
   ·obtain⟨f,hf⟩:∃f,fs[k]? =some f:=⟨fs[k],List.getElem?_eq_getElem _⟩
    obtain⟨ad,rfl,kx⟩:=(HF5.out.keep fun i hlo hi=>HBR.out.block i (by have:=HG5.out;omega)).at_ hf
    have HGF:=hid (List.all_eq_true.1 EJ.out f (List.mem_of_getElem? hf))
    have HNX:=hid (show(fs.take (k+1)).flatMap m.part=(fs.take k).flatMap m.part++m.part f from by
     rw[List.take_add_one,hf,Option.toList_some,List.flatMap_append,List.flatMap_singleton])
    clear hf
    go_wp2_with fail
    refine(jY f wr).mono ?_
    rintro e w7 ⟨rfl,hb,hcap⟩
    generalize wr.heap.size+1=b9 at*
    have hwz:wy.heap.size≤wr.heap.size:=HBR.out.size
    have HB7:=hid (HBR.out.trans (hb.mono hwz))
    have Jb:Below w7.heap.size w7 (w7.alloc (.cells #[.string f.jJ,.func (.func f.kg) #[] (f.sO b9),.func (.func f.kp) #[] (f.cap b9),.func (.func f.kt) #[] (f.cap b9),.func (.func f.km) #[] (f.cap b9),.func (.func f.kr) #[] (f.cap b9),.func (.func f.ks) #[] (f.cap b9)] 90)):=(Below.refl _ _).alloc (Nat.le_refl _) _
    have HN8:=hid (Blk.new w7 90 #[.string f.jJ,.func (.func f.kg) #[] (f.sO b9),.func (.func f.kp) #[] (f.cap b9),.func (.func f.kt) #[] (f.cap b9),.func (.func f.km) #[] (f.cap b9),.func (.func f.kr) #[] (f.cap b9),.func (.func f.ks) #[] (f.cap b9)])
    have HC8:=hid (show yC (w7.alloc (.cells #[.string f.jJ,.func (.func f.kg) #[] (f.sO b9),.func (.func f.kp) #[] (f.cap b9),.func (.func f.kt) #[] (f.cap b9),.func (.func f.km) #[] (f.cap b9),.func (.func f.kr) #[] (f.cap b9),.func (.func f.ks) #[] (f.cap b9)] 90)) f b9 from⟨fun h=>(hcap.1 h).alloc _,fun h h'=>(hcap.2 h h').alloc _⟩)
    have HB8:=hid (HB7.out.trans (Jb.mono HB7.out.size))
    have HW7:=hid (show q<wy.heap.size∧8≤wy.heap.size from by have:=HG5.out;omega)
    clear hb hcap kx hwz Jb
    go_upto_region 9 with(fail)
    change Code.wp _ _ _ _ (w7.alloc (.cells #[.string f.jJ,.func (.func f.kg) #[] (f.sO b9),.func (.func f.kp) #[] (f.cap b9),.func (.func f.kt) #[] (f.cap b9),.func (.func f.km) #[] (f.cap b9),.func (.func f.kr) #[] (f.cap b9),.func (.func f.ks) #[] (f.cap b9)] 90))
    generalize w7.alloc (.cells #[.string f.jJ,.func (.func f.kg) #[] (f.sO b9),.func (.func f.kp) #[] (f.cap b9),.func (.func f.kt) #[] (f.cap b9),.func (.func f.km) #[] (f.cap b9),.func (.func f.kr) #[] (f.cap b9),.func (.func f.ks) #[] (f.cap b9)] 90)=w8 at HN8 HC8 HB8⊢
    generalize w7.heap.size=z at HN8⊢
    have HZL:=hid (Blk.lt HN8.out)
    have hws:=Dz f
    obtain⟨V,hV⟩:∃V,V=ofL (m.val f):=⟨_,rfl⟩
    have hVs:V.size≤2147483648:=by rw[hV,dU];exact Ot m f HO.out HGF.out HZ.out
    have hSs:=HSS.out.2
    obtain⟨Q0,hQ0⟩:∃P,P=(⟨#[32]⟩:ByteArray)++f.jJ:=⟨_,rfl⟩
    have hs0:Q0.size=1+f.jJ.size:=by rw[hQ0,ByteArray.size_append];rfl
    have ha0:∀w,(Op.stringOp .add (⟨#[32]⟩:ByteArray) f.jJ).run Tryz.prog w= .ok (.string Q0) w:=fun w=>by
     rw[hQ0]
     exact run_string_add_sum w _ _ (by rw[←ByteArray.size_append,←hQ0];omega)
    obtain⟨Q1,hQ1⟩:∃P,P=Q0++(⟨#[61]⟩:ByteArray):=⟨_,rfl⟩
    have hs1:Q1.size=Q0.size+1:=by rw[hQ1,ByteArray.size_append];rfl
    have ha1:∀w,(Op.stringOp .add Q0 (⟨#[61]⟩:ByteArray)).run Tryz.prog w= .ok (.string Q1) w:=fun w=>by
     rw[hQ1]
     exact run_string_add_sum w _ _ (by rw[←ByteArray.size_append,←hQ1];omega)
    obtain⟨Q2,hQ2⟩:∃P,P=Q1++V:=⟨_,rfl⟩
    have hs2:Q2.size=Q1.size+V.size:=by rw[hQ2,ByteArray.size_append]
    have ha2:∀w,(Op.stringOp .add Q1 V).run Tryz.prog w= .ok (.string Q2) w:=fun w=>by
     rw[hQ2]
     exact run_string_add_sum w _ _ (by rw[←ByteArray.size_append,←hQ2];omega)
    obtain⟨Q3,hQ3⟩:∃P,P=S++Q2:=⟨_,rfl⟩
    have hs3:Q3.size=S.size+Q2.size:=by rw[hQ3,ByteArray.size_append]
    have ha3:∀w,(Op.stringOp .add S Q2).run Tryz.prog w= .ok (.string Q3) w:=fun w=>by
     rw[hQ3]
     exact run_string_add_sum w _ _ (by rw[←ByteArray.size_append,←hQ3];omega)
    have Vz:=hid (show Q3=ofL (fO m.kind++32::(decDigits m.tag++(fs.take (k+1)).flatMap m.part))∧Q3.size≤29+(k+1)*4294967296 from by
     refine⟨?_,by omega⟩
     rw[hQ3,hQ2,hQ1,hQ0,hV,HSS.out.1,CP,HNX.out]
     show _++(ofL [32]++_++ofL [61]++_)=_
     simp only[Bf]
     unfold Mg.part
     simp only[List.append_assoc,List.cons_append,List.nil_append])
    have HV:=hid hV.symm
    have hfv:∀wx:World,Below w8.heap.size w8 wx→wx.cell? ⟨z,0,none⟩=some (.string f.jJ)∧wx.cell? ⟨z,5,none⟩=some (.func (.func f.kr) #[] (f.cap b9)):=fun wx h=>⟨(h.cell (p:=⟨z,0,none⟩) HZL.out).trans (HN8.out.cell 0),(h.cell (p:=⟨z,5,none⟩) HZL.out).trans (HN8.out.cell 5)⟩
    have HFV:=hid hfv
    have hent:=IG f
    have HPR:=hid (show∀wx:World,Below w8.heap.size w8 wx→Calls Tryz.prog f.kr (#[.pointer (some ⟨q,0,none⟩)]++f.cap b9) wx fun e w'=>e= .returned (.string (ofL (m.val f)))∧Below wx.heap.size wx w' from fun wx h=>by
     have hz8:=HB8.out.size
     have hbq:=HB8.out.trans (h.mono hz8)
     have hzx:=h.size
     have hw7:=HW7.out
     refine Bo f (Blk.below HQ5.out hbq hw7.1) ((HL5.out.below (hbq.mono (Nat.le_of_lt hw7.1))).more (by omega)) (HT5.out.low hbq hw7.2) (by omega) HO.out ?_ HGF.out HZ.out
     exact⟨fun h'=>Blk.below (HC8.out.1 h') h (Blk.lt (HC8.out.1 h')),fun h' h''=>Blk.below (HC8.out.2 h' h'') h (Blk.lt (HC8.out.2 h' h''))⟩)
    clear hws hVs hSs hs0 hs1 hs2 hs3 hQ0 hQ1 hQ2 hQ3 hV hfv
    refine wp_region_held_drew (S:=fun wx=>Below w8.heap.size w8 wx) (by kernel_rfl) (aC w8) (fun hHeld=> ?_)
    generalize w8.drew=wd at hHeld⊢
    refine tk 35 0 (.string S) ?_
    simp only[ah]
    refine tk 36 1 (.pointer (some ⟨z,0,none⟩)) ?_
    simp only[ah]
    refine tk2 37 2 (.string f.jJ) rfl (fun wq hSw=>by have k:=(HFV.out _ hSw).1;go_simp) ?_
    simp only[ah]
    refine tk 38 3 (.string Q0) ?_
    simp only[ah]
    refine tk 39 4 (.string Q1) ?_
    simp only[ah]
    refine tk 40 5 (.pointer (some ⟨z,5,none⟩)) ?_
    simp only[ah]
    refine tk2 41 6 (.func (.func f.kr) #[] (f.cap b9)) rfl (fun wq hSw=>by have k:=(HFV.out _ hSw).2;go_simp) ?_
    simp only[ah]
    refine wpAnyH_ready (rs:=[7]) (by kernel_rfl) (by simp) ?_
    refine AllReadyH.cons rfl (fun K hK=> ?_) AllReadyH.nil
    rw[if_pos (by rfl)]
    go_simp
    (with_reducible refine(HPR.out wd hHeld).mono ?_)
    rintro e wy ⟨rfl,hb⟩
    rw[HV.out]
    dsimp only
    have cO:=hHeld.trans (hb.mono hHeld.size)
    clear hb hHeld
    refine hK.out _ _ cO (fun hHeld=> ?_)
    clear hK cO
    refine tk 43 8 (.string Q2) ?_
    simp only[ah]
    refine tk 44 9 (.string Q3) ?_
    simp only[ah]
    refine tk 5 10 (.string Q3) ?_
    simp only[ah]
    refine wpAnyH_done (by kernel_rfl) ?_ _
    have HBF:=hid (HB8.out.trans (hHeld.mono HB8.out.size))
    clear hHeld ha0 ha1 ha2 ha3 hent
    go_wp2_with fail
    go_roundw
    case rel=>
     exact⟨k+1,by omega,by go_num,⟨Q3,rfl,Vz.out⟩,HBF.out⟩
    case measure=>simp[intOf];omega
   ·have hkl:k=fs.length:=by omega
    subst hkl
    rw[List.take_length]at HSS
    have qm:=hid (show S=ofL (qA m)from by rw[HSS.out.1,HTX.out])
    go_wp2_with fail
    go_ret
    rw[qm.out]
    exact⟨rfl,by have hq:=HQQ.out;rw[hq];exact HB5.out.trans (HBR.out.mono (by have:=HG5.out;omega))⟩
 ·obtain⟨he,htx⟩:=Dx href
  have HTX:=hid htx
  have hl0:((enc m).1.length:Int)=0:=by rw[he];rfl
  rw[hl0]
  clear he htx href hl0
  go_wp2_with fail
  go_ret
  rw[HTX.out]
  exact⟨rfl,by have hq:=HQQ.out;rw[hq];exact HB1.out⟩
end Go.Proofs.YtkblmloobkiloaaGreatDoor
namespace Go.Proofs.YtkblmloobkiloaaGreatDoor
open Go.Lib (hid)
open Go.RowKit
def ScS(w:World)(p:Nat)(s:ByteArray)(at_:Nat):Prop:=Blk w p 114 #[.string s,.int .i64 (at_:Int)]∧at_≤s.size∧s.size≤16777216
theorem ScS.below{w w':World}{p:Nat}{s:ByteArray}{at_:Nat}(h:ScS w p s at_)(hb:Below w.heap.size w w'):ScS w' p s at_:=⟨Blk.below h.1 hb (Blk.lt h.1),h.2⟩
theorem ScS.off{S:Nat→Prop}{w w':World}{p:Nat}{s:ByteArray}{at_:Nat}(h:ScS w p s at_)(ho:Off S w w')(hp:¬S p):ScS w' p s at_:=⟨ho.blk h.1 hp,h.2⟩
def d_(n:Int):Ending:= .panicked [{v:= .iface 111 (.int .i64 n),recovered:=false}]
def dW{α:Type}(p:Nat)(s:ByteArray)(V:α→Ending→World→Prop)(r:Except Nat (α×List UInt8))(w:World)(e:Ending)(w':World):Prop:=
 Off (fun i=>i=p) w w'∧match r with
  | .ok (x,l)=>V x e w'∧∃a,ScS w' p s a∧s.data.toList.drop a=l
  | .error n=>e=d_ ((s.size:Int)-(n:Int))
theorem Ou(s:ByteArray)(a:Nat):s.extract a s.size=ofL (s.data.toList.drop a):=by
 apply ByteArray.ext
 rw[←Array.toList_inj]
 simp only[ofL,ByteArray.data_extract,Array.toList_extract]
 rw[List.extract_eq_take_drop]
 rw[List.take_of_length_le]
 rw[List.length_drop,Array.length_toList]
 exact Nat.le_refl _
theorem lZ{w:World}{p:Nat}{s:ByteArray}{at_:Nat}(h:ScS w p s at_):
  Calls Tryz.prog 114 #[.pointer (some ⟨p,0,none⟩)] w fun e w'=>e= .returned (.string (ofL (s.data.toList.drop at_)))∧Below w.heap.size w w':=by
 obtain⟨hb,hle,hz⟩:=h
 have k0:w.cell? ⟨p,0,none⟩=some (.string s):=hb.cell 0
 have k1:w.cell? ⟨p,1,none⟩=some (.int .i64 (at_:Int)):=hb.cell 1
 have j0:w.drew.cell? ⟨p,0,none⟩=some (.string s):=hb.cell 0
 have j1:w.drew.cell? ⟨p,1,none⟩=some (.int .i64 (at_:Int)):=hb.cell 1
 have HE:=hid (Ou s at_)
 clear hb
 go_enter Tryz.func114,Tryz.ntmps114
 go_upto_region 1 with(fail)
 go_region
 go_wp2_with fail
 go_ret
 rw[←HE.out]
 exact⟨rfl,aC w⟩
theorem dK{w:World}{p:Nat}{s:ByteArray}{at_:Nat}(wd:ByteArray)(h:ScS w p s at_):
  Calls Tryz.prog 112 #[.pointer (some ⟨p,0,none⟩),.string wd] w (dW p s (fun(_:Unit) e _=>e= .returned (.tuple #[])) ((dQ wd.data.toList (s.data.toList.drop at_)).map fun l=>((),l)) w):=by
 have HR:=hid (lZ h)
 have HS:=hid h
 have hz:=h.2.2
 have hle:=h.2.1
 clear h
 go_enter Tryz.func112,Tryz.ntmps112
 go_wp2_with fail
 refine HR.out.mono ?_
 rintro e w1 ⟨rfl,hb⟩
 have HS1:=hid (HS.out.below hb)
 have HO1:=hid (Off.of_below (S:=fun i=>i=p) hb)
 clear hb HS HR
 have HPX:=hid (show Lib.hasPrefix (ofL (s.data.toList.drop at_)).data.toList wd.data.toList=wd.data.toList.isPrefixOf (s.data.toList.drop at_)from by simp[ofL,Lib.hasPrefix])
 generalize ofL (s.data.toList.drop at_)=R at HPX⊢
 go_wp2_with fail
 refine(Tryz.strings_HasPrefix R wd w1).mono ?_
 rintro e w2 ⟨rfl,rfl⟩
 rw[HPX.out]
 have k1:w2.cell? ⟨p,1,none⟩=some (.int .i64 (at_:Int)):=HS1.out.1.cell 1
 have z1:w2.frozen? ⟨p,1,none⟩=false:=HS1.out.1.frozen 1
 have hsl:s.data.toList.length=s.size:=Array.length_toList ..
 have hwl:wd.data.toList.length=wd.size:=Array.length_toList ..
 cases hp:wd.data.toList.isPrefixOf (s.data.toList.drop at_)with
 |true=>
  have HW:=hid (show dQ wd.data.toList (s.data.toList.drop at_)= .ok (s.data.toList.drop (at_+wd.size))from by
   unfold dQ
   rw[if_pos hp,List.drop_drop,hwl])
  have hlen:at_+wd.size≤s.size:=by
   have h:=(List.isPrefixOf_iff_prefix.1 hp).length_le
   rw[List.length_drop,hsl,hwl]at h
   omega
  have HL:=hid hlen
  have HBK:=hid (show Blk (w2.setCell ⟨p,1,none⟩ (.int .i64 ((at_:Int)+(wd.size:Int)))) p 114 #[.string s,.int .i64 ((at_+wd.size:Nat):Int)]from by
   have h:=HS1.out.1.aW 1 (.int .i64 ((at_:Int)+(wd.size:Int)))
   rw[show((at_+wd.size:Nat):Int)=(at_:Int)+(wd.size:Int)from by omega]
   exact h)
  have HOF:=hid ((Off.refl (fun i=>i=p) w2).setCell (p:=⟨p,1,none⟩) rfl (.int .i64 ((at_:Int)+(wd.size:Int))))
  clear hp hsl hwl HPX
  go_wp2_with fail
  generalize w2.setCell ⟨p,1,none⟩ (.int .i64 ((at_:Int)+(wd.size:Int)))=w3 at HBK HOF⊢
  go_end0
  refine⟨HO1.out.trans HOF.out, ?_⟩
  rw[HW.out]
  exact⟨rfl,at_+wd.size,⟨HBK.out,HL.out,hz⟩,rfl⟩
 |false=>
  have HW:=hid (show dQ wd.data.toList (s.data.toList.drop at_)= .error (s.size-at_)from by
   unfold dQ
   rw[hp,List.length_drop,hsl]
   rfl)
  clear hp hsl hwl HPX
  go_wp2_with fail
  refine⟨rfl,HO1.out, ?_⟩
  rw[HW.out]
  show _=d_ _
  rw[show(s.size:Int)-((s.size-at_:Nat):Int)=(at_:Int) by omega]
  rfl
theorem DC(c:UInt8)(w:World):Calls Tryz.prog 188 #[.int .u8 (c.toNat:Int)] w fun e w'=>e= .returned (.bool (iT c))∧w=w':=by
 have HE:=hid (show iT c=(decide (48≤c.toNat)&&decide (c.toNat≤57))from rfl)
 generalize c.toNat=n at*
 by_cases h1:48≤n
 ·by_cases h2:n≤57
  ·have HB:=hid (show iT c=true from by rw[HE.out,decide_eq_true h1,decide_eq_true h2];rfl)
   have g1:(n:Int)≥48:=by omega
   have g2:(n:Int)≤57:=by omega
   clear h1 h2
   go_enter Tryz.func188,Tryz.ntmps188
   go_wp2_with fail
   go_ret
   exact⟨cZ HB.out.symm,rfl⟩
  ·have HB:=hid (show iT c=false from by rw[HE.out,decide_eq_false h2,Bool.and_false])
   have g1:(n:Int)≥48:=by omega
   have g2:¬(n:Int)≤57:=by omega
   clear h1 h2
   go_enter Tryz.func188,Tryz.ntmps188
   go_wp2_with fail
   go_ret
   exact⟨cZ HB.out.symm,rfl⟩
 ·have HB:=hid (show iT c=false from by rw[HE.out,decide_eq_false h1,Bool.false_and])
  have g1:¬(48:Int)≤(n:Int):=by omega
  clear h1
  go_enter Tryz.func188,Tryz.ntmps188
  go_wp2_with fail
  go_ret
  exact⟨cZ HB.out.symm,rfl⟩
end Go.Proofs.YtkblmloobkiloaaGreatDoor
