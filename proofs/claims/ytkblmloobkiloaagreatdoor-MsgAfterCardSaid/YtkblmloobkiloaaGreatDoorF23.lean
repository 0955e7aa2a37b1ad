/-
  MWL MWK MLO MLF MAA MUL: what the laws of package msg need of them.
-/
import Derived.Test.YtkblmloobkiloaaGreatDoorF00
import Derived.Test.YtkblmloobkiloaaGreatDoorF08
import Derived.KernelRfl
import Derived.Test.YtkblmloobkiloaaGreatDoorF16
import Derived.Test.YtkblmloobkiloaaGreatDoorF21
import Derived.Test.YtkblmloobkiloaaGreatDoorF22
import Derived.Test.YtkblmloobkiloaaGreatDoorF15
set_option maxRecDepth 100000
set_option maxHeartbeats 12800000
namespace Go.Proofs.YtkblmloobkiloaaGreatDoor
open Go.Lib (hid)
abbrev exV:ByteArray:=⟨#[57,80,50,48,48,48]⟩
def exA:Mg:= {head 100 65535 with bI:=8192,version:=exV}
def exB:Mg:= {head 110 3 with fid:=1,aU:=2,names:=[⟨#[97]⟩,⟨#[46,46]⟩]}
def exF:List UInt8:=[24,0,0,0,110,3,0,1,0,0,0,2,0,0,0,2,0,1,0,97,2,0,46,46]
def exL:List UInt8:=[84,118,101,114,115,105,111,110,32,54,53,53,51,53,32,109,115,105,122,101,61,56,49,57,50,32,118,101,114,115,105,111,110,61,34,57,80,50,48,48,48,34]
theorem FX:exA.ok:=⟨by decide,by decide,by decide,by decide,by decide,by decide,by decide,by decide,by decide,by decide,by decide,by decide,fun q h=>(by cases h),⟨by decide,by decide,by decide⟩,⟨by decide,by decide,⟨by decide,by decide,by decide⟩,by decide,by decide,by decide,by decide⟩⟩
theorem MS:exB.ok:=⟨by decide,by decide,by decide,by decide,by decide,by decide,by decide,by decide,by decide,by decide,by decide,by decide,fun q h=>(by cases h),⟨by decide,by decide,by decide⟩,⟨by decide,by decide,⟨by decide,by decide,by decide⟩,by decide,by decide,by decide,by decide⟩⟩
theorem OT:refused exA=(0,19):=by kernel_rfl
theorem OU:refused exB=(0,24):=by kernel_rfl
theorem H9:enc exA=([19,0,0,0,100,255,255,0,32,0,0,6,0,57,80,50,48,48,48],0):=by kernel_rfl
theorem OV:enc exB=(exF,0):=by kernel_rfl
theorem MV:qA exA=exL:=by kernel_rfl
theorem MW:qA exB=[84,119,97,108,107,32,51,32,102,105,100,61,49,32,110,101,119,102,105,100,61,50,32,110,97,109,101,115,61,91,34,97,34,32,34,46,46,34,93]:=by kernel_rfl
theorem OW:dec exF=(exB,0):=by
 have h:=NR MS (by rw[OU])
 rw[OV]at h
 exact h
theorem Jw:parseM exL=(exA,0,0):=by
 have h:=Et FX (by rw[OT])
 rw[MV]at h
 exact h
open Go.RowKit
theorem zM:exA.small:=fun f=>by cases f<;>decide
theorem Jy:exB.small:=fun f=>by cases f<;>decide
theorem iW.new(w:World)(t:TypeId)(l:List ByteArray)(hl:l.length≤maxLen):iW (w.alloc (.cells (h_ l).toArray t)) (w.heap.size+1) (.slice (some ⟨w.heap.size,0,none⟩) l.length l.length) l:=
 ⟨_,_,rfl,Nat.le_refl _,hl,dI w t (h_ l) l.length 1 (by simp)⟩
theorem Bys.new(w:World)(t:TypeId)(l:List UInt8)(hl:l.length≤maxLen):Bys (w.alloc (.cells (aX l).toArray t)) (w.heap.size+1) (.slice (some ⟨w.heap.size,0,none⟩) l.length l.length) l:=
 ⟨_,_,rfl,Nat.le_refl _,hl,dI w t (aX l) l.length 1 (by simp)⟩
theorem P7:∀fs,bQ exB.kind=some fs→∀f∈fs,P6 exB f:=by
 intro fs h f hf
 rw[show bQ exB.kind=some [.fid,.aU,.names]from rfl]at h
 injection h with h
 subst h
 refine P8 (fun x hx=> ?_) (by simpa using hf)
 have h:x∈ [(⟨#[97]⟩:ByteArray),⟨#[46,46]⟩]:=hx
 simp only[List.mem_cons,List.not_mem_nil,or_false]at h
 rcases h with rfl|rfl<;>exact X8 _ (by decide) (by decide)
theorem DX(w:World)(hse:SE w)(hrd:Ready w)(htp:TP w):Calls Tryz.prog 12 #[] w fun e w'=>e= .returned (.bool true)∧Below w.heap.size w w':=by
 have H8:=hid hrd.eight
 have HSE:=hid hse
 have HTP:=hid htp
 have HR:=hid hrd
 clear hse hrd htp
 go_enter Tryz.func12,Tryz.ntmps12
 go_upto_region 2 with(change wpList _ _ _ _ _ (al w (mgN (head 0 0)) 41);have hup:Below w.heap.size w (al w (mgN (head 0 0)) 41):=(Below.refl _ _).alloc (Nat.le_refl _) _;have HM0:=hid (show aK (al w (mgN (head 0 0)) 41) w.heap.size (head 0 0) (.slice none 0 0) (.slice none 0 0) (.slice none 0 0)from Blk.new w _ _);have HB0:=hid hup;have HR0:=hid (HR.out.below hup (Nat.le_refl _));clear hup;generalize(al w (mgN (head 0 0)) 41)=w0 at HM0 HB0 HR0⊢;refine dA HM0.out 0 (mgN exA) _ (bW ..) (Nat.le_refl 36) (bT _ rfl rfl rfl) rfl _ _ _ rfl rfl rfl aB ?_;intro w1 hs ho;have HM1:=hid (show aK w1 w.heap.size exA (.slice none 0 0) (.slice none 0 0) (.slice none 0 0)from hs);have HO1:=hid (ho (fun i=>i=w.heap.size) rfl w0 (Off.refl _ _));clear hs ho)
 have hb1:Below w.heap.size w0 w1:=HO1.out.below (fun k hk=>by have hk:k=w.heap.size:=hk;omega) HB0.out.size
 have HB1:=hid (HB0.out.trans hb1)
 have HR1:=hid (HR0.out.low hb1 HR.out.eight)
 generalize hz:w.heap.size=z at HM1⊢
 have HZ:=hid hz
 clear hz hb1 HM0 HB0 HR0 HO1
 have HEN:=hid (oh exA _ _ _ w1 FX ⟨iW.nil_ _ _,lX.nil_ _ _,Bys.nil_ _ _⟩ HR1.out zM)
 rw[H9]at HEN
 go_wp2_with(refine wlw HM1.out 0 (aF exA (.slice none 0 0) (.slice none 0 0) (.slice none 0 0)) rfl rfl _ _ rfl rfl _ Tryz.underlying41 rfl aB ?_)
 refine HEN.out.mono ?_
 rintro e w2 ⟨⟨v,rfl,hown⟩,hb⟩
 dsimp only at hown
 have HF2:=hid (Bys.iH hown)
 have HM2:=hid (Blk.below HM1.out hb (Blk.lt HM1.out))
 have HB2:=hid (HB1.out.trans (hb.mono HB1.out.size))
 have HR2:=hid (HR1.out.below hb (Nat.le_refl _))
 clear hown hb HEN HM1 HB1 HR1
 go_wp2_with fail
 have hup:Below w2.heap.size w2 (al w2 (h_ exB.names) 9):=(Below.refl _ _).alloc (Nat.le_refl _) _
 have HN3:=hid (show iW (al w2 (h_ exB.names) 9) (al w2 (h_ exB.names) 9).heap.size (.slice (some ⟨w2.heap.size,0,none⟩) 2 2) exB.names from by rw[World.size_alloc];exact iW.new w2 _ exB.names (by decide))
 have HF3:=hid ((HF2.out.below hup).more hup.size)
 have HM3:=hid (Blk.below HM2.out hup (Blk.lt HM2.out))
 have HB3:=hid (HB2.out.trans (hup.mono HB2.out.size))
 have HR3:=hid (HR2.out.below hup (Nat.le_refl _))
 clear hup
 change Calls _ _ _ (al w2 (h_ exB.names) 9) _
 generalize(al w2 (h_ exB.names) 9)=w3 at HN3 HF3 HM3 HB3 HR3⊢
 generalize w2.heap.size=b2 at HN3⊢
 clear HF2 HM2 HB2 HR2
 have HT:=hid (P5 exB _ _ _ w3 MS ⟨HN3.out,lX.nil_ _ _,Bys.nil_ _ _⟩ HR3.out (TP.low HTP.out HB3.out HR.out.eight) Jy P7)
 rw[MW]at HT
 refine HT.out.mono ?_
 rintro e w4 ⟨rfl,hb⟩
 have HF4:=hid ((HF3.out.below hb).more hb.size)
 have HM4:=hid (Blk.below HM3.out hb (Blk.lt HM3.out))
 have HB4:=hid (HB3.out.trans (hb.mono HB3.out.size))
 have HR4:=hid (HR3.out.below hb (Nat.le_refl _))
 clear hb HN3 HF3 HM3 HB3 HR3 HT
 go_wp2_with fail
 have hup:Below w4.heap.size w4 (al w4 (aX exF) 5):=(Below.refl _ _).alloc (Nat.le_refl _) _
 have HX5:=hid (show Bys (al w4 (aX exF) 5) (al w4 (aX exF) 5).heap.size (.slice (some ⟨w4.heap.size,0,none⟩) 24 24) exF from by rw[World.size_alloc];exact Bys.new w4 _ exF (by decide))
 have HF5:=hid ((HF4.out.below hup).more hup.size)
 have HM5:=hid (Blk.below HM4.out hup (Blk.lt HM4.out))
 have HB5:=hid (HB4.out.trans (hup.mono HB4.out.size))
 have HR5:=hid (HR4.out.below hup (Nat.le_refl _))
 clear hup
 change Calls _ _ _ (al w4 (aX exF) 5) _
 generalize(al w4 (aX exF) 5)=w5 at HX5 HF5 HM5 HB5 HR5⊢
 generalize w4.heap.size=b4 at HX5⊢
 clear HF4 HM4 HB4 HR4
 have HT:=hid (rV _ exF w5 HX5.out HR5.out (by decide))
 rw[OW]at HT
 refine HT.out.mono ?_
 rintro e w6 ⟨⟨bn,bq,bd,rfl,hol⟩,hb⟩
 have qZ:=hid hol
 have HF6:=hid ((HF5.out.below hb).more hb.size)
 have HM6:=hid (Blk.below HM5.out hb (Blk.lt HM5.out))
 have HB6:=hid (HB5.out.trans (hb.mono HB5.out.size))
 have HR6:=hid (HR5.out.below hb (Nat.le_refl _))
 clear hol hb HX5 HF5 HM5 HB5 HR5 HT
 dsimp only
 go_upto_region 5 with(change wpList _ _ _ _ _ (al w6 (mgN (head 0 0)) 41);have hup:Below w6.heap.size w6 (al w6 (mgN (head 0 0)) 41):=(Below.refl _ _).alloc (Nat.le_refl _) _;have HMZ:=hid (show aK (al w6 (mgN (head 0 0)) 41) w6.heap.size (head 0 0) (.slice none 0 0) (.slice none 0 0) (.slice none 0 0)from Blk.new w6 _ _);generalize(al w6 (mgN (head 0 0)) 41)=w6z at hup HMZ⊢;refine dA HMZ.out 0 (aF exB bn bq bd) _ (bW ..) (Nat.le_refl 36) (bT _ (bG qZ.out.n) (bG qZ.out.q) (bG qZ.out.d)) rfl _ _ _ rfl rfl rfl aB ?_;intro w7 hs ho;have HD7:=hid (show aK w7 w6.heap.size exB bn bq bd from hs);have FY:=hid (hup.trans ((ho (fun i=>i=w6.heap.size) rfl w6z (Off.refl _ _)).below (fun k hk=>(by have hk:k=w6.heap.size:=hk;omega)) hup.size));clear hs ho hup HMZ)
 have FQ:=hid (qZ.out.below FY.out)
 have HF7:=hid ((HF6.out.below FY.out).more FY.out.size)
 have HM7:=hid (Blk.below HM6.out FY.out (Blk.lt HM6.out))
 have HB7:=hid (HB6.out.trans (FY.out.mono HB6.out.size))
 have HR7:=hid (HR6.out.below FY.out (Nat.le_refl _))
 generalize w6.heap.size=b6 at HD7⊢
 clear qZ HF6 HM6 HB6 HR6 FY
 go_wp2_with fail
 have HPA:=hid (DR (ofL exL) w7 (HSE.out.low HB7.out HR.out.eight) HR7.out (by decide))
 rw[show parseM (ofL exL).data.toList=(exA,0,0)from Jw]at HPA
 refine HPA.out.mono ?_
 rintro e w8 ⟨⟨pn,pq,pd,rfl,hol⟩,hb⟩
 have FZ:=hid hol
 have HF8:=hid ((HF7.out.below hb).more hb.size)
 have HM8:=hid (Blk.below HM7.out hb (Blk.lt HM7.out))
 have HD8:=hid (Blk.below HD7.out hb (Blk.lt HD7.out))
 have HL8:=hid (FQ.out.below hb)
 have HB8:=hid (HB7.out.trans (hb.mono HB7.out.size))
 have HR8:=hid (HR7.out.below hb (Nat.le_refl _))
 clear hol hb HF7 HM7 HD7 FQ HB7 HR7 HPA
 dsimp only
 go_upto_region 6 with(change wpList _ _ _ _ _ (al w8 (mgN (head 0 0)) 41);have hup:Below w8.heap.size w8 (al w8 (mgN (head 0 0)) 41):=(Below.refl _ _).alloc (Nat.le_refl _) _;have HMZ:=hid (show aK (al w8 (mgN (head 0 0)) 41) w8.heap.size (head 0 0) (.slice none 0 0) (.slice none 0 0) (.slice none 0 0)from Blk.new w8 _ _);generalize(al w8 (mgN (head 0 0)) 41)=w8z at hup HMZ⊢;refine dA HMZ.out 0 (aF exA pn pq pd) _ (bW ..) (Nat.le_refl 36) (bT _ (bG FZ.out.n) (bG FZ.out.q) (bG FZ.out.d)) rfl _ _ _ rfl rfl rfl aB ?_;intro w9 hs ho;have HP9:=hid (show aK w9 w8.heap.size exA pn pq pd from hs);have DY:=hid (hup.trans ((ho (fun i=>i=w8.heap.size) rfl w8z (Off.refl _ _)).below (fun k hk=>(by have hk:k=w8.heap.size:=hk;omega)) hup.size));clear hs ho hup HMZ)
 have HF9:=hid ((HF8.out.below DY.out).more DY.out.size)
 have HM9:=hid (Blk.below HM8.out DY.out (Blk.lt HM8.out))
 have HD9:=hid (Blk.below HD8.out DY.out (Blk.lt HD8.out))
 have HL9:=hid (HL8.out.below DY.out)
 have HB9:=hid (HB8.out.trans (DY.out.mono HB8.out.size))
 have HR9:=hid (HR8.out.below DY.out (Nat.le_refl _))
 generalize w8.heap.size=b8 at HP9⊢
 clear FZ HF8 HM8 HD8 HL8 HB8 HR8 DY
 have HSZ:=hid (xG exA _ _ _ w9 FX ⟨iW.nil_ _ _,lX.nil_ _ _,Bys.nil_ _ _⟩ HR9.out zM)
 rw[H9]at HSZ
 go_wp2_with(refine wlw HM9.out 0 (aF exA (.slice none 0 0) (.slice none 0 0) (.slice none 0 0)) rfl rfl _ _ rfl rfl _ Tryz.underlying41 rfl aB ?_)
 refine HSZ.out.mono ?_
 rintro e w10 ⟨rfl,hb⟩
 have HFX:=hid (HF9.out.below hb)
 have HDX:=hid (Blk.below HD9.out hb (Blk.lt HD9.out))
 have HPX:=hid (Blk.below HP9.out hb (Blk.lt HP9.out))
 have HLX:=hid (HL9.out.below hb).n
 have HBX:=hid (HB9.out.trans (hb.mono HB9.out.size))
 clear hb HF9 HM9 HD9 HP9 HL9 HB9 HR9 HSZ
 obtain⟨nA,nc,hbn, -⟩:=aJ HLX.out
 have hnm:=iW.iH HLX.out
 rw[hbn]at hnm
 obtain⟨ad,hA, -,kx⟩:=hnm.at_ (k:=1) (x:=⟨#[46,46]⟩) rfl
 subst hA
 have kx1:w10.cell? ⟨ad.block,ad.off+1,none⟩=some (.string ⟨#[46,46]⟩):=kx
 have k11:w10.cell? ⟨b6,11,none⟩=some (.slice (some ad) 2 nc):=(Blk.cell HDX.out 11).trans (congrArg some hbn)
 have k1:w10.cell? ⟨b6,1,none⟩=some (.int .u16 3):=Blk.cell HDX.out 1
 have k10:w10.cell? ⟨b6,10,none⟩=some (.int .u32 2):=Blk.cell HDX.out 10
 have p2:w10.cell? ⟨b8,2,none⟩=some (.int .u32 8192):=Blk.cell HPX.out 2
 have p3:w10.cell? ⟨b8,3,none⟩=some (.string ⟨#[57,80,50,48,48,48]⟩):=Blk.cell HPX.out 3
 have hcv:=jH HFX.out
 have ofs:∀l:List UInt8,(ofL l).toList=l:=fun l=>by rw[ByteArray.toList_eq];rfl
 have s1:=ofs [19,0,0,0,100,255,255,0,32,0,0,6,0,57,80,50,48,48,48]
 have s2:=ofs [84,119,97,108,107,32,51,32,102,105,100,61,49,32,110,101,119,102,105,100,61,50,32,110,97,109,101,115,61,91,34,97,34,32,34,46,46,34,93]
 clear hnm hbn ofs
 go_upto_region 7 with(fail)
 go_wp2_with fail
 refine bodyPost_ret (v:= .bool true) (by simp[results,Tryz.results12]) rfl ⟨rfl, ?_⟩
 exact HBX.out
theorem Bys.at2{w:World}{B:Nat}{A:Option Addr}{n c:Nat}{l:List UInt8}(h:Bys w B (.slice A n c) l){k:Nat}{b:UInt8}(hx:l[k]? =some b):∃ad,A=some ad∧ad.block<B∧w.cell? (ad.add k)=some (.int .u8 (b.toNat:Int)):=by
 obtain⟨A',c',e, -, -,hr⟩:=h
 injection e with e1 e2 e3
 subst e1
 have hk:k<l.length:=(List.getElem?_eq_some_iff.1 hx).1
 obtain⟨ad,u,h1,h2,h3,h4⟩:=hr.at_ hk
 refine⟨ad,h1,h2,h4.trans ?_⟩
 rw[aX,List.getElem?_map,hx]at h3
 exact h3.symm▸rfl
structure LS(w0 w:World):Prop where
 up:Below w0.heap.size w0 w
 wd:kN w
theorem LS.next{w0 w w':World}(h:LS w0 w)(hb:Below w.heap.size w w'):LS w0 w':=⟨h.up.trans (hb.mono h.up.size),h.wd.next hb⟩
theorem LS.start{w:World}(h:kN w):LS w w:=⟨Below.refl _ _,h⟩
theorem LS.bys{w0 w:World}{v:Value}{x:List UInt8}(h:LS w0 w)(hx:Bys w0 w0.heap.size v x):Bys w w.heap.size v x:=(hx.below h.up).more h.up.size
def Mg.ofB(m:Mg):Nat:=64+m.version.size+m.uname.size+m.bF.size+m.bH.size+m.name.size+m.data.length+13*m.aV.length+m.stat.name.size+m.stat.uid.size+m.stat.gid.size+m.stat.fE.size
def aaV(l:List ByteArray):Nat:=(l.map fun s=>2+s.size).sum
def Mg.ofM(m:Mg):Nat:=m.ofB+aaV m.names
theorem abe{l:List ByteArray}{k:Nat}{s:ByteArray}(h:l[k]? =some s):aaV (l.take (k+1))=aaV (l.take k)+2+s.size:=by
 rw[List.take_add_one,h]
 unfold aaV
 simp
 omega
theorem abf{m:Mg}(h:m.ofM≤8388608):m.small:=by
 unfold Mg.ofM Mg.ofB at h
 intro f
 cases f
 case names=>show 2+aaV m.names≤_;omega
 case aV=>show 2+13*m.aV.length≤_;omega
 case data=>show 4+m.data.length≤_;omega
 case stat=>show 2+dY m.stat≤_;unfold dY;omega
 case version=>show 2+m.version.size≤_;omega
 case uname=>show 2+m.uname.size≤_;omega
 case bF=>show 2+m.bF.size≤_;omega
 case bH=>show 2+m.bH.size≤_;omega
 case name=>show 2+m.name.size≤_;omega
 case qid=>show 13≤_;omega
 case offset=>show 8≤_;omega
 case aT=>show 2≤_;omega
 case mode=>show 1≤_;omega
 all_goals(show 4≤_;omega)
def OfR(m:Mg)(w:World)(e:Ending)(w':World):Prop:=(∃n:Nat,e= .returned (.int .i64 (n:Int))∧n≤4503599627370496∧(n≤8388608→m.ofM≤8388608))∧Below w.heap.size w w'
theorem aa3(m:Mg)(vn vq vd:Value)(w w0:World)(hc:Came w0 m vn vq vd)(hl:Lists w w.heap.size m vn vq vd):Calls Tryz.prog 25 #[iM m vn vq vd] w (OfR m w):=by
 have HM:=hid (show aK (al w (aF m vn vq vd) 41) w.heap.size m vn vq vd from Blk.new w _ _)
 have hup:Below w.heap.size w (al w (aF m vn vq vd) 41):=(Below.refl _ _).alloc (Nat.le_refl _) _
 have HU:=hid hup
 have HL:=hid (hl.n.below hup)
 obtain⟨nA,nc,rfl, -⟩:=hl.n
 obtain⟨qA,qc,rfl, -⟩:=hl.q
 obtain⟨dA,dc,rfl, -⟩:=hl.d
 have HC:=hid hc
 clear hc hl hup
 have s3:=HC.out.s3
 have s5:=HC.out.s5
 have s6:=HC.out.s6
 have s7:=HC.out.s7
 have s18:=HC.out.s18
 have s32:=HC.out.s32
 have s33:=HC.out.s33
 have s34:=HC.out.s34
 have s35:=HC.out.s35
 have sq:=HC.out.ql
 have sd:=HC.out.dl
 have sn:=HC.out.nl
 go_enter Tryz.func25,Tryz.ntmps25
 go_upto_region 1 with(fail)
 change Code.wp _ _ _ _ (al w (aF m (.slice nA m.names.length nc) (.slice qA m.aV.length qc) (.slice dA m.data.length dc)) 41)
 generalize(al w (aF m (.slice nA m.names.length nc) (.slice qA m.aV.length qc) (.slice dA m.data.length dc)) 41)=w1 at HM HU HL⊢
 generalize hz:w.heap.size=z at HM HU HL⊢
 have HZ:=hid hz
 clear hz
 have k3:w1.cell? ⟨z,3,none⟩=some (.string m.version):=Blk.cell HM.out 3
 have k5:w1.cell? ⟨z,5,none⟩=some (.string m.uname):=Blk.cell HM.out 5
 have k6:w1.cell? ⟨z,6,none⟩=some (.string m.bF):=Blk.cell HM.out 6
 have k7:w1.cell? ⟨z,7,none⟩=some (.string m.bH):=Blk.cell HM.out 7
 have k18:w1.cell? ⟨z,18,none⟩=some (.string m.name):=Blk.cell HM.out 18
 have k32:w1.cell? ⟨z,32,none⟩=some (.string m.stat.name):=Blk.cell HM.out 32
 have k33:w1.cell? ⟨z,33,none⟩=some (.string m.stat.uid):=Blk.cell HM.out 33
 have k34:w1.cell? ⟨z,34,none⟩=some (.string m.stat.gid):=Blk.cell HM.out 34
 have k35:w1.cell? ⟨z,35,none⟩=some (.string m.stat.fE):=Blk.cell HM.out 35
 have k12:w1.cell? ⟨z,12,none⟩=some (.slice qA m.aV.length qc):=Blk.cell HM.out 12
 have k22:w1.cell? ⟨z,22,none⟩=some (.slice dA m.data.length dc):=Blk.cell HM.out 22
 have k11:w1.cell? ⟨z,11,none⟩=some (.slice nA m.names.length nc):=Blk.cell HM.out 11
 have HB:=hid (show m.ofB≤4503599627370496 from by unfold Mg.ofB;omega)
 go_upto_region 4 with(fail)
 go_loopw [3,4] (fun n i wr=>wr=w1∧∃k:Nat,k≤m.names.length∧i= .int .i64 (k:Int)∧n= .int .i64 ((m.ofB+aaV (m.names.take k):Nat):Int)∧m.ofB+aaV (m.names.take k)≤4503599627370496) (fun _ i _=>m.names.length-(intOf i).toNat)
 case atStart=>
  refine⟨rfl,0,by omega,rfl, ?_,by rw[List.take_zero];exact HB.out⟩
  rw[List.take_zero]
  unfold Mg.ofB
  show Value.int _ _=Value.int _ _
  congr 1
  all_goals(simp only[aaV,List.map_nil,List.sum_nil];omega)
 case round=>
  obtain⟨rfl,k,hk,rfl,rfl,hn⟩:=hrel
  have abO:=hid (show m.ofM=m.ofB+aaV m.names from rfl)
  by_cases hlt:k<m.names.length
  ·obtain⟨x,hx⟩:∃x,m.names[k]? =some x:=⟨m.names[k],List.getElem?_eq_getElem _⟩
   have hxs:=HC.out.ns x (List.mem_of_getElem? hx)
   have HT:=hid (abe hx)
   obtain⟨ad,rfl, -,kx⟩:=HL.out.at_ hx
   clear hx
   have HNN:=hid hn
   generalize hT:m.ofB+aaV (m.names.take k)=T at hn⊢
   have HTT:=hid hT
   clear hT
   by_cases hle:T≤8388608
   ·go_wp2_with fail
    go_roundw
    case rel=>
     have h1:=HT.out
     have h2:=HTT.out
     refine⟨by trivial,k+1,by omega,by go_num, ?_,by omega⟩
     rw[h1]
     show Value.int _ _=Value.int _ _
     congr 1
     all_goals omega
    case measure=>simp[intOf];omega
   ·have HLE:=hid hle
    go_wp2_with fail
    refine bodyPost_ret (v:= .int .i64 (T:Int)) (by simp[results,Tryz.results25]) rfl ⟨⟨T,rfl,hn,fun h=>absurd h HLE.out⟩, ?_⟩
    rw[HZ.out]
    exact HU.out
  ·have hkk:k=m.names.length:=by omega
   subst hkk
   rw[List.take_length,←abO.out]at hn⊢
   clear hlt hk
   generalize hT:m.ofM=T at hn⊢
   have HTT:=hid hT
   clear hT
   go_wp2_with fail
   refine bodyPost_ret (v:= .int .i64 (T:Int)) (by simp[results,Tryz.results25]) rfl ⟨⟨T,rfl,hn,fun h=>(by rw[HTT.out];exact h)⟩, ?_⟩
   rw[HZ.out]
   exact HU.out
abbrev MgV:=Mg×Value×Value×Value
def OaR(ms:List MgV)(ls:List ByteArray)(fs:List (Value×List UInt8))(w:World)(e:Ending)(w':World):Prop:=(∃n:Nat,e= .returned (.int .i64 (n:Int))∧(n≤8388608→(∀x∈ms,x.1.ofM≤8388608)∧(∀s∈ls,s.size≤8388608)∧∀x∈fs,x.2.length≤8388608))∧Below w.heap.size w w'
theorem CY{α:Type}{p:α→Prop}{l:List α}{k:Nat}{x:α}(h:∀y∈l.take k,p y)(hx:l[k]? =some x)(hp:p x):∀y∈l.take (k+1),p y:=by
 intro y hy
 rw[List.take_add_one,hx,Option.toList_some,List.mem_append]at hy
 rcases hy with hy|hy
 ·exact h y hy
 ·rw[List.mem_singleton]at hy;subst hy;exact hp
theorem Frs.at_{w:World}{B:Nat}{A:Option Addr}{n c:Nat}{l:List (Value×List UInt8)}(h:Frs w B (.slice A n c) l){k:Nat}{x:Value×List UInt8}(hx:l[k]? =some x):∃ad,A=some ad∧w.cell? (ad.add k)=some x.1∧Bys w B x.1 x.2:=by
 obtain⟨A',c',e, -, -,hr⟩:=h
 injection e with e1 e2 e3
 subst e1
 obtain⟨⟨ad,h1,h2,h3⟩,h4⟩:=hr k x hx
 exact⟨ad,h1,h3,h4⟩
theorem BK.at_{w:World}{B:Nat}{A:Option Addr}{n c:Nat}{l:List MgV}(h:BK w B (.slice A n c) l){k:Nat}{x:MgV}(hx:l[k]? =some x):∃ad,A=some ad∧(∀j u,(aF x.1 x.2.1 x.2.2.1 x.2.2.2)[j]? =some u→w.cell? ((ad.add (k*36)).add j)=some u)∧Lists w B x.1 x.2.1 x.2.2.1 x.2.2.2:=by
 obtain⟨A',c',e, -, -,hr⟩:=h
 injection e with e1 e2 e3
 subst e1
 obtain⟨⟨ad,h1,h2,h3⟩,h4⟩:=hr k x hx
 exact⟨ad,h1,h3,h4⟩
theorem aa4(w w0:World)(va vb vc:Value)(ms:List MgV)(ls:List ByteArray)(fs:List (Value×List UInt8))(hm:BK w w.heap.size va ms)(hl:iW w w.heap.size vb ls)(hf:Frs w w.heap.size vc fs)
  (hcm:∀x∈ms,Came w0 x.1 x.2.1 x.2.2.1 x.2.2.2) (hml:ms.length≤140737488355327) (hll:ls.length≤140737488355327) (hls:∀s∈ls,s.size≤140737488355327) (hfl:fs.length≤140737488355327) (hfz:∀x∈fs,x.2.length≤140737488355327):
  Calls Tryz.prog 22 #[va,vb,vc] w (OaR ms ls fs w):=by
 have HM:=hid hm
 have HL:=hid hl
 have HF:=hid hf
 obtain⟨mA,mc,rfl,hmc, -⟩:=hm
 obtain⟨lA,lc,rfl,hlc, -⟩:=hl
 obtain⟨fA,fc,rfl,hfc, -⟩:=hf
 have HCM:=hid hcm
 have HLS:=hid hls
 have HFZ:=hid hfz
 clear hcm hls hfz hmc hlc hfc
 go_enter Tryz.func22,Tryz.ntmps22
 go_upto_region 3 with(fail)
 go_loopw [7,8] (fun n i wr=>∃k nn:Nat,n= .int .i64 (nn:Int)∧i= .int .i64 (k:Int)∧k≤ms.length∧nn≤4503599635759104∧Below w.heap.size w wr∧Hid (nn≤8388608→∀x∈ms.take k,x.1.ofM≤8388608)) (fun _ i _=>ms.length-(intOf i).toNat)
 case atStart=>exact⟨0,0,rfl,rfl,Nat.zero_le _,Nat.zero_le _,Below.refl _ _,hid (fun _ x hx=>by cases hx)⟩
 case round=>
  obtain⟨k,nn,rfl,rfl,hk,hn,hb,HP⟩:=hrel
  have HB:=hid hb
  clear hb
  obtain⟨b,hbb⟩:∃b,b=(decide (k<ms.length)&&decide (nn≤8388608)):=⟨_,rfl⟩
  have HBB:=hid hbb
  clear hbb
  go_upto_region 3 with(fail)
  go_cut [18] (fun x wx=>x= .bool b∧wx=wr)
  case first=>
   as_aux_lemma=>
   by_cases hlt:k<ms.length
   ·by_cases hle:nn≤8388608
    ·have HG:=hid (show b=true from by rw[HBB.out,decide_eq_true hlt,decide_eq_true hle];rfl)
     go_wp2_with fail
     go_meet
     case rel=>exact⟨by rw[HG.out];exact congrArg Value.bool (decide_eq_true (by omega)),rfl⟩
    ·have HG:=hid (show b=false from by rw[HBB.out,decide_eq_true hlt,decide_eq_false hle];rfl)
     go_wp2_with fail
     go_meet
     case rel=>exact⟨by rw[HG.out];exact congrArg Value.bool (decide_eq_false (by omega)),rfl⟩
   ·have HG:=hid (show b=false from by rw[HBB.out,decide_eq_false hlt];rfl)
    go_wp2_with fail
    go_meet
    case rel=>exact⟨by rw[HG.out],rfl⟩
  obtain⟨hc1,hc2⟩:=hcut
  subst hc1
  have hc3:=hc2.symm
  subst hc3
  clear hc2
  cases b with
  |true=>
   have hb2:=HBB.out.symm
   rw[Bool.and_eq_true,decide_eq_true_iff,decide_eq_true_iff]at hb2
   obtain⟨hlt,hle⟩:=hb2
   have HLT:=hid hlt
   have HLE:=hid hle
   obtain⟨x,hx⟩:∃x,ms[k]? =some x:=⟨ms[k],List.getElem?_eq_getElem _⟩
   obtain⟨ad,hA,HC,hli⟩:=(HM.out.below HB.out).at_ hx
   subst hA
   have HCC:=hid HC
   have HCA:=hid (HCM.out x (List.mem_of_getElem? hx))
   have HLI:=hid hli
   have HX:=hid hx
   clear hx hli HC
   go_wp2_with(refine wlA (ad.add (k*36)) (aF x.1 x.2.1 x.2.2.1 x.2.2.2) HCC.out rfl _ _ rfl rfl _ Tryz.underlying41 rfl aB ?_)
   refine(aa3 x.1 x.2.1 x.2.2.1 x.2.2.2 wr w0 HCA.out (HLI.out.more HB.out.size)).mono ?_
   rintro e w2 ⟨⟨n2,rfl,hn2,hsm⟩,hb⟩
   have HB2:=hid (HB.out.trans (hb.mono HB.out.size))
   have HSM:=hid hsm
   clear hb hsm
   go_wp2_with fail
   go_roundw
   case rel=>exact⟨k+1,nn+n2,by go_num,by go_num,HLT.out,by have:=HLE.out;omega,HB2.out,hid fun h=>CY (HP.out HLE.out) HX.out (HSM.out (by omega))⟩
   case measure=>first|(simp[intOf];done)|(have:=HLT.out;simp[intOf];omega)
  |false=>
   have HQ:=hid (show nn≤8388608→∀x∈ms,x.1.ofM≤8388608 from by
    intro h
    have h2:=HBB.out.symm
    rw[decide_eq_true h,Bool.and_true,decide_eq_false_iff_not]at h2
    have h3:=HP.out h
    rw[List.take_of_length_le (by omega)]at h3
    exact h3)
   clear HBB HP
   go_upto_region 7 with(fail)
   go_loopw [7,9] (fun n i wr=>∃k nn:Nat,n= .int .i64 (nn:Int)∧i= .int .i64 (k:Int)∧k≤ls.length∧nn≤4503599635759104∧Below w.heap.size w wr∧Hid (nn≤8388608→(∀x∈ms,x.1.ofM≤8388608)∧∀x∈ls.take k,x.size≤8388608)) (fun _ i _=>ls.length-(intOf i).toNat)
   case atStart=>exact⟨0,nn,rfl,rfl,Nat.zero_le _,hn,HB.out,hid (fun h=>⟨HQ.out h,fun x hx=>by cases hx⟩)⟩
   case round=>
    obtain⟨k,nn,rfl,rfl,hk,hn,hb,HP⟩:=hrel
    have HB:=hid hb
    clear hb
    obtain⟨b,hbb⟩:∃b,b=(decide (k<ls.length)&&decide (nn≤8388608)):=⟨_,rfl⟩
    have HBB:=hid hbb
    clear hbb
    go_upto_region 7 with(fail)
    go_cut [35] (fun x wx=>x= .bool b∧wx=wr)
    case first=>
     as_aux_lemma=>
     by_cases hlt:k<ls.length
     ·by_cases hle:nn≤8388608
      ·have HG:=hid (show b=true from by rw[HBB.out,decide_eq_true hlt,decide_eq_true hle];rfl)
       go_wp2_with fail
       go_meet
       case rel=>exact⟨by rw[HG.out];exact congrArg Value.bool (decide_eq_true (by omega)),rfl⟩
      ·have HG:=hid (show b=false from by rw[HBB.out,decide_eq_true hlt,decide_eq_false hle];rfl)
       go_wp2_with fail
       go_meet
       case rel=>exact⟨by rw[HG.out];exact congrArg Value.bool (decide_eq_false (by omega)),rfl⟩
     ·have HG:=hid (show b=false from by rw[HBB.out,decide_eq_false hlt];rfl)
      go_wp2_with fail
      go_meet
      case rel=>exact⟨by rw[HG.out],rfl⟩
    obtain⟨hc1,hc2⟩:=hcut
    subst hc1
    have hc3:=hc2.symm
    subst hc3
    clear hc2
    cases b with
    |true=>
     have hb2:=HBB.out.symm
     rw[Bool.and_eq_true,decide_eq_true_iff,decide_eq_true_iff]at hb2
     obtain⟨hlt,hle⟩:=hb2
     have HLT:=hid hlt
     have HLE:=hid hle
     obtain⟨x,hx⟩:∃x,ls[k]? =some x:=⟨ls[k],List.getElem?_eq_getElem _⟩
     obtain⟨ad,hA, -,kx⟩:=(HL.out.below HB.out).at_ hx
     subst hA
     have hz:=HLS.out x (List.mem_of_getElem? hx)
     have HX:=hid hx
     clear hx
     go_wp2_with fail
     go_roundw
     case rel=>exact⟨k+1,nn+16+x.size,by go_num,by go_num,HLT.out,by have:=HLE.out;omega,HB.out,hid fun h=>⟨(HP.out HLE.out).1,CY (HP.out HLE.out).2 HX.out (by omega)⟩⟩
     case measure=>first|(simp[intOf];done)|(have:=HLT.out;simp[intOf];omega)
    |false=>
     have HQ:=hid (show nn≤8388608→(∀x∈ms,x.1.ofM≤8388608)∧∀x∈ls,x.size≤8388608 from by
      intro h
      have h2:=HBB.out.symm
      rw[decide_eq_true h,Bool.and_true,decide_eq_false_iff_not]at h2
      have h3:=HP.out h
      rw[List.take_of_length_le (by omega)]at h3
      exact h3)
     clear HBB HP
     go_upto_region 11 with(fail)
     go_loopw [7,10] (fun n i wr=>∃k nn:Nat,n= .int .i64 (nn:Int)∧i= .int .i64 (k:Int)∧k≤fs.length∧nn≤4503599635759104∧Below w.heap.size w wr∧Hid (nn≤8388608→(∀x∈ms,x.1.ofM≤8388608)∧(∀x∈ls,x.size≤8388608)∧∀x∈fs.take k,x.2.length≤8388608)) (fun _ i _=>fs.length-(intOf i).toNat)
     case atStart=>exact⟨0,nn,rfl,rfl,Nat.zero_le _,hn,HB.out,hid (fun h=>⟨(HQ.out h).1,(HQ.out h).2,fun x hx=>by cases hx⟩)⟩
     case round=>
      obtain⟨k,nn,rfl,rfl,hk,hn,hb,HP⟩:=hrel
      have HB:=hid hb
      clear hb
      obtain⟨b,hbb⟩:∃b,b=(decide (k<fs.length)&&decide (nn≤8388608)):=⟨_,rfl⟩
      have HBB:=hid hbb
      clear hbb
      go_upto_region 11 with(fail)
      go_cut [53] (fun x wx=>x= .bool b∧wx=wr)
      case first=>
       as_aux_lemma=>
       by_cases hlt:k<fs.length
       ·by_cases hle:nn≤8388608
        ·have HG:=hid (show b=true from by rw[HBB.out,decide_eq_true hlt,decide_eq_true hle];rfl)
         go_wp2_with fail
         go_meet
         case rel=>exact⟨by rw[HG.out];exact congrArg Value.bool (decide_eq_true (by omega)),rfl⟩
        ·have HG:=hid (show b=false from by rw[HBB.out,decide_eq_true hlt,decide_eq_false hle];rfl)
         go_wp2_with fail
         go_meet
         case rel=>exact⟨by rw[HG.out];exact congrArg Value.bool (decide_eq_false (by omega)),rfl⟩
       ·have HG:=hid (show b=false from by rw[HBB.out,decide_eq_false hlt];rfl)
        go_wp2_with fail
        go_meet
        case rel=>exact⟨by rw[HG.out],rfl⟩
      obtain⟨hc1,hc2⟩:=hcut
      subst hc1
      have hc3:=hc2.symm
      subst hc3
      clear hc2
      cases b with
      |true=>
       have hb2:=HBB.out.symm
       rw[Bool.and_eq_true,decide_eq_true_iff,decide_eq_true_iff]at hb2
       obtain⟨hlt,hle⟩:=hb2
       have HLT:=hid hlt
       have HLE:=hid hle
       obtain⟨x,hx⟩:∃x,fs[k]? =some x:=⟨fs[k],List.getElem?_eq_getElem _⟩
       obtain⟨ad,hA,kx,hby⟩:=(HF.out.below HB.out).at_ hx
       subst hA
       have hz:=HFZ.out x (List.mem_of_getElem? hx)
       have HX:=hid hx
       obtain⟨xA,xc,hxv, -⟩:=hby
       rw[hxv]at kx
       clear hx hxv
       go_wp2_with fail
       go_roundw
       case rel=>exact⟨k+1,nn+16+x.2.length,by go_num,by go_num,HLT.out,by have:=HLE.out;omega,HB.out,hid fun h=>⟨(HP.out HLE.out).1,(HP.out HLE.out).2.1,CY (HP.out HLE.out).2.2 HX.out (by omega)⟩⟩
       case measure=>first|(simp[intOf];done)|(have:=HLT.out;simp[intOf];omega)
      |false=>
       have HQ:=hid (show nn≤8388608→(∀x∈ms,x.1.ofM≤8388608)∧(∀x∈ls,x.size≤8388608)∧∀x∈fs,x.2.length≤8388608 from by
        intro h
        have h2:=HBB.out.symm
        rw[decide_eq_true h,Bool.and_true,decide_eq_false_iff_not]at h2
        have h3:=HP.out h
        rw[List.take_of_length_le (by omega)]at h3
        exact h3)
       clear HBB HP
       go_wp2_with fail
       exact bodyPost_ret (v:= .int .i64 (nn:Int)) (by simp[results,Tryz.results22]) rfl ⟨⟨nn,rfl,HQ.out⟩,HB.out⟩
end Go.Proofs.YtkblmloobkiloaaGreatDoor
namespace Go.Proofs.YtkblmloobkiloaaGreatDoor
open Go.Lib (hid)
open Go.Lib (decDigits)
def XW:List UInt8→Option Nat
 | []=>none
 |c::r=>
  if c.toNat=34 then some 0 else
  if c.toNat≠92 then(XW r).map (· +1)else
  match r with
  | []=>none
  |_::r1=>(XW r1).map (· +2)
def X_(c:UInt8):Nat:=if dG c then hexV c else 0
def XT:List UInt8→List UInt8
 | []=>[]
 | [_]=>[]
 | [c,d]=>if c.toNat≠92 then c::XT [d]else [d]
 | [c,d,h]=>if c.toNat≠92 then c::XT [d,h]else d::XT [h]
 |c::d::h::k::r2=>
  if c.toNat≠92 then c::XT (d::h::k::r2)else
  if d.toNat=120 then UInt8.ofNat (X_ h*16+X_ k)::XT r2 else d::XT (h::k::r2)
theorem YH{c:UInt8}(hc:c.toNat≠92)(l:List UInt8)(hl:l≠ []):XT (c::l)=c::XT l:=by
 rcases l with _|⟨d,_|⟨h,_|⟨k,l⟩⟩⟩
 ·exact absurd rfl hl
 all_goals(rw[XT.eq_def];dsimp only;rw[if_pos hc])
theorem YI(h k:UInt8)(l:List UInt8):XT (92::120::h::k::l)=UInt8.ofNat (X_ h*16+X_ k)::XT l:=by
 rw[XT.eq_def]
 dsimp only
 rw[if_neg (by decide),if_pos (by decide)]
theorem YJ{c:UInt8}(hc:c.toNat≠120)(l:List UInt8):XT (92::c::l)=c::XT l:=by
 rcases l with _|⟨h,_|⟨k,l⟩⟩
 ·rw[XT.eq_def];dsimp only;rw[if_neg (by decide)];rfl
 ·rw[XT.eq_def];dsimp only;rw[if_neg (by decide)]
 ·rw[XT.eq_def];dsimp only;rw[if_neg (by decide),if_neg hc]
theorem Yw(d h:UInt8):XT [92,d]=[d]∧XT [92,d,h]=[d]:=by
 constructor<;>(rw[XT.eq_def];dsimp only;rw[if_neg (by decide)])
 rw[XT.eq_def]
theorem aal(a:List UInt8)(c:UInt8):a++[c]≠ []:=by simp
theorem YK:∀x:List UInt8,XT (x.flatMap dw++[34])=x
 | []=>by rw[List.flatMap_nil,List.nil_append,XT.eq_def]
 |c::x=>by
  have ih:=YK x
  rw[List.flatMap_cons,List.append_assoc]
  rw[dw]
  split
  ·rename_i he
   simp only[List.cons_append,List.nil_append]
   rw[YJ (fun h=>by simp[esc,h]at he),ih]
  ·rename_i he
   split
   ·simp only[jW,List.cons_append,List.nil_append]
    have hb:=c.toNat_lt
    rw[YI,ih,X_,X_,if_pos (nI _ (by omega)).1,if_pos (nI _ (by omega)).1,y9]
   ·simp only[List.cons_append,List.nil_append]
    rw[YH (fun h=>by simp[esc,h]at he) _ (aal _ _),ih]
theorem YF{c:UInt8}(h1:c.toNat≠34)(h2:c.toNat≠92)(l:List UInt8):XW (c::l)=(XW l).map (· +1):=by
 rw[XW.eq_def];simp[h1,h2]
theorem Y5(c:UInt8)(l:List UInt8):XW (92::c::l)=(XW l).map (· +2):=by
 rw[XW.eq_def];simp
theorem YG(n:Nat)(h:n<16):(hexD n).toNat≠34∧(hexD n).toNat≠92:=by
 rcases Ep (nI n h).1 with h|h<;>omega
theorem Y2:∀x r:List UInt8,XW (x.flatMap dw++34::r)=some (x.flatMap dw).length
 | [],r=>by rw[XW.eq_def];rfl
 |c::x,r=>by
  have ih:=Y2 x r
  rw[List.flatMap_cons,List.append_assoc]
  rw[dw]
  split
  ·simp only[List.cons_append,List.nil_append]
   rw[Y5,ih]
   simp
  ·rename_i he
   have he':c.toNat≠34∧c.toNat≠92:=by simpa [esc]using he
   split
   ·simp only[jW,List.cons_append,List.nil_append]
    have hb:=c.toNat_lt
    rw[Y5,YF (YG _ (by omega)).1 (YG _ (by omega)).2,YF (YG _ (by omega)).1 (YG _ (by omega)).2,ih]
    simp[jW]
   ·simp only[List.cons_append,List.nil_append]
    rw[YF he'.1 he'.2,ih]
    simp
theorem Yt:∀(n:Nat) (l:List UInt8) (k:Nat),l.length≤n→XW l=some k→∃r,l.drop k=34::r
 |0,l,k,hn,h=>by
  cases l with
  |nil=>cases h
  |cons c l=>simp at hn
 |n+1,l,k,hn,h=>by
  cases l with
  |nil=>cases h
  |cons c l=>
   have hn':l.length≤n:=by simpa using hn
   rw[XW.eq_def]at h
   dsimp only at h
   split at h
   ·rename_i hc
    injection h with h
    subst h
    exact⟨l,by rw[List.drop_zero,show c=34 from UInt8.toNat_inj.1 hc]⟩
   ·split at h
    ·cases hs:XW l with
     |none=>rw[hs]at h;cases h
     |some j=>
      rw[hs]at h
      injection h with h
      subst h
      obtain⟨r,hr⟩:=Yt n l j hn' hs
      exact⟨r,by simpa using hr⟩
    ·cases l with
     |nil=>cases h
     |cons d l=>
      replace h:(XW l).map (· +2)=some k:=h
      cases hs:XW l with
      |none=>rw[hs]at h;cases h
      |some j=>
       rw[hs]at h
       injection h with h
       subst h
       obtain⟨r,hr⟩:=Yt n l j (by simp at hn';omega) hs
       exact⟨r,by simpa using hr⟩
def YL(l:List UInt8):Except Nat (ByteArray×List UInt8):=
 match l with
 | []=> .error l.length
 |c::r=>
  if c.toNat≠34 then .error l.length else
  match XW r with
  |none=> .error l.length
  |some n=>if good (ofL (XT (r.take (n+1))))=true∧Ah (XT (r.take (n+1)))=34::r.take (n+1)then .ok (ofL (XT (r.take (n+1))),r.drop (n+1))else .error l.length
theorem Zi(l:List UInt8):YL l=dJ l:=by
 cases l with
 |nil=>rfl
 |cons c r=>
  unfold YL dJ
  dsimp only
  split
  ·rfl
  ·cases hu:unq r with
   |some p=>
    obtain⟨t,r1⟩:=p
    have hr:=oW _ r t r1 (Nat.le_refl _) hu
    have hs:XW r=some (t.flatMap dw).length:=by rw[hr];exact Y2 t r1
    have ht:r.take ((t.flatMap dw).length+1)=t.flatMap dw++[34]:=by
     rw[hr,show t.flatMap dw++34::r1=(t.flatMap dw++[34])++r1 by simp]
     exact kZ _ _ (by simp)
    have hd:r.drop ((t.flatMap dw).length+1)=r1:=by
     rw[hr,show t.flatMap dw++34::r1=(t.flatMap dw++[34])++r1 by simp]
     exact kJ _ _ (by simp)
    rw[hs]
    dsimp only
    rw[ht,hd,YK]
    by_cases hg:good (ofL t)=true
    ·rw[if_pos ⟨hg,rfl⟩,if_pos hg]
    ·rw[if_neg (fun h=>hg h.1),if_neg hg]
   |none=>
    cases hs:XW r with
    |none=>rfl
    |some n=>
     dsimp only
     refine if_neg fun h=> ?_
     obtain⟨r2,h2⟩:=Yt _ r n (Nat.le_refl _) hs
     have hq:=h.2
     unfold Ah at hq
     injection hq with _ hq
     have e:r=(XT (r.take (n+1))).flatMap dw++34::r.drop (n+1):=by
      have e1:=List.take_append_drop (n+1) r
      rw[←hq,List.append_assoc]at e1
      exact e1.symm
     rw[e,Gw]at hu
     cases hu
/-! A number. -/
def Yq(mst:Nat):List UInt8→Nat→Option Nat
 | [],n=>some n
 |c::d,n=>if mst/10<n∨mst-(c.toNat-48)<n*10 then none else Yq mst d (n*10+(c.toNat-48))
theorem Zj:∀(d:List UInt8) (n:Nat),n≤d.foldl (fun n c=>n*10+(c.toNat-48)) n
 | [],_=>Nat.le_refl _
 |c::d,n=>Nat.le_trans (by omega) (Zj d (n*10+(c.toNat-48)))
theorem ZN{mst:Nat}(hm:9≤mst):∀(d:List UInt8) (n:Nat),(∀c∈d,iT c=true)→n≤mst→
  Yq mst d n=if mst<d.foldl (fun n c=>n*10+(c.toNat-48)) n then none else some (d.foldl (fun n c=>n*10+(c.toNat-48)) n)
 | [],n,_,hn=>by rw[Yq,List.foldl_nil,if_neg (by omega)]
 |c::d,n,hd,hn=>by
  have hc:=Il (hd c (List.mem_cons_self ..))
  rw[Yq,List.foldl_cons]
  by_cases h:mst/10<n∨mst-(c.toNat-48)<n*10
  ·rw[if_pos h,if_pos (Nat.lt_of_lt_of_le (by omega) (Zj d _))]
  ·rw[if_neg h,ZN hm d _ (fun x hx=>hd x (List.mem_cons_of_mem _ hx)) (by omega)]
def aam(mst:Nat)(l:List UInt8):Except Nat (Nat×List UInt8):=
 let d:=l.takeWhile iT
 if d.length=0∨20<d.length∨(1<d.length∧d.head?=some 48)then .error l.length else
 match Yq mst d 0 with
 |none=> .error l.length
 |some n=> .ok (n,l.drop d.length)
theorem aah{mst:Nat}(hm:9≤mst)(h64:mst<18446744073709551616)(l:List UInt8):aam mst l=fZ mst l:=by
 unfold aam fZ
 dsimp only
 have hd:∀c∈l.takeWhile iT,iT c=true:=(lI l).2.1
 generalize hD:l.takeWhile iT=d at hd⊢
 rw[ZN hm d 0 hd (Nat.zero_le _)]
 show _=if d=[]∨(2≤d.length∧d.head?=some 48)∨mst<mZ d then _ else _
 rw[show d.foldl (fun n c=>n*10+(c.toNat-48)) 0=mZ d from rfl]
 by_cases h0:d=[]
 ·rw[if_pos (Or.inl (by rw[h0];rfl)),if_pos (Or.inl h0)]
 by_cases h1:1<d.length∧d.head?=some 48
 ·rw[if_pos (Or.inr (Or.inr h1)),if_pos (Or.inr (Or.inl ⟨h1.1,h1.2⟩))]
 by_cases h2:mst<mZ d
 ·rw[if_pos (Or.inr (Or.inr h2)),if_pos h2]
  split<;>rfl
 ·have hlen:d.length≤20:=by
   have e:=vP d.length d rfl hd h0 (fun h=>h1 ⟨h.1,h.2⟩)
   have h3:(decDigits (mZ d)).length≤20:=by
    rw[Lib.decDigits_length]
    by_cases hz:mZ d=0
    ·rw[hz]
     have h1:(Lib.decDigits 0).length=1:=by simp[Lib.decDigits]
     rw[Lib.decDigits_length]at h1
     omega
    ·have:=Lib.numDigits_eq (mZ d) (by omega) (by omega)
     split at this<;>omega
   rw[e]at h3
   exact h3
  have hpos:d.length≠0:=fun h=>h0 (List.length_eq_zero_iff.1 h)
  rw[if_neg (show¬(d.length=0∨20<d.length∨(1<d.length∧d.head?=some 48))from fun h=>h.elim hpos fun h=>h.elim (fun h=>by omega) h1),if_neg (show¬(d=[]∨(2≤d.length∧d.head?=some 48)∨mst<mZ d)from fun h=>h.elim h0 fun h=>h.elim (fun h=>h1 ⟨h.1,h.2⟩) h2)]
  rw[if_neg h2]
end Go.Proofs.YtkblmloobkiloaaGreatDoor
