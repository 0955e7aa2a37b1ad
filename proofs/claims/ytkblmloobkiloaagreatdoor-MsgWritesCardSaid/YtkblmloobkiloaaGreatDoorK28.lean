/-
  MWN MLF MWY MWP: what the laws of package msg need of them.
-/
import Derived.Test.YtkblmloobkiloaaGreatDoorK00
import Derived.Test.YtkblmloobkiloaaGreatDoorK27
import Derived.Test.YtkblmloobkiloaaGreatDoorK26
import Derived.Test.YtkblmloobkiloaaGreatDoorK14
import Derived.Test.YtkblmloobkiloaaGreatDoorEvS7
import Derived.Test.YtkblmloobkiloaaGreatDoorProg
import Derived.KernelRfl
set_option maxRecDepth 1000000
set_option maxHeartbeats 12800000
namespace Go.Proofs.YtkblmloobkiloaaGreatDoor
open Go.Lib (hid)
open Go.RowKit
theorem aeI(m:Mg):(enc m).1.length≤16777216:=by
 rw[←adC]
 unfold refused
 cases bQ m.kind with
 |none=>exact Nat.zero_le _
 |some fs=>
  dsimp only
  split
  ·split
   ·exact Nat.zero_le _
   ·rename_i h
    show m.size fs≤_
    omega
  ·exact Nat.zero_le _
theorem adO{m:Mg}(hs:m.small):(clean m).names.length≤16777216∧(clean m).aV.length≤16777216∧(clean m).data.length≤16777216:=by
 have move:∀(c:Mg) (f:Fld),(c.names.length≤16777216∧c.aV.length≤16777216∧c.data.length≤16777216)→(c.move m f).names.length≤16777216∧(c.move m f).aV.length≤16777216∧(c.move m f).data.length≤16777216:=fun c f h=>by
  cases f<;>first|exact h|exact⟨hs.names,h.2⟩|exact⟨h.1,hs.aV,h.2.2⟩|exact⟨h.1,h.2.1,hs.data⟩
 have all:∀(l:List Fld) (c:Mg),(c.names.length≤16777216∧c.aV.length≤16777216∧c.data.length≤16777216)→(l.foldl (fun c f=>c.move m f) c).names.length≤16777216∧(l.foldl (fun c f=>c.move m f) c).aV.length≤16777216∧(l.foldl (fun c f=>c.move m f) c).data.length≤16777216:=fun l=>by
  induction l with
  |nil=>exact fun c h=>h
  |cons f l ih=>exact fun c h=>ih _ (move c f h)
 exact all _ _ ⟨Nat.zero_le _,Nat.zero_le _,Nat.zero_le _⟩
structure WnA(w0 w wk:World)(x b i j H:Nat)(m:Mg):Prop where
 s:LS w0 wk
 x:acz wk x m b
 k:BkV w0 wk b i j H
 u:Below b w wk
theorem WnA.new{w0 w wk wk':World}{x b i j H:Nat}{m:Mg}(h:WnA w0 w wk x b i j H m)(hb:Below wk.heap.size wk wk'):WnA w0 w wk' x b i j H m:=
 ⟨h.s.next hb,h.x.below (hb.mono (Nat.le_of_lt h.k.lt)),h.k.new hb,h.u.trans (hb.mono (Nat.le_of_lt h.k.lt))⟩
theorem WnA.here{w0 w wk:World}{x b i j H:Nat}{m:Mg}(h:WnA w0 w wk x b i j H m):WnA w0 w wk x b i j wk.heap.size m:=⟨h.s,h.x,h.k.here,h.u⟩
structure OnM(w:World)(q base:Nat)(m:Mg)(vn vq vd:Value):Prop where
 k:aK w q m vn vq vd
 o:OL w base m vn vq vd
theorem OnM.new{w w':World}{q base:Nat}{m:Mg}{vn vq vd:Value}(h:OnM w q base m vn vq vd)(hb:Below w.heap.size w w'):OnM w' q base m vn vq vd:=⟨Blk.below h.k hb (Blk.lt h.k),h.o.below hb⟩
theorem OnM.keep{w w':World}{q base b:Nat}{m:Mg}{vn vq vd:Value}(h:OnM w q base m vn vq vd)(hr:f_ b w w'):OnM w' q base m vn vq vd:=⟨hr.k _ _ h.k,hr.r _ _ _ _ _ _ (.inr (.inl rfl)) h.o.n,hr.r _ _ _ _ _ _ (.inr (.inr rfl)) h.o.q,hr.r _ _ _ _ _ _ (.inl rfl) h.o.d⟩
theorem acw{w0 w:World}{x b i j H:Nat}{m:Mg}(hls:LS w0 w)(hx:acz w x m b)(hk:BkV w0 w b i j H)(hm:m.ok)(hs:m.small)(hi:i≤500)(hj:j≤500):
  Calls Tryz.prog 27 #[.pointer (some ⟨x,0,none⟩),.pointer (some ⟨b,0,none⟩)] w fun e w'=>e= .returned (.bool true)∧BkV w0 w' b (i+2) (j+1) w'.heap.size∧Below b w w':=by
 have HA0:=hid (show WnA w0 w w x b i j H m from⟨hls,hx,hk,Below.refl _ _⟩)
 obtain⟨E,hE⟩:∃E,E=enc m:=⟨_,rfl⟩
 obtain⟨C,hC⟩:∃C,C=clean m:=⟨_,rfl⟩
 obtain⟨T,hT⟩:∃T,T=ofL (qA m):=⟨_,rfl⟩
 have HEL:=hid (show E.1.length≤16777216 from by rw[hE];exact aeI m)
 have HCL:=hid (show C.names.length≤16777216∧C.aV.length≤16777216∧C.data.length≤16777216 from by rw[hC];exact adO hs)
 have HE:=hid hE
 have HC:=hid hC
 have HT:=hid hT
 have HIJ:=hid (And.intro hi hj)
 clear hls hx hk hi hj hE hC hT
 go_enter Tryz.func27,Tryz.ntmps27
 obtain⟨gn,nc,gq,qc,gd,dc,hlb, -⟩:=HA0.out.x
 have HLB:=hid hlb.k
 have HLL:=hid (acs.lists hlb)
 clear hlb
 go_wp2_with(refine wlw HLB.out 0 (aF m (.slice (some ⟨gn,0,none⟩) m.names.length nc) (.slice (some ⟨gq,0,none⟩) m.aV.length qc) (.slice (some ⟨gd,0,none⟩) m.data.length dc)) rfl rfl _ _ rfl rfl _ Tryz.underlying41 rfl aB ?_)
 refine(acZ m _ _ _ w HLL.out hs).mono ?_
 rintro e w1 ⟨⟨xn,xq,xd,rfl,hol⟩,hb⟩
 have gV:=hid hol
 have HA1:=hid (HA0.out.new hb)
 clear hol hb HLB HLL HA0
 go_upto_region 2 with(change wpList _ _ _ _ _ (w1.alloc (.cells (mgN (head 0 0)).toArray 41));have hup:Below w1.heap.size w1 (w1.alloc (.cells (mgN (head 0 0)).toArray 41)):=(Below.refl _ _).alloc (Nat.le_refl _) _;have HMZ:=hid (show aK (w1.alloc (.cells (mgN (head 0 0)).toArray 41)) w1.heap.size (head 0 0) (.slice none 0 0) (.slice none 0 0) (.slice none 0 0)from Blk.new w1 _ _);generalize(w1.alloc (.cells (mgN (head 0 0)).toArray 41))=w1z at hup HMZ⊢;refine dA HMZ.out 0 (aF m xn xq xd) _ (bW ..) (Nat.le_refl 36) (bT _ (bG gV.out.n) (bG gV.out.q) (bG gV.out.d)) rfl _ _ _ rfl rfl rfl aB ?_;intro w2 hs ho;have HM2:=hid (show aK w2 w1.heap.size m xn xq xd from hs);have HB2:=hid (hup.trans ((ho (fun i=>i=w1.heap.size) rfl w1z (Off.refl _ _)).below (fun k hk=>(by have hk:k=w1.heap.size:=hk;omega)) hup.size));clear hs ho hup HMZ)
 have HO2:=hid (show OnM w2 w1.heap.size w.heap.size m xn xq xd from⟨HM2.out,gV.out.below HB2.out⟩)
 have HA2:=hid (HA1.out.new HB2.out).here
 generalize w1.heap.size=q5 at HO2⊢
 clear HM2 gV HA1 HB2
 obtain⟨gn,nc,gq,qc,gd,dc,hlb, -⟩:=HA2.out.x
 have HLB:=hid hlb.k
 have HLL:=hid (acs.lists hlb)
 clear hlb
 go_wp2_with(refine wlw HLB.out 0 (aF m (.slice (some ⟨gn,0,none⟩) m.names.length nc) (.slice (some ⟨gq,0,none⟩) m.aV.length qc) (.slice (some ⟨gd,0,none⟩) m.data.length dc)) rfl rfl _ _ rfl rfl _ Tryz.underlying41 rfl aB ?_)
 refine(oh m _ _ _ w2 hm HLL.out HA2.out.s.wd.rd hs).mono ?_
 rintro e w3 ⟨⟨fv,rfl,hof⟩,hb⟩
 rw[←HE.out]at hof⊢
 obtain⟨Af,cf,rfl, -⟩:=aJ hof
 have HF3:=hid hof
 have HFG:=hid (show∀g,(Value.slice Af E.1.length cf).ownBlock=some g→g<w3.heap.size from fun g hg=>(hof.lt g hg).2)
 have HA3:=hid (HA2.out.new hb)
 have HO3:=hid (HO2.out.new hb)
 have HHG:=hid (And.intro (Nat.le_of_lt HA2.out.k.lt) hb.size)
 clear hof hb HLB HLL HA2 HO2
 go_upto_region 3 with(fail)
 obtain⟨gn,nc,gq,qc,gd,dc,hlb, -⟩:=HA3.out.x
 have HLB:=hid hlb.k
 have HLL:=hid (acs.lists hlb)
 clear hlb
 go_wp2_with(refine wlw HLB.out 0 (aF m (.slice (some ⟨gn,0,none⟩) m.names.length nc) (.slice (some ⟨gq,0,none⟩) m.aV.length qc) (.slice (some ⟨gd,0,none⟩) m.data.length dc)) rfl rfl _ _ rfl rfl _ Tryz.underlying41 rfl aB ?_)
 refine(ac9 m _ _ _ w3 HLL.out hs).mono ?_
 rintro e w4 ⟨⟨cn,cq,cd,rfl,hol⟩,hb⟩
 rw[←HC.out]at hol⊢
 obtain⟨An,nn,rfl, -⟩:=aJ hol.n
 obtain⟨Aq,nq,rfl, -⟩:=aJ hol.q
 obtain⟨Ad,nd,rfl, -⟩:=aJ hol.d
 have Y_:=hid hol
 have HA4:=hid (HA3.out.new hb)
 have HO4:=hid (HO3.out.new hb)
 have HF4:=hid (aI HF3.out hb)
 clear hol hb HLB HLL HA3 HO3 HF3
 go_upto_region 4 with(change wpList _ _ _ _ _ (w4.alloc (.cells (mgN (head 0 0)).toArray 41));have hup:Below w4.heap.size w4 (w4.alloc (.cells (mgN (head 0 0)).toArray 41)):=(Below.refl _ _).alloc (Nat.le_refl _) _;have HMZ:=hid (show aK (w4.alloc (.cells (mgN (head 0 0)).toArray 41)) w4.heap.size (head 0 0) (.slice none 0 0) (.slice none 0 0) (.slice none 0 0)from Blk.new w4 _ _);generalize(w4.alloc (.cells (mgN (head 0 0)).toArray 41))=w4z at hup HMZ⊢;refine dA HMZ.out 0 (aF C (.slice An C.names.length nn) (.slice Aq C.aV.length nq) (.slice Ad C.data.length nd)) _ (bW ..) (Nat.le_refl 36) (bT _ (bG Y_.out.n) (bG Y_.out.q) (bG Y_.out.d)) rfl _ _ _ rfl rfl rfl aB ?_;intro w5 hs ho;have HM5:=hid (show aK w5 w4.heap.size C (.slice An C.names.length nn) (.slice Aq C.aV.length nq) (.slice Ad C.data.length nd)from hs);have HB5:=hid (hup.trans ((ho (fun i=>i=w4.heap.size) rfl w4z (Off.refl _ _)).below (fun k hk=>(by have hk:k=w4.heap.size:=hk;omega)) hup.size));clear hs ho hup HMZ)
 have HC5:=hid (show OnM w5 w4.heap.size w3.heap.size C (.slice An C.names.length nn) (.slice Aq C.aV.length nq) (.slice Ad C.data.length nd)from⟨HM5.out,Y_.out.below HB5.out⟩)
 have HA5:=hid (HA4.out.new HB5.out)
 have HO5:=hid (HO4.out.new HB5.out)
 have HF5:=hid (aI HF4.out HB5.out)
 generalize w4.heap.size=q8 at HC5⊢
 generalize w3.heap.size=H3 at HC5 HFG HHG
 clear HM5 Y_ HA4 HO4 HF4 HB5
 obtain⟨gn,nc,gq,qc,gd,dc,hlb, -⟩:=HA5.out.x
 have HLB:=hid hlb.k
 have HLL:=hid (acs.lists hlb)
 clear hlb
 go_wp2_with(refine wlw HLB.out 0 (aF m (.slice (some ⟨gn,0,none⟩) m.names.length nc) (.slice (some ⟨gq,0,none⟩) m.aV.length qc) (.slice (some ⟨gd,0,none⟩) m.data.length dc)) rfl rfl _ _ rfl rfl _ Tryz.underlying41 rfl aB ?_)
 refine(xG m _ _ _ w5 hm HLL.out HA5.out.s.wd.rd hs).mono ?_
 rintro e w6 ⟨rfl,hb⟩
 rw[←HE.out]
 clear HLB HLL
 have HC6:=hid (HC5.out.new hb)
 have HA6:=hid (HA5.out.new hb)
 have HO6:=hid (HO5.out.new hb)
 have HF6:=hid (aI HF5.out hb)
 clear hb HC5 HA5 HO5 HF5
 go_upto_region 5 with(fail)
 obtain⟨gn,nc,gq,qc,gd,dc,hlb, -⟩:=HA6.out.x
 have HLB:=hid hlb.k
 have HLL:=hid (acs.lists hlb)
 clear hlb
 go_wp2_with(refine wlw HLB.out 0 (aF m (.slice (some ⟨gn,0,none⟩) m.names.length nc) (.slice (some ⟨gq,0,none⟩) m.aV.length qc) (.slice (some ⟨gd,0,none⟩) m.data.length dc)) rfl rfl _ _ rfl rfl _ Tryz.underlying41 rfl aB ?_)
 refine(Fp m _ _ _ w6 hm HLL.out HA6.out.s.wd.rd HA6.out.s.wd.tp hs).mono ?_
 rintro e w7 ⟨rfl,hb⟩
 rw[←HT.out]
 clear HLB HLL
 have HC7:=hid (HC6.out.new hb)
 have HA7:=hid (HA6.out.new hb)
 have HO7:=hid (HO6.out.new hb)
 have HF7:=hid (aI HF6.out hb)
 clear hb HC6 HA6 HO6 HF6
 go_upto_region 6 with(fail)
 try simp only[Act.put]
 go_cut [] (fun wx=>BkV w0 wx b (i+1) j H3∧f_ b w7 wx)
 case first=>
  obtain⟨vy,vn,vq,Y,N,Q,CY,CN,CQ,hd⟩:=HA7.out.k.open_
  have hup:Below w7.heap.size w7 (w7.alloc (.cells #[Value.slice Af E.1.length cf] 22)):=(Below.refl _ _).alloc (Nat.le_refl _) _
  have HB5:=hid (Blk.new w7 22 [Value.slice Af E.1.length cf].toArray)
  have HDA:=hid (hd.new hup)
  have HFA:=hid (aI HF7.out hup)
  have HRA:=hid (f_.new (base:=b) hup (Nat.le_of_lt (Blk.lt hd.k)))
  have hk2:w7.cell? ⟨b,0,none⟩=some vy:=Blk.cell hd.k 0
  have HYL:=hid (show Y.length≤20000000 from by have:=hd.l.1;have:=HIJ.out.1;omega)
  have HSZ:=hid (show b≤(w7.alloc (.cells #[Value.slice Af E.1.length cf] 22)).heap.size from Nat.le_trans (Nat.le_of_lt (Blk.lt hd.k)) hup.size)
  clear HC7 HA7 HO7 HF7 hd hup
  go_wp2_with(at_builtin;refine yg 25 22 (.slice none 0 0) 1 24 (by decide) (by decide) rfl Tryz.underlying25 x9 (.tmp 49) (.tmp 51) rfl rfl b _ Y.length _ rfl HDA.out.y w7.heap.size 1 [.slice Af E.1.length cf] rfl HB5.out rfl Rw HYL.out HSZ.out ?_;intro v4 w4 hown hgr hc;obtain⟨A4,c4,rfl, -⟩:=aJ hown;have HR4:=hid (HDA.out.row HHG.out.1 HHG.out.2 HFA.out HFG.out HEL.out hown hgr);have hk4:=HDA.out.grown hgr;have kb:w4.cell? ⟨b,0,none⟩=some vy:=Blk.cell hk4 0;have fb:w4.frozen? ⟨b,0,none⟩=false:=Blk.frozen hk4 0;clear hown hgr hc hk4 HDA HFA HB5 hk2)
  generalize w4.setCell ⟨b,0,none⟩ (.slice A4 (Y.length+1) c4)=w5 at HR4⊢
  go_meet
  case rel=>exact⟨HR4.out.1,HRA.out.trans HR4.out.2⟩
 obtain⟨hbk,hkr⟩:=hcut
 have HB8:=hid (And.intro hbk (HA7.out.u.trans hkr.b))
 have HC8:=hid (HC7.out.keep hkr)
 have HO8:=hid (HO7.out.keep hkr)
 have HF8:=hid (hkr.r _ _ _ _ _ _ (.inl rfl) HF7.out)
 clear hbk hkr HA7 HC7 HO7 HF7 HFG
 generalize wc=w8 at HB8 HC8 HO8 HF8⊢
 go_upto_region 7 with(fail)
 go_wp2_with(refine wlw HC8.out.k 0 (aF C (.slice An C.names.length nn) (.slice Aq C.aV.length nq) (.slice Ad C.data.length nd)) rfl rfl _ _ rfl rfl _ Tryz.underlying41 rfl aB ?_)
 refine(adN HB8.out.1 (Nat.le_trans HHG.out.1 HHG.out.2) (by have:=HIJ.out.1;omega) (by have:=HIJ.out.2;omega) HC8.out.o HCL.out).mono ?_
 rintro e w9 ⟨rfl,hbk,hkr⟩
 have HB9:=hid (And.intro hbk (HB8.out.2.trans hkr.b))
 have HC9:=hid (HC8.out.keep hkr)
 have HO9:=hid (HO8.out.keep hkr)
 have HF9:=hid (hkr.r _ _ _ _ _ _ (.inl rfl) HF8.out)
 clear hbk hkr HB8 HC8 HO8 HF8
 go_upto_region 8 with(fail)
 go_wp2_with(refine wlw HO9.out.k 0 (aF m xn xq xd) rfl rfl _ _ rfl rfl _ Tryz.underlying41 rfl aB ?_)
 refine(aa9 m hm _ _ _ w9 HO9.out.o.lists hs).mono ?_
 rintro e w10 ⟨⟨gv,rfl,hog⟩,hb⟩
 rw[←HE.out]at hog⊢
 obtain⟨Ag,cg,rfl, -⟩:=aJ hog
 have ae9:=hid hog
 clear hog
 have SG:=hid (And.intro (HB9.out.1.new hb) (HB9.out.2.trans (hb.mono (Nat.le_of_lt HB9.out.1.lt))))
 have ae_:=hid (HC9.out.new hb)
 have C_:=hid (HO9.out.new hb)
 have wS:=hid (aI HF9.out hb)
 clear HC9 HO9 HF9 HB9 hb
 go_upto_region 9 with(fail)
 go_wp2_with(refine wlw C_.out.k 0 (aF m xn xq xd) rfl rfl _ _ rfl rfl _ Tryz.underlying41 rfl aB ?_)
 refine(ac0 m hm _ _ _ w10 C_.out.o.lists hs).mono ?_
 rintro e w11 ⟨⟨dn,dq,dd,rfl,hol⟩,hb⟩
 rw[←HC.out]at hol⊢
 have adi:=hid hol
 clear hol
 have Qa:=hid (And.intro (SG.out.1.new hb) (SG.out.2.trans (hb.mono (Nat.le_of_lt SG.out.1.lt))))
 have afa:=hid (ae_.out.new hb)
 have A_:=hid (C_.out.new hb)
 have A8:=hid (aI wS.out hb)
 have afb:=hid (aI ae9.out hb)
 clear ae_ C_ wS ae9 SG hb
 go_upto_region 10 with(change wpList _ _ _ _ _ (w11.alloc (.cells (mgN (head 0 0)).toArray 41));have hup:Below w11.heap.size w11 (w11.alloc (.cells (mgN (head 0 0)).toArray 41)):=(Below.refl _ _).alloc (Nat.le_refl _) _;have HMZ:=hid (show aK (w11.alloc (.cells (mgN (head 0 0)).toArray 41)) w11.heap.size (head 0 0) (.slice none 0 0) (.slice none 0 0) (.slice none 0 0)from Blk.new w11 _ _);generalize(w11.alloc (.cells (mgN (head 0 0)).toArray 41))=afu at hup HMZ⊢;refine dA HMZ.out 0 (aF C dn dq dd) _ (bW ..) (Nat.le_refl 36) (bT _ (bG adi.out.n) (bG adi.out.q) (bG adi.out.d)) rfl _ _ _ rfl rfl rfl aB ?_;intro w12 hs ho;have Ls:=hid (show aK w12 w11.heap.size C dn dq dd from hs);have aed:=hid (hup.trans ((ho (fun i=>i=w11.heap.size) rfl afu (Off.refl _ _)).below (fun k hk=>(by have hk:k=w11.heap.size:=hk;omega)) hup.size));clear hs ho hup HMZ)
 have Ub:=hid (show OnM w12 w11.heap.size w10.heap.size C dn dq dd from⟨Ls.out,adi.out.below aed.out⟩)
 generalize w11.heap.size=q13 at Ub⊢
 have hb:=aed.out
 clear Ls adi aed
 have SL:=hid (And.intro (Qa.out.1.new hb) (Qa.out.2.trans (hb.mono (Nat.le_of_lt Qa.out.1.lt))))
 have afc:=hid (afa.out.new hb)
 have wV:=hid (A_.out.new hb)
 have wW:=hid (aI A8.out hb)
 have afd:=hid (aI afb.out hb)
 clear afa A_ A8 afb Qa hb
 go_wp2_with(refine wlw wV.out.k 0 (aF m xn xq xd) rfl rfl _ _ rfl rfl _ Tryz.underlying41 rfl aB ?_)
 refine(ac_ m hm.kind _ _ _ w12 wV.out.o.lists hs).mono ?_
 rintro e w13 ⟨rfl,hb⟩
 rw[←HE.out]
 have Qc:=hid (And.intro (SL.out.1.new hb) (SL.out.2.trans (hb.mono (Nat.le_of_lt SL.out.1.lt))))
 have afe:=hid (afc.out.new hb)
 have yL:=hid (wV.out.new hb)
 have Ba:=hid (aI wW.out hb)
 have aff:=hid (aI afd.out hb)
 have Uc:=hid (Ub.out.new hb)
 clear afc wV wW afd Ub SL hb
 go_upto_region 11 with(fail)
 go_wp2_with(refine wlw yL.out.k 0 (aF m xn xq xd) rfl rfl _ _ rfl rfl _ Tryz.underlying41 rfl aB ?_)
 refine(ac1 m hm _ _ _ w13 yL.out.o.lists hs).mono ?_
 rintro e w14 ⟨rfl,hb⟩
 rw[←HT.out]
 have SQ:=hid (And.intro (Qc.out.1.new hb) (Qc.out.2.trans (hb.mono (Nat.le_of_lt Qc.out.1.lt))))
 have aeJ:=hid (afe.out.new hb)
 have IX:=hid (yL.out.new hb)
 have wX:=hid (aI Ba.out hb)
 have afg:=hid (aI aff.out hb)
 have Ue:=hid (Uc.out.new hb)
 clear afe yL Ba aff Uc Qc hb
 clear IX
 go_upto_region 12 with(fail)
 have HSM:=hid (FW C C _ _ _ _ _ _ w14 aeJ.out.o.lists Ue.out.o.lists)
 go_wp2_with(first|(refine wlw aeJ.out.k 0 (aF C (.slice An C.names.length nn) (.slice Aq C.aV.length nq) (.slice Ad C.data.length nd)) rfl rfl _ _ rfl rfl _ Tryz.underlying41 rfl aB ?_)|(refine wlw Ue.out.k 0 (aF C dn dq dd) rfl rfl _ _ rfl rfl _ Tryz.underlying41 rfl aB ?_))
 refine HSM.out.mono ?_
 rintro e w15 ⟨⟨r,rfl,hr⟩,hb⟩
 obtain rfl:r=true:=hr.2 rfl
 have hcf:=jH (Bys.iH (aI wX.out hb))
 have hcg:=jH (Bys.iH (aI afg.out hb))
 have Qg:=hid (And.intro (SQ.out.1.new hb).here (SQ.out.2.trans (hb.mono (Nat.le_of_lt SQ.out.1.lt))))
 clear SQ aeJ Ue wX afg hb hr HSM
 go_upto_region 13 with(fail)
 have hE1:((E.2:Int)==(E.2:Int))=true:=by rw[beq_iff_eq]
 have hE2:((E.1.length:Int)==(E.1.length:Int))=true:=by rw[beq_iff_eq]
 have hT1:(T.toList==T.toList)=true:=by rw[beq_iff_eq]
 go_wp2_with fail
 exact bodyPost_ret (v:= .bool true) (by simp[results,Tryz.results27]) rfl ⟨rfl,Qg.out.1,Qg.out.2⟩
def Mg.ofB(m:Mg):Nat:=64+m.version.size+m.uname.size+m.bF.size+m.bH.size+m.name.size+m.data.length+13*m.aV.length+m.stat.name.size+m.stat.uid.size+m.stat.gid.size+m.stat.fE.size
def aaV(l:List ByteArray):Nat:=(l.map fun s=>2+s.size).sum
def Mg.ofM(m:Mg):Nat:=m.ofB+aaV m.names
theorem abe{l:List ByteArray}{k:Nat}{s:ByteArray}(h:l[k]? =some s):aaV (l.take (k+1))=aaV (l.take k)+2+s.size:=by
 rw[List.take_add_one,h]
 unfold aaV
 simp
 omega
theorem abf{m:Mg}(h:m.ofM≤8388608):m.small:=by
 unfold Mg.ofM Mg.ofB at h
 intro f
 cases f
 case names=>show 2+aaV m.names≤_;omega
 case aV=>show 2+13*m.aV.length≤_;omega
 case data=>show 4+m.data.length≤_;omega
 case stat=>show 2+dY m.stat≤_;unfold dY;omega
 case version=>show 2+m.version.size≤_;omega
 case uname=>show 2+m.uname.size≤_;omega
 case bF=>show 2+m.bF.size≤_;omega
 case bH=>show 2+m.bH.size≤_;omega
 case name=>show 2+m.name.size≤_;omega
 case qid=>show 13≤_;omega
 case offset=>show 8≤_;omega
 case aT=>show 2≤_;omega
 case mode=>show 1≤_;omega
 all_goals(show 4≤_;omega)
def OfR(m:Mg)(w:World)(e:Ending)(w':World):Prop:=(∃n:Nat,e= .returned (.int .i64 (n:Int))∧n≤4503599627370496∧(n≤8388608→m.ofM≤8388608))∧Below w.heap.size w w'
theorem aa3(m:Mg)(vn vq vd:Value)(w w0:World)(hc:Came w0 m vn vq vd)(hl:Lists w w.heap.size m vn vq vd):Calls Tryz.prog 25 #[iM m vn vq vd] w (OfR m w):=by
 have HM:=hid (show aK (w.alloc (.cells (aF m vn vq vd).toArray 41)) w.heap.size m vn vq vd from Blk.new w _ _)
 have hup:Below w.heap.size w (w.alloc (.cells (aF m vn vq vd).toArray 41)):=(Below.refl _ _).alloc (Nat.le_refl _) _
 have HU:=hid hup
 have HL:=hid (hl.n.below hup)
 obtain⟨nA,nc,rfl, -⟩:=hl.n
 obtain⟨qA,qc,rfl, -⟩:=hl.q
 obtain⟨dA,dc,rfl, -⟩:=hl.d
 have HC:=hid hc
 clear hc hl hup
 have s3:=HC.out.s3
 have s5:=HC.out.s5
 have s6:=HC.out.s6
 have s7:=HC.out.s7
 have s18:=HC.out.s18
 have s32:=HC.out.s32
 have s33:=HC.out.s33
 have s34:=HC.out.s34
 have s35:=HC.out.s35
 have sq:=HC.out.ql
 have sd:=HC.out.dl
 have sn:=HC.out.nl
 go_enter Tryz.func25,Tryz.ntmps25
 go_upto_region 1 with(fail)
 change Code.wp _ _ _ _ (w.alloc (.cells (aF m (.slice nA m.names.length nc) (.slice qA m.aV.length qc) (.slice dA m.data.length dc)).toArray 41))
 generalize w.alloc (.cells (aF m (.slice nA m.names.length nc) (.slice qA m.aV.length qc) (.slice dA m.data.length dc)).toArray 41)=w1 at HM HU HL⊢
 generalize hz:w.heap.size=z at HM HU HL⊢
 have HZ:=hid hz
 clear hz
 have k3:w1.cell? ⟨z,3,none⟩=some (.string m.version):=Blk.cell HM.out 3
 have k5:w1.cell? ⟨z,5,none⟩=some (.string m.uname):=Blk.cell HM.out 5
 have k6:w1.cell? ⟨z,6,none⟩=some (.string m.bF):=Blk.cell HM.out 6
 have k7:w1.cell? ⟨z,7,none⟩=some (.string m.bH):=Blk.cell HM.out 7
 have k18:w1.cell? ⟨z,18,none⟩=some (.string m.name):=Blk.cell HM.out 18
 have k32:w1.cell? ⟨z,32,none⟩=some (.string m.stat.name):=Blk.cell HM.out 32
 have k33:w1.cell? ⟨z,33,none⟩=some (.string m.stat.uid):=Blk.cell HM.out 33
 have k34:w1.cell? ⟨z,34,none⟩=some (.string m.stat.gid):=Blk.cell HM.out 34
 have k35:w1.cell? ⟨z,35,none⟩=some (.string m.stat.fE):=Blk.cell HM.out 35
 have k12:w1.cell? ⟨z,12,none⟩=some (.slice qA m.aV.length qc):=Blk.cell HM.out 12
 have k22:w1.cell? ⟨z,22,none⟩=some (.slice dA m.data.length dc):=Blk.cell HM.out 22
 have k11:w1.cell? ⟨z,11,none⟩=some (.slice nA m.names.length nc):=Blk.cell HM.out 11
 have HB:=hid (show m.ofB≤4503599627370496 from by unfold Mg.ofB;omega)
 go_upto_region 4 with(fail)
 go_loopw [3,4] (fun n i wr=>wr=w1∧∃k:Nat,k≤m.names.length∧i= .int .i64 (k:Int)∧n= .int .i64 ((m.ofB+aaV (m.names.take k):Nat):Int)∧m.ofB+aaV (m.names.take k)≤4503599627370496) (fun _ i _=>m.names.length-(intOf i).toNat)
 case atStart=>
  refine⟨rfl,0,by omega,rfl, ?_,by rw[List.take_zero];exact HB.out⟩
  rw[List.take_zero]
  unfold Mg.ofB
  show Value.int _ _=Value.int _ _
  congr 1
  all_goals(simp only[aaV,List.map_nil,List.sum_nil];omega)
 case round=>
  obtain⟨rfl,k,hk,rfl,rfl,hn⟩:=hrel
  have abO:=hid (show m.ofM=m.ofB+aaV m.names from rfl)
  by_cases hlt:k<m.names.length
  ·obtain⟨x,hx⟩:∃x,m.names[k]? =some x:=⟨m.names[k],List.getElem?_eq_getElem _⟩
   have hxs:=HC.out.ns x (List.mem_of_getElem? hx)
   have HT:=hid (abe hx)
   obtain⟨ad,rfl, -,kx⟩:=HL.out.at_ hx
   clear hx
   have HNN:=hid hn
   generalize hT:m.ofB+aaV (m.names.take k)=T at hn⊢
   have HTT:=hid hT
   clear hT
   by_cases hle:T≤8388608
   ·go_wp2_with fail
    go_roundw
    case rel=>
     have h1:=HT.out
     have h2:=HTT.out
     refine⟨by trivial,k+1,by omega,by go_num, ?_,by omega⟩
     rw[h1]
     show Value.int _ _=Value.int _ _
     congr 1
     all_goals omega
    case measure=>simp[intOf];omega
   ·have HLE:=hid hle
    go_wp2_with fail
    refine bodyPost_ret (v:= .int .i64 (T:Int)) (by simp[results,Tryz.results25]) rfl ⟨⟨T,rfl,hn,fun h=>absurd h HLE.out⟩, ?_⟩
    rw[HZ.out]
    exact HU.out
  ·have hkk:k=m.names.length:=by omega
   subst hkk
   rw[List.take_length,←abO.out]at hn⊢
   clear hlt hk
   generalize hT:m.ofM=T at hn⊢
   have HTT:=hid hT
   clear hT
   go_wp2_with fail
   refine bodyPost_ret (v:= .int .i64 (T:Int)) (by simp[results,Tryz.results25]) rfl ⟨⟨T,rfl,hn,fun h=>(by rw[HTT.out];exact h)⟩, ?_⟩
   rw[HZ.out]
   exact HU.out
theorem pF:Ev.ExtOk (Ev.ext2 276 290) Tryz.prog:=
 Ev.ext2_ok (by kernel_rfl) Tryz.func276 (by kernel_rfl) (by kernel_rfl) (by kernel_rfl) Tryz.func290 (by kernel_rfl) (by kernel_rfl) (by kernel_rfl)
theorem pq(w:World):Calls Tryz.prog 12 #[] w fun e w'=>e= .returned (.bool true)∧Below w.heap.size w w':=
 Ev.run_true pF (L:=3000) (k:=60) (by as_aux_lemma=>kernel_rfl) w
theorem adP{m:Mg}(h:m.ok):(turned m).ok:=
 ⟨h.kind,h.tag,h.bI,h.dB,h.fid,h.aU,h.aQ,h.perm,h.count,h.aT,h.mode,h.offset,fun q hq=>by
  obtain⟨p,hp,rfl⟩:=List.mem_map.1 hq
  have h1:=h.aV p hp
  exact⟨h1.1,Nat.mod_lt _ (by decide),h1.2.2⟩,h.qid,h.stat⟩
theorem acD:∀l:List ByteArray,aaV (l.map ab5)=aaV l+l.length∧2*l.length≤aaV l
 | []=>⟨rfl,Nat.le_refl _⟩
 |s::l=>by
  obtain⟨h1,h2⟩:=acD l
  have hs:(ab5 s).size=s.size+1:=by unfold ab5;rw[ByteArray.size_append];rfl
  have e1:aaV ((s::l).map ab5)=2+(ab5 s).size+aaV (l.map ab5):=rfl
  have e2:aaV (s::l)=2+s.size+aaV l:=rfl
  rw[List.length_cons]
  omega
theorem ac5{m:Mg}(h:m.ofM≤8388608):(turned m).small:=by
 have hs:=abf h
 intro f
 cases f
 case names=>
  show 2+aaV (m.names.map ab5)≤_
  have h1:aaV m.names≤8388608:=Nat.le_trans (Nat.le_add_left _ _) h
  obtain⟨h2,h3⟩:=acD m.names
  omega
 case aV=>show 2+13*(m.aV.map acp).length≤_;rw[List.length_map];exact hs .aV
 case data=>show 4+(m.data.map acy).length≤_;rw[List.length_map];exact hs .data
 case stat=>exact hs .stat
 case version=>exact hs .version
 case uname=>exact hs .uname
 case bF=>exact hs .bF
 case bH=>exact hs .bH
 case name=>exact hs .name
 case qid=>exact hs .qid
 case offset=>exact hs .offset
 case aT=>exact hs .aT
 case mode=>exact hs .mode
 case bI=>exact hs .bI
 case dB=>exact hs .dB
 case fid=>exact hs .fid
 case aU=>exact hs .aU
 case aQ=>exact hs .aQ
 case perm=>exact hs .perm
 case count=>exact hs .count
theorem BkV.turn{w0 w w':World}{b i j H x:Nat}(h:BkV w0 w b i j H)(hx:w0.heap.size≤x)(ho:Off (fun k=>x<k∧k<b) w w'):BkV w0 w' b i j H:=by
 obtain⟨h1,h2,Y,N,Q,CY,CN,CQ,⟨vy,vn,vq,k1,k2,k3,k4⟩,f1,f2,f3,hl,hs⟩:=h
 have own:∀ {e:TypeId} {s n:Nat} {v:Value} {xs:List Value},w.ownsRow b e s v n xs→w'.ownsRow b e s v n xs:=fun hr=>ho.own hr fun k hk hS=>by have:=dH hr k hk;omega
 have fam:∀ {e:TypeId} {s:Nat} {vs:List Value} {C:Nat→List Value},Fam w b e s vs C→Fam w' b e s vs C:=fun hf=>⟨fun i v hv=>by obtain⟨n,hr⟩:=hf.own i v hv;exact⟨n,own hr⟩,hf.apart⟩
 exact⟨h1.trans (ho.below (fun k hk=>by have hk:x<k∧k<b:=hk;omega) h1.size),h2,Y,N,Q,CY,CN,CQ,⟨vy,vn,vq,ho.blk k1 (fun hk=>by have hk:x<b∧b<b:=hk;omega),own k2,own k3,own k4⟩,fam f1,fam f2,fam f3,hl,hs⟩
theorem acs.below_{w:World}{x:Nat}{m:Mg}(h:acs w x m)(hx:x<w.heap.size):acz w x m w.heap.size:=by
 obtain⟨gn,nc,gq,qc,gd,dc,h⟩:=h
 exact⟨gn,nc,gq,qc,gd,dc,h,hx,(h.n.lt gn rfl).2,(h.q.lt gq rfl).2,(h.d.lt gd rfl).2⟩
structure acB(w0 w:World)(z x b i j H:Nat)(m m1:Mg)(vn vq vd:Value):Prop where
 lo:w0.heap.size≤z∧z<x
 a:aK w z m vn vq vd
 l:Lists w w0.heap.size m vn vq vd
 x:acz w x m1 b
 k:BkV w0 w b i j H
section
variable {w0 w w':World} {z x b i j H i' j' H':Nat} {m m1 m2:Mg} {vn vq vd:Value}
theorem acB.lt(h:acB w0 w z x b i j H m m1 vn vq vd):x<b:=by
 obtain⟨_,_,_,_,_,_, -,h, -⟩:=h.x
 exact h
theorem acB.arg(h:acB w0 w z x b i j H m m1 vn vq vd):Lists w w.heap.size m vn vq vd:=h.l.more h.k.up.size
theorem acB.ls(h:acB w0 w z x b i j H m m1 vn vq vd)(hw:kN w0):LS w0 w:=⟨h.k.up,hw.next h.k.up⟩
theorem acB.step(h:acB w0 w z x b i j H m m1 vn vq vd)(hb:Below b w w')(hk:BkV w0 w' b i' j' H'):acB w0 w' z x b i' j' H' m m1 vn vq vd:=
 ⟨h.lo,Blk.below h.a hb (Nat.lt_trans h.lo.2 h.lt),h.l.below (hb.mono (by have:=h.lo;have:=h.lt;omega)),h.x.below hb,hk⟩
theorem acB.new(h:acB w0 w z x b i j H m m1 vn vq vd)(hb:Below w.heap.size w w'):acB w0 w' z x b i j H m m1 vn vq vd:=
 h.step (hb.mono (Nat.le_of_lt h.k.lt)) (h.k.new hb)
theorem acB.turn(h:acB w0 w z x b i j H m m1 vn vq vd)(hx:acz w' x m2 b)(ho:Off (fun k=>x<k∧k<b) w w'):acB w0 w' z x b i j H m m2 vn vq vd:=
 ⟨h.lo,ho.blk h.a (fun hk=>by have hk:x<z∧z<b:=hk;have:=h.lo;omega),h.l.below (ho.below (fun k hk=>by have hk:x<k∧k<b:=hk;have:=h.lo;omega) h.k.up.size),hx,h.k.turn (by have:=h.lo;omega) ho⟩
end
theorem OnM.off{w w':World}{q base:Nat}{m:Mg}{vn vq vd:Value}(h:OnM w q base m vn vq vd)(hq:base≤q)(ho:Off (fun k=>k<base) w w'):OnM w' q base m vn vq vd:=by
 have own:∀ {e:TypeId} {s n:Nat} {v:Value} {xs:List Value},w.ownsRow base e s v n xs→w'.ownsRow base e s v n xs:=fun hr=>ho.own hr fun k hk hS=>by have:=dH hr k hk;omega
 exact⟨ho.blk h.k (fun hk=>by have hk:q<base:=hk;omega),own h.o.n,own h.o.q,own h.o.d⟩
theorem acY(m:Mg)(vn vq vd:Value)(w:World)(hw:kN w)(hc:Came w m vn vq vd):Calls Tryz.prog 7 #[iM m vn vq vd] w fun e w'=>e= .returned (.bool true)∧Below w.heap.size w w':=by
 have HM0:=hid (show aK (w.alloc (.cells (aF m vn vq vd).toArray 41)) w.heap.size m vn vq vd from Blk.new w _ _)
 have hup:Below w.heap.size w (w.alloc (.cells (aF m vn vq vd).toArray 41)):=(Below.refl _ _).alloc (Nat.le_refl _) _
 have HS0:=hid ((LS.start hw).next hup)
 have HL0:=hid (hc.l.below hup)
 have HW:=hid hw
 have HC:=hid hc
 clear hc hup hw
 go_enter Tryz.func7,Tryz.ntmps7
 go_upto_region 1 with(fail)
 change Code.wp _ _ _ _ (w.alloc (.cells (aF m vn vq vd).toArray 41))
 generalize w.alloc (.cells (aF m vn vq vd).toArray 41)=w0 at HM0 HS0 HL0⊢
 generalize hz:w.heap.size=z at HM0⊢
 have HZ:=hid hz
 clear hz
 go_wp2_with fail
 refine(pq w0).mono ?_
 rintro e w1 ⟨rfl,hb⟩
 have HM1:=hid (Blk.below HM0.out hb (Blk.lt HM0.out));have HL1:=hid (HL0.out.below (hb.mono HS0.out.up.size));have HS1:=hid (HS0.out.next hb);clear HM0 HL0 HS0
 clear hb
 go_wp2_with(refine wlw HM1.out 0 (aF m vn vq vd) rfl rfl _ _ rfl rfl _ Tryz.underlying41 rfl aB ?_)
 refine(aa3 m vn vq vd w1 w HC.out (HL1.out.more HS1.out.up.size)).mono ?_
 rintro e w2 ⟨⟨n,rfl,hn,hsm⟩,hb⟩
 have HM2:=hid (Blk.below HM1.out hb (Blk.lt HM1.out));have HL2:=hid (HL1.out.below (hb.mono HS1.out.up.size));have HS2:=hid (HS1.out.next hb);clear HM1 HL1 HS1
 clear hb
 by_cases hbig:8388608<n
 ·clear hsm
  go_wp2_with fail
  refine bodyPost_ret (v:= .bool true) (by simp[results,Tryz.results7]) rfl ⟨rfl, ?_⟩
  exact HS2.out.up
 ·have HOF:=hid (hsm (by omega))
  have HSM:=hid (abf HOF.out)
  have HTS:=hid (ac5 HOF.out)
  have HOK:=hid HC.out.ok
  have HTO:=hid (adP HOK.out)
  clear hsm HOF HC
  go_wp2_with(refine wlw HM2.out 0 (aF m vn vq vd) rfl rfl _ _ rfl rfl _ Tryz.underlying41 rfl aB ?_)
  refine(adz m vn vq vd w2 (HL2.out.more HS2.out.up.size) HSM.out).mono ?_
  rintro e w3 ⟨x,rfl,hx,hb,hlw⟩
  have hxl:x<w3.heap.size:=by
   obtain⟨_,_,_,_,_,_,hh⟩:=hlw
   exact Blk.lt hh.k
  have HXB:=hid (hlw.below_ hxl)
  have HLT:=hid (show w.heap.size≤z∧z<x from⟨Nat.le_of_eq HZ.out,Nat.lt_of_lt_of_le (Blk.lt HM2.out) hx⟩)
  have HM3:=hid (Blk.below HM2.out hb (Blk.lt HM2.out))
  have HL3:=hid (HL2.out.below (hb.mono HS2.out.up.size))
  have HU3:=hid (HS2.out.up.trans (hb.mono HS2.out.up.size))
  clear hx hb hlw hxl HM2 HL2 HS2
  go_upto_region 6 with(fail)
  have hup:Below w3.heap.size w3 (w3.alloc (.cells #[.slice none 0 0,.slice none 0 0,.slice none 0 0] 29)):=(Below.refl _ _).alloc (Nat.le_refl _) _
  have HE4:=hid (show acB w (w3.alloc (.cells #[.slice none 0 0,.slice none 0 0,.slice none 0 0] 29)) z x w3.heap.size 0 0 0 m m vn vq vd from⟨HLT.out,Blk.below HM3.out hup (Blk.lt HM3.out),HL3.out.below (hup.mono HU3.out.size),HXB.out.below hup,BkV.start HU3.out⟩)
  clear hup HM3 HL3 HXB HLT HZ HU3
  generalize w3.alloc (.cells #[.slice none 0 0,.slice none 0 0,.slice none 0 0] 29)=w4 at HE4⊢
  generalize w3.heap.size=b at HE4⊢
  go_wp2_with fail
  refine(acw (HE4.out.ls HW.out) HE4.out.x HE4.out.k HOK.out HSM.out (by decide) (by decide)).mono ?_
  rintro e w5 ⟨rfl,hk,hb⟩
  have HE5:=hid (HE4.out.step hb hk)
  clear hk hb HE4
  go_upto_region 7 with(fail)
  go_wp2_with fail
  refine(acw (HE5.out.ls HW.out) HE5.out.x HE5.out.k HOK.out HSM.out (by decide) (by decide)).mono ?_
  rintro e w6 ⟨rfl,hk,hb⟩
  have HE6:=hid (HE5.out.step hb hk)
  clear hk hb HE5
  go_upto_region 8 with(fail)
  go_wp2_with(refine wlw HE6.out.a 0 (aF m vn vq vd) rfl rfl _ _ rfl rfl _ Tryz.underlying41 rfl aB ?_)
  refine(acF m m x vn vq vd w6 HE6.out.x.w HE6.out.arg HSM.out).mono ?_
  rintro e w7 ⟨⟨r,rfl,hr⟩,hb⟩
  obtain rfl:r=true:=hr.2 rfl
  have HE7:=hid (HE6.out.new hb)
  clear hr hb HE6
  go_upto_region 9 with(fail)
  go_wp2_with fail
  refine(adh m x b w7 HE7.out.x HSM.out HOK.out).mono ?_
  rintro e w8 ⟨rfl,hxl,ho⟩
  have HE8:=hid (HE7.out.turn hxl ho)
  clear hxl ho HE7
  go_upto_region 10 with(fail)
  go_wp2_with fail
  refine(acw (HE8.out.ls HW.out) HE8.out.x HE8.out.k HTO.out HTS.out (by decide) (by decide)).mono ?_
  rintro e w9 ⟨rfl,hk,hb⟩
  have HE9:=hid (HE8.out.step hb hk)
  clear hk hb HE8
  go_upto_region 11 with(fail)
  obtain⟨gn,nc,gq,qc,gd,dc,hlb, -⟩:=HE9.out.x
  have HLB:=hid hlb.k
  have HLL:=hid (acs.lists hlb)
  clear hlb
  generalize hT:turned m=T at HE9 HLB HLL HTS HTO
  clear hT
  go_wp2_with(refine wlw HLB.out 0 (aF T (.slice (some ⟨gn,0,none⟩) T.names.length nc) (.slice (some ⟨gq,0,none⟩) T.aV.length qc) (.slice (some ⟨gd,0,none⟩) T.data.length dc)) rfl rfl _ _ rfl rfl _ Tryz.underlying41 rfl aB ?_)
  refine(acZ T _ _ _ w9 HLL.out HTS.out).mono ?_
  rintro e w10 ⟨⟨xn,xq,xd,rfl,hol⟩,hb⟩
  have adk:=hid hol
  have LU:=hid (HE9.out.new hb)
  have HQ:=hid hb.size
  clear hol hb HLB HLL HE9
  go_upto_region 12 with(change wpList _ _ _ _ _ (w10.alloc (.cells (mgN (head 0 0)).toArray 41));have hup:Below w10.heap.size w10 (w10.alloc (.cells (mgN (head 0 0)).toArray 41)):=(Below.refl _ _).alloc (Nat.le_refl _) _;have HMZ:=hid (show aK (w10.alloc (.cells (mgN (head 0 0)).toArray 41)) w10.heap.size (head 0 0) (.slice none 0 0) (.slice none 0 0) (.slice none 0 0)from Blk.new w10 _ _);generalize(w10.alloc (.cells (mgN (head 0 0)).toArray 41))=afv at hup HMZ⊢;refine dA HMZ.out 0 (aF T xn xq xd) _ (bW ..) (Nat.le_refl 36) (bT _ (bG adk.out.n) (bG adk.out.q) (bG adk.out.d)) rfl _ _ _ rfl rfl rfl aB ?_;intro w11 hs ho;have aby:=hid (show aK w11 w10.heap.size T xn xq xd from hs);have Qa:=hid (hup.trans ((ho (fun i=>i=w10.heap.size) rfl afv (Off.refl _ _)).below (fun k hk=>(by have hk:k=w10.heap.size:=hk;omega)) hup.size));clear hs ho hup HMZ)
  have A_:=hid (show OnM w11 w10.heap.size w9.heap.size T xn xq xd from⟨aby.out,adk.out.below Qa.out⟩)
  have OC:=hid (LU.out.new Qa.out)
  clear aby adk LU Qa
  generalize w10.heap.size=q at A_ HQ⊢
  generalize w9.heap.size=H9 at A_ OC HQ
  go_wp2_with fail
  refine(aec OC.out.k (by decide) (by decide)).mono ?_
  rintro e w12 ⟨rfl,hb,ho⟩
  have wV:=hid (A_.out.off HQ.out ho)
  have OY:=hid (OC.out.x.below hb)
  have aeK:=hid (OC.out.k.up.trans (hb.mono OC.out.k.bb))
  clear hb ho OC A_
  go_upto_region 13 with(fail)
  go_wp2_with(refine wlw wV.out.k 0 (aF T xn xq xd) rfl rfl _ _ rfl rfl _ Tryz.underlying41 rfl aB ?_)
  refine(acF T T x xn xq xd w12 OY.out.w wV.out.o.lists HTS.out).mono ?_
  rintro e w13 ⟨⟨r,rfl,hr⟩,hb⟩
  obtain rfl:r=true:=hr.2 rfl
  have afw:=hid (aeK.out.trans (hb.mono aeK.out.size))
  clear hr hb wV OY aeK HQ
  go_upto_region 14 with(fail)
  go_wp2_with fail
  exact bodyPost_ret (v:= .bool true) (by simp[results,Tryz.results7]) rfl ⟨rfl,afw.out⟩
end Go.Proofs.YtkblmloobkiloaaGreatDoor
