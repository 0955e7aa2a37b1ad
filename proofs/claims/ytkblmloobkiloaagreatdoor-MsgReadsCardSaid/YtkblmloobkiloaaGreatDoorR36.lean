/-
  MLD: what the laws of package msg need of them.
-/
import Derived.Test.YtkblmloobkiloaaGreatDoorR00
import Derived.Test.YtkblmloobkiloaaGreatDoorR35
namespace Go.Proofs.YtkblmloobkiloaaGreatDoor
open Go.Lib (hid)
open Go.RowKit
theorem yj{w:World}{base n c:Nat}{B:Option Addr}{y z:List UInt8}(h:w.ownsRow base 5 1 (.slice B (n+8) c) (n+8) (aX (y++z)))(hy:y.length=n):Reads w w.heap.size 1 B y.length (aX y):=by
 refine⟨by rw[jQ,Nat.mul_one],fun hp=> ?_⟩
 obtain⟨ad,e,hb,hc⟩:=(Reads.iH h).2 (by omega)
 refine⟨ad,e,hb,fun j u hu=>hc j u ?_⟩
 rw[gy,List.getElem?_append_left (List.getElem?_eq_some_iff.1 hu).1]
 exact hu
theorem pU{w:World}{base n c:Nat}{B:Option Addr}{y z:List UInt8}(h:w.ownsRow base 5 1 (.slice B (n+8) c) (n+8) (aX (y++z)))(hy:y.length=n):Bys w w.heap.size (.slice B n c) y:=by
 have hr:=yj h hy
 obtain⟨A',c',e,h1,h2⟩:=aJ h
 injection e with e1 e2 e3
 subst hy
 exact⟨B,c,rfl,by omega,by omega,hr⟩
theorem Pg{w:World}{base n m c s:Nat}{e:TypeId}{A:Option Addr}{xs:List Value}(h:w.ownsRow base e s (.slice A n c) m xs):m=n∧n≤c:=by
 have hm:=Uy h
 subst hm
 obtain⟨A',c',e,h1, -⟩:=aJ h
 injection e with e1 e2 e3
 exact⟨rfl,by omega⟩
theorem JM{w:World}{base n c:Nat}{B:Option Addr}{y:List UInt8}(h:w.ownsRow base 5 1 (.slice B (n+8) c) (n+8) (aX (y++List.replicate 8 (238:UInt8))))(hy:y.length=n):(convert 22 9 (.slice (B.map (fun a=>a.add n)) 8 (c-n))).run Tryz.prog w= .ok (.string ⟨#[238,238,238,238,238,238,238,238]⟩) w:=by
 have hb:=Bys.iH h
 have hcap:=Pg h
 have hl:(y++List.replicate 8 (238:UInt8)).length=n+8:=by rw[List.length_append,List.length_replicate,hy]
 rw[←hl]at hb
 have h2:=jH (Bys.sub n 8 c hb (by rw[hl];omega) (by omega) (Nat.le_refl _))
 unfold AY at h2
 rw[if_neg (by omega)]at h2
 have he:ofL (List.replicate 8 (238:UInt8))=(⟨#[238,238,238,238,238,238,238,238]⟩:ByteArray):=by kernel_rfl
 rw[List.drop_left' hy,List.take_of_length_le (Nat.le_of_eq List.length_replicate),he]at h2
 exact h2
theorem Ns{w w':World}{base n m c s b:Nat}{e:TypeId}{A:Option Addr}{xs:List Value}(h:w.ownsRow base e s (.slice A n c) m xs)(hl:∀g,(Value.slice A n c).ownBlock=some g→g<b)(hb:Below b w w'):w'.ownsRow base e s (.slice A n c) m xs:=by
 refine⟨h.1, ?_⟩
 rcases h.2 with h0|⟨g,cap,cur,e,hbs,hg,r⟩
 ·exact .inl h0
 ·exact .inr ⟨g,cap,cur,e,hbs,(hb.block g (hl g (by rw[e];rfl))).trans hg,r⟩
theorem Nu{w:World}{base n c i s:Nat}{e:TypeId}{A:Option Addr}{xs:List Value}{v:Value}(h:w.ownsRow base e s (.slice A n c) n xs)(hv:xs[i]? =some v):∃ad,A=some ad∧base≤ad.block∧w.cell? (ad.add i)=some v∧w.frozen? (ad.add i)=false∧(∃cur fr,w.heap[ad.block]? =some (Obj.cells cur e fr))∧∀x,(w.setCell (ad.add i) x).ownsRow base e s (.slice A n c) n (xs.set i x):=by
 obtain⟨g,cap,cur,hvv,hb,hg, -, -, -,ht⟩:=ql h (by have:=(List.getElem?_eq_some_iff.1 hv).1;omega)
 have ha:(⟨g,0,none⟩:Addr).add i=⟨g,i,none⟩:=by rw[Addr.add_mid,Nat.zero_add]
 have hcell:=h.cells (g:=g) (by rw[hvv];rfl) i v hv
 have WR:=hvv
 injection hvv with e1 e2 e3
 subst e1
 exact⟨⟨g,0,none⟩,rfl,hb,hcell,by rw[ha];exact Blk.frozen hg i,⟨cur,_,hg⟩,fun x=>by rw[ha];exact H_ h WR hg⟩
theorem BkW.cell{w0 w:World}{b j:Nat}{ad:Addr}(h:BkW w0 w b j)(hg:∃cur fr,w.heap[ad.block]? =some (Obj.cells cur 5 fr))(hlt:ad.block<b)(hge:w0.heap.size≤ad.block)(k:Nat)(x:Value):BkW w0 (w.setCell (ad.add k) x) b j:=by
 have ho:Off (fun i=>i=ad.block) w (w.setCell (ad.add k) x):=(Off.refl (fun i=>i=ad.block) w).setCell (p:=ad.add k) (qg ad k) x
 obtain⟨h1,h2,Y,N,Q,CY,CN,CQ,⟨vy,vn,vq,k1,k2,k3,k4⟩,f1,f2,f3,hl,hs⟩:=h
 have hn:∀ {e:TypeId},e≠5→∀i cur fr,i=ad.block→w.heap[i]? ≠some (Obj.cells cur e fr):=fun he i cur fr hi=>by subst hi;exact noE hg he cur fr
 refine⟨h1.trans (ho.below (fun i hi=>by have hi:i=ad.block:=hi;omega) h1.size),h2,Y,N,Q,CY,CN,CQ,⟨vy,vn,vq,ho.blk k1 (fun e=>by have e:b=ad.block:=e;omega),dL ho k2 (hn (by decide)),dL ho k3 (hn (by decide)),dL ho k4 (hn (by decide))⟩,⟨fun i v hv=> ?_,f1.apart⟩,f2.BM ho hg (by decide),f3.BM ho hg (by decide),hl,hs⟩
 obtain⟨n,hr⟩:=f1.own i v hv
 refine⟨n,ho.own hr (fun g hg hi=> ?_)⟩
 have hi:g=ad.block:=hi
 have:=dH hr g hg
 omega
set_option maxRecDepth 100000 in
set_option maxHeartbeats 6400000 in
theorem BO(hv:Value)(x:List UInt8)(at_:Int)(hat: -9223372036854775808≤at_∧at_≤9223372036854775807)(to_:UInt8)(w:World)(hw:kN w)(hx:Bys w w.heap.size hv x):Calls Tryz.prog 3 #[hv,.int .i64 at_,.int .u8 (to_.toNat:Int)] w fun e w'=>e= .returned (.bool true)∧Below w.heap.size w w':=by
 have HX:=hid hx
 have HS0:=hid (LS.start hw)
 have HAT:=hid hat
 obtain⟨A,cap,rfl,hxc,hxm, -⟩:=hx
 have hxl:x.length≤9223372036854775807:=by unfold maxLen at hxm;omega
 clear hw hxc hxm hat
 go_enter Tryz.func3,Tryz.ntmps3
 go_wp2_with fail
 refine(DX w HS0.out.wd.se HS0.out.wd.rd HS0.out.wd.tp).mono ?_
 rintro e w1 ⟨rfl,hb⟩
 have HS1:=hid (HS0.out.next hb)
 clear hb
 by_cases hbig:8388608<x.length
 ·go_wp2_with fail
  refine bodyPost_ret (v:= .bool true) (by simp[results,Tryz.results3]) rfl ⟨rfl, ?_⟩
  exact HS1.out.up
 ·have Em:=hid (Nat.not_lt.1 hbig)
  have HX1:=hid (HS1.out.bys HX.out)
  have hx1:=HX1.out
  obtain⟨A',c',hv', -, -,hrd⟩:=hx1
  injection hv' with e1 e2 e3
  subst e1 e3
  have HRD:=hid hrd
  have HLN:=hid (show([]:List UInt8).length+x.length≤140737488355327 from by rw[List.length_nil];omega)
  clear hrd e2
  go_upto_region 6 with(at_builtin;refine kY (.tmp 26) (.tmp 27) rfl rfl w1.heap.size _ [] rfl (dS _ _ _ _) w1.heap.size _ _ x rfl HRD.out HLN.out (Nat.le_refl _) ?_;intro v2 w2 hown hgr hor;rw[List.nil_append]at hown;obtain⟨A2,c2,rfl, -⟩:=aJ hown;have HO2:=hid hown;have HB2:=hid (show Below w1.heap.size w1 w2 from(Below.refl _ _).grown hgr (Nat.le_refl _) (fun k hk=>by cases hk));clear hown hgr hor)
  go_upto_region 7 with(fail)
  go_loopw [8,9] (fun v i wr=>∃(k:Nat) (B:Option Addr) (c:Nat),k≤8∧i= .int .i64 (k:Int)∧v= .slice B (x.length+k) c∧wr.ownsRow w1.heap.size 5 1 (.slice B (x.length+k) c) (x.length+k) (aX (x++List.replicate k 238))∧Below w1.heap.size w1 wr) (fun _ i _=>8-(intOf i).toNat)
  case atStart=>exact⟨0,A2,c2,Nat.zero_le _,rfl,rfl,by rw[List.replicate_zero,List.append_nil];exact HO2.out,HB2.out⟩
  case round=>
   obtain⟨k,B,c,hk,rfl,rfl,hown,hb⟩:=hrel
   have HO3:=hid hown
   have HB3:=hid hb
   clear HO2 HB2
   by_cases hk8:k<8
   ·have hup:Below wr.heap.size wr (wr.alloc (.cells #[.int .u8 238] 5)):=(Below.refl _ _).alloc (Nat.le_refl _) _
    have HO4:=hid (aI hown hup)
    have HBK:=hid (Blk.new wr 5 [Value.int .u8 238].toArray)
    have HB4:=hid (hb.trans (hup.mono hb.size))
    have HSZ:=hid (show w1.heap.size≤(wr.alloc (.cells #[.int .u8 238] 5)).heap.size from Nat.le_trans hb.size hup.size)
    have HLK:=hid (show x.length+k≤20000000 from by have:=Em.out;omega)
    clear hown hb hup
    go_wp2_with(at_builtin;refine yg 22 5 (.int .u8 0) 1 1 (by decide) (by decide) rfl Tryz.underlying22 mF (.tmp 33) (.tmp 34) rfl rfl w1.heap.size _ (x.length+k) _ rfl HO4.out wr.heap.size 1 [.int .u8 238] rfl HBK.out rfl Ia HLK.out HSZ.out ?_;intro v4 w4 hown hgr hc;obtain⟨A4,c4,rfl, -⟩:=aJ hown;have HOX:=hid hown;have HBX:=hid (show Below w1.heap.size w1 w4 from HB4.out.grown hgr HSZ.out (fun g hg=>dH HO4.out g hg));clear hown hgr hc)
    go_roundw
    case rel=>
     refine⟨k+1,A4,c4,hk8,by go_num,rfl, ?_,HBX.out⟩
     have h:=HOX.out
     rw[show aX (x++List.replicate k 238)++[Value.int .u8 238]=aX (x++List.replicate (k+1) 238)from by rw[List.replicate_succ',←List.append_assoc,gy (x++List.replicate k 238)];rfl]at h
     exact h
    case measure=>first|exact jv hk8 (IntWalk.wrap64_in _ (by omega))|exact jw hk8
   ·have hk9:k=8:=by omega
    subst hk9
    clear hown hb hk8 hk
    have hcl:x.length≤c:=by
     obtain⟨A',c',e,h, -⟩:=aJ HO3.out
     injection e with e1 e2 e3
     omega
    go_upto_region 11 with(fail)
    have HF0:=hid (aI HO3.out ((Below.refl wr.heap.size wr).alloc (Nat.le_refl _) (.cells #[.slice none 0 0,.slice none 0 0,.slice none 0 0] 29)))
    have HK0:=hid (BkW.start (w0:=w) (w:=wr) (HS1.out.up.trans (HB3.out.mono HS1.out.up.size)))
    have HSW:=hid HS1.out.up.size
    have HFB:=hid (show∀g,(Value.slice B (x.length+8) c).ownBlock=some g→g<wr.heap.size from fun g hg=>(HO3.out.lt g hg).2)
    have HW:=hid HS0.out.wd
    have HCL:=hid hcl
    clear HO3 HB3 HS1 HX1 HRD HLN HX hcl
    go_upto_region 13 with(fail)
    generalize wr.alloc (.cells #[.slice none 0 0,.slice none 0 0,.slice none 0 0] 29)=wb at HF0 HK0⊢
    generalize wr.heap.size=b at HK0 HFB⊢
    go_loopw [12] (fun i wr=>∃(j:Nat) (y:List UInt8),j≤3∧i= .int .i64 (j:Int)∧y.length=x.length∧BkW w wr b j∧wr.ownsRow w1.heap.size 5 1 (.slice B (x.length+8) c) (x.length+8) (aX (y++List.replicate 8 (238:UInt8)))) (fun i _=>3-(intOf i).toNat)
    case atStart=>exact⟨0,x,Nat.zero_le _,rfl,rfl,HK0.out,HF0.out⟩
    case round=>
     obtain⟨j,y,hj,rfl,hyl,hbk,hfu⟩:=hrel
     have HK:=hid hbk
     have HF:=hid hfu
     have HYL:=hid hyl
     have hcl:=HCL.out
     clear HK0 HF0 hbk hfu
     by_cases hj3:j<3
     ·have HRD:=hid (yj HF.out hyl)
      have HLN:=hid (show([]:List UInt8).length+y.length≤140737488355327 from by have:=Em.out;rw[List.length_nil];omega)
      clear hyl
      go_upto_region 17 with(at_builtin;refine kY (.tmp 46) (.tmp 47) rfl rfl wr.heap.size _ [] rfl (dS _ _ _ _) wr.heap.size _ _ y (by rw[HYL.out];rfl) HRD.out HLN.out (Nat.le_refl _) ?_;intro v3 w3 hown hgr hor;rw[List.nil_append]at hown;obtain⟨A3,c3,rfl, -⟩:=aJ hown;have hb3:Below wr.heap.size wr w3:=(Below.refl _ _).grown hgr (Nat.le_refl _) (fun k hk=>by cases hk);have HO3:=hid hown;have HK3:=hid (HK.out.new hb3);have HF3:=hid (aI HF.out hb3);clear hown hgr hor hb3)
      clear HK HF HRD
      obtain⟨D,hD⟩:∃D,D=dec y:=⟨_,rfl⟩
      have HDS:=hid (show D.1.names.length≤16777216∧D.1.aV.length≤16777216∧D.1.data.length≤16777216 from by rw[hD];exact JL y)
      have HYZ:=hid (show y.length≤16777216 from by have h1:=HYL.out;have h2:=Em.out;omega)
      have HDC:=hid (rV _ y w3 (pU HF3.out HYL.out) (HW.out.next HK3.out.up).rd HYZ.out)
      rw[←hD]at HDC
      have HDE:=hid hD
      clear hD
      go_wp2_with fail
      refine HDC.out.mono ?_
      rintro e w4 ⟨⟨vn,vq,vd,rfl,hol⟩,hb⟩
      obtain⟨An,cn,rfl, -⟩:=aJ hol.n
      obtain⟨Aq,cq,rfl, -⟩:=aJ hol.q
      obtain⟨Ad,cd,rfl, -⟩:=aJ hol.d
      have HOL:=hid hol
      have HB4:=hid hb
      have HK4:=hid (HK3.out.new hb)
      have HF4:=hid (aI HF3.out hb)
      have HO4:=hid (aI HO3.out hb)
      clear hol hb HO3 HF3 HDC
      go_upto_region 18 with(change wpList _ _ _ _ _ (w4.alloc (.cells (mgN (head 0 0)).toArray 41));have hup:Below w4.heap.size w4 (w4.alloc (.cells (mgN (head 0 0)).toArray 41)):=(Below.refl _ _).alloc (Nat.le_refl _) _;have HMZ:=hid (show aK (w4.alloc (.cells (mgN (head 0 0)).toArray 41)) w4.heap.size (head 0 0) (.slice none 0 0) (.slice none 0 0) (.slice none 0 0)from Blk.new w4 _ _);generalize(w4.alloc (.cells (mgN (head 0 0)).toArray 41))=w4z at hup HMZ⊢;refine dA HMZ.out 0 (aF D.1 (.slice An D.1.names.length cn) (.slice Aq D.1.aV.length cq) (.slice Ad D.1.data.length cd)) _ (bW ..) (Nat.le_refl 36) (bT _ (bG HOL.out.n) (bG HOL.out.q) (bG HOL.out.d)) rfl _ _ _ rfl rfl rfl aB ?_;intro w5 hs ho;have HM5:=hid (show aK w5 w4.heap.size D.1 (.slice An D.1.names.length cn) (.slice Aq D.1.aV.length cq) (.slice Ad D.1.data.length cd)from hs);have HB5:=hid (hup.trans ((ho (fun i=>i=w4.heap.size) rfl w4z (Off.refl _ _)).below (fun k hk=>(by have hk:k=w4.heap.size:=hk;omega)) hup.size));clear hs ho hup HMZ)
      have UA:=hid (HOL.out.below HB5.out)
      have HK5:=hid (HK4.out.new HB5.out)
      have HF5:=hid (aI HF4.out HB5.out)
      have HO5:=hid (aI HO4.out HB5.out)
      have Ry:=hid (HB4.out.trans (HB5.out.mono HB4.out.size))
      generalize w4.heap.size=q5 at HM5⊢
      clear HB5 HK4 HF4 HO4 HB4
      have HDC:=hid (Gh _ y w5 (Bys.iH HO5.out) HYZ.out)
      rw[←HDE.out]at HDC
      go_wp2_with fail
      refine HDC.out.mono ?_
      rintro e w6 ⟨⟨un,uq,ud,rfl,hol⟩,hb⟩
      have qZ:=hid hol
      have HM6:=hid (Blk.below HM5.out hb (Blk.lt HM5.out))
      have UC:=hid (UA.out.below hb)
      have HK6:=hid (HK5.out.new hb)
      have HF6:=hid (aI HF5.out hb)
      have HO6:=hid (aI HO5.out hb)
      have Rz:=hid (Ry.out.trans (hb.mono Ry.out.size))
      clear hol hb HM5 UA HK5 HF5 HO5 Ry HDC HOL
      go_upto_region 19 with(change wpList _ _ _ _ _ (w6.alloc (.cells (mgN (head 0 0)).toArray 41));have hup:Below w6.heap.size w6 (w6.alloc (.cells (mgN (head 0 0)).toArray 41)):=(Below.refl _ _).alloc (Nat.le_refl _) _;have HMZ:=hid (show aK (w6.alloc (.cells (mgN (head 0 0)).toArray 41)) w6.heap.size (head 0 0) (.slice none 0 0) (.slice none 0 0) (.slice none 0 0)from Blk.new w6 _ _);generalize(w6.alloc (.cells (mgN (head 0 0)).toArray 41))=w6z at hup HMZ⊢;refine dA HMZ.out 0 (aF D.1 un uq ud) _ (bW ..) (Nat.le_refl 36) (bT _ (bG qZ.out.n) (bG qZ.out.q) (bG qZ.out.d)) rfl _ _ _ rfl rfl rfl aB ?_;intro w7 hs ho;have HM7:=hid (show aK w7 w6.heap.size D.1 un uq ud from hs);have HB7:=hid (hup.trans ((ho (fun i=>i=w6.heap.size) rfl w6z (Off.refl _ _)).below (fun k hk=>(by have hk:k=w6.heap.size:=hk;omega)) hup.size));clear hs ho hup HMZ)
      have HMa:=hid (Blk.below HM6.out HB7.out (Blk.lt HM6.out))
      have RF:=hid (UC.out.below HB7.out)
      have UD:=hid (qZ.out.below HB7.out)
      have HK7:=hid (HK6.out.new HB7.out)
      have HF7:=hid (aI HF6.out HB7.out)
      have HO7:=hid (aI HO6.out HB7.out)
      have RG:=hid (Rz.out.trans (HB7.out.mono Rz.out.size))
      generalize w6.heap.size=q7 at HM7⊢
      clear HM6 UC HK6 HF6 HO6 Rz HB7 qZ
      have HSM:=hid (FW D.1 D.1 _ _ _ _ _ _ w7 RF.out.lists UD.out.lists)
      go_wp2_with(first|(refine wlw HMa.out 0 (aF D.1 (.slice An D.1.names.length cn) (.slice Aq D.1.aV.length cq) (.slice Ad D.1.data.length cd)) rfl rfl _ _ rfl rfl _ Tryz.underlying41 rfl aB ?_)|(refine wlw HM7.out 0 (aF D.1 un uq ud) rfl rfl _ _ rfl rfl _ Tryz.underlying41 rfl aB ?_))
      refine HSM.out.mono ?_
      rintro e w8 ⟨⟨r,rfl,hr⟩,hb⟩
      obtain rfl:r=true:=hr.2 rfl
      have HM8:=hid (Blk.below HMa.out hb (Blk.lt HMa.out))
      have FZ:=hid (RF.out.below hb)
      have HK8:=hid (HK7.out.new hb)
      have HF8:=hid (aI HF7.out hb)
      have HO8:=hid (aI HO7.out hb)
      have UE:=hid (RG.out.trans (hb.mono RG.out.size))
      clear hr hb HMa RF UD HK7 HF7 HO7 RG HSM HM7
      have hcv1:=jH (Bys.iH HO8.out)
      have hcv2:=jH (pU HF8.out HYL.out)
      have UF:=JM HF8.out HYL.out
      have XQ:x.length≤c:=HCL.out
      have XR:¬c=x.length:=by
       obtain⟨A',c',e,h1, -⟩:=aJ HF8.out
       injection e with e1 e2 e3
       omega
      go_upto_region 20 with(fail)
      go_upto_region 22 with(fail)
      clear hcv1 hcv2 UF
      go_wp2_with(refine wlw HM8.out 0 (aF D.1 (.slice An D.1.names.length cn) (.slice Aq D.1.aV.length cq) (.slice Ad D.1.data.length cd)) rfl rfl _ _ rfl rfl _ Tryz.underlying41 rfl aB ?_)
      refine(Nr HK3.out (by omega) HK8.out UE.out FZ.out HDS.out).mono ?_
      rintro e w9 ⟨rfl,hbk,hkr⟩
      have HK9:=hid hbk
      have HF9:=hid (hkr.r _ _ _ _ _ _ (.inl rfl) HF8.out)
      clear hbk hkr HM8 FZ HK8 HF8 HO8 UE
      by_cases hA:j=1∧0<x.length
      ·obtain⟨hj1,hpos⟩:=hA
       have hpi:(0:Int)<(x.length:Int):=by omega
       have hjb:((j:Int)==1)=true:=by rw[hj1];rfl
       have HJ1:=hid hj1
       clear hj1
       have yu:=hid hpos
       go_wp2_with fail
       refine(Gm at_ HAT.out x.length yu.out Em.out w9).mono ?_
       rintro e w' ⟨⟨k,hk,rfl⟩,rfl⟩
       have HKX:=hid hk
       obtain⟨v0,hv0⟩:∃v0,(aX (y++List.replicate 8 (238:UInt8)))[k]? =some v0:=⟨_,List.getElem?_eq_getElem (by rw[jQ,List.length_append];have:=HYL.out;omega)⟩
       obtain⟨ad,hB,hbs,kc,kf,hg,hset⟩:=Nu HF9.out hv0
       subst hB
       have HNF:=hid (hset (.int .u8 (to_.toNat:Int)))
       have HNK:=hid (HK9.out.cell hg (HFB.out _ rfl) (Nat.le_trans HSW.out hbs) k (.int .u8 (to_.toNat:Int)))
       clear hv0 hbs hg hset HF9 HK9
       go_wp2_with fail
       clear kc kf
       generalize w9.setCell (ad.add k) (.int .u8 (to_.toNat:Int))=wz at HNF HNK⊢
       refine⟨?_, ?measure⟩
       refine⟨_,_,_,_,_,_,_,_,_,_,_,_,_,_,_,_,_,_,_,_,_,_,_,_,_,_,_,_,_,_,_,_,_,_,_,_,_,_,_,_,_,_,_,_,_,_,_,_,_,_,_,_,_,_,_,_,_,_,_,_,_,_,_,_,_,_,_, ?rel,rfl⟩
       case rel=>
        refine⟨j+1,y.set k to_,hj3,by go_num,by rw[List.length_set];exact HYL.out,HNK.out, ?_⟩
        have h:=HNF.out
        rw[show(aX (y++List.replicate 8 (238:UInt8))).set k (.int .u8 (to_.toNat:Int))=aX (y.set k to_++List.replicate 8 (238:UInt8))from by rw[gy,List.set_append_left _ _ (by rw[jQ];have h1:=HKX.out;have h2:=HYL.out;omega),gy,show aX (y.set k to_)=(aX y).set k (.int .u8 (to_.toNat:Int))from List.map_set ..]]at h
        exact h
       case measure=>first|exact jv hj3 (IntWalk.wrap64_in _ (by omega))|exact jw hj3
      ·have HNN:=hid hA
       clear hA
       go_upto_region 23 with(fail)
       go_cut [93] (fun v wx=>v= .bool false∧wx=w9)
       case first=>
        by_cases hj1:j=1
        ·have hjb:((j:Int)==1)=true:=by rw[hj1];rfl
         have HX0:=hid (show¬0<x.length from fun h=>HNN.out ⟨hj1,h⟩)
         clear hj1
         go_wp2_with fail
         go_meet
         case rel=>exact⟨by rw[decide_eq_false HX0.out],rfl⟩
        ·have hjb:((j:Int)==1)=false:=by rw[beq_eq_false_iff_ne];omega
         go_wp2_with fail
         go_meet
         case rel=>trivial
       obtain⟨rfl,rfl⟩:=hcut
       go_wp2_with fail
       refine⟨?_, ?measure⟩
       refine⟨_,_,_,_,_,_,_,_,_,_,_,_,_,_,_,_,_,_,_,_,_,_,_,_,_,_,_,_,_,_,_,_,_,_,_,_,_,_,_,_,_,_,_,_,_,_,_,_,_,_,_,_,_,_,_,_,_,_,_,_,_,_,_,_,_,_,_, ?rel,rfl⟩
       case rel=>exact⟨j+1,y,hj3,by go_num,HYL.out,HK9.out,HF9.out⟩
       case measure=>first|exact jv hj3 (IntWalk.wrap64_in _ (by omega))|exact jw hj3
     ·have hcv2:=jH (pU HF.out HYL.out)
      have HCV:=hid hcv2
      have HFM:=hid (pU HF.out HYL.out)
      go_upto_region 26 with(fail)
      clear hcv2
      go_wp2_with fail
      refine(O_ HK.out (by omega)).mono ?_
      rintro e w9 ⟨rfl,hb⟩
      have HBZ:=hid (HK.out.up.trans (hb.mono HK.out.bb))
      have HF9:=hid (show w9.ownsRow w1.heap.size 5 1 (.slice B (x.length+8) c) (x.length+8) (aX (y++List.replicate 8 (238:UInt8)))from Ns HF.out HFB.out hb)
      have UF:=jH (pU HF9.out HYL.out)
      clear hb
      go_wp2_with fail
      refine bodyPost_ret (v:= .bool true) (by simp[results,Tryz.results3]) rfl ⟨rfl,HBZ.out⟩
theorem Gn{a:Int}(h:(Lit.int .i64 a).wf=true): -9223372036854775808≤a∧a≤9223372036854775807:=by
 simp only[Lit.wf,IntKind.min,IntKind.max,IntKind.signed,IntKind.bits,Bool.and_eq_true]at h
 simp at h
 omega
theorem Eh(hv:Value)(x:List UInt8)(a b:Int)(w:World)(hw:kN w)(hx:Bys w w.heap.size hv x)(ha:(Lit.int .i64 a).wf=true)(hb:(Lit.int .u8 b).wf=true):Calls Tryz.prog 3 #[hv,.int .i64 a,.int .u8 b] w fun e w'=>e= .returned (.bool true)∧Below w.heap.size w w':=by
 obtain⟨k,rfl⟩:=Ef hb
 exact BO hv x a (Gn ha) k w hw hx
end Go.Proofs.YtkblmloobkiloaaGreatDoor
