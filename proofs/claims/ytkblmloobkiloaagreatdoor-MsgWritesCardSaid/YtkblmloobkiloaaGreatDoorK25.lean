/-
  MBE MDS MO: what the laws of package msg need of them.
-/
import Derived.Test.YtkblmloobkiloaaGreatDoorK00
import Derived.Test.YtkblmloobkiloaaGreatDoorK24
import Derived.Test.YtkblmloobkiloaaGreatDoorK02
import Derived.Deep.Strs
import Derived.ChangeSlices
import Derived.Clock
namespace Go.Proofs.YtkblmloobkiloaaGreatDoor
open Go.Lib (hid)
open Go.RowKit
set_option maxRecDepth 100000 in
set_option maxHeartbeats 6400000 in
theorem Gi{w:World}{b base:Nat}{Y N Q:List Value}{CY CN CQ:Nat→List Value}(hb:base≤b)(h:BkS w b base Y N Q)(hy:Fam w base 5 1 Y CY)(hn:Fam w base 9 1 N CN)(hq:Fam w base 37 3 Q CQ)(h1:Y.length≤20)(h2:N.length≤20)(h3:Q.length=N.length)(hl:∀(v:Value),v∈Y++N++Q→∀A n c,v= .slice A n c→n≤16777216):
  Calls Tryz.prog 18 #[.pointer (some ⟨b,0,none⟩)] w fun e w'=>e= .returned (.bool true)∧Below base w w'∧Off (FK (Y++N++Q)) w w':=by
 obtain⟨vy,vn,vq,hk,ry,rn,rq⟩:=h
 have HK:=hid (show BK w w b base vy vn vq Y N Q from⟨hk,ry,rn,rq,⟨Below.refl _ _,Off.refl _ _⟩,hb⟩)
 have HY:=hid hy
 have HN:=hid hn
 have HQ:=hid hq
 obtain⟨Ay,cy,rfl, -⟩:=aJ ry
 obtain⟨An,cn,rfl, -⟩:=aJ rn
 obtain⟨Aq,cq,rfl, -⟩:=aJ rq
 have H3:=hid h3
 have HLN:=hid hl
 clear hk ry rn rq hb hy hn hq h3 hl
 go_enter Tryz.func18,Tryz.ntmps18
 go_upto_region 2 with(fail)
 go_loopw [3] (fun i wr=>∃(j:Nat) (C:Nat→List Value),j≤Y.length∧i= .int .i64 (j:Int)∧BK w wr b base (.slice Ay Y.length cy) (.slice An N.length cn) (.slice Aq Q.length cq) Y N Q∧Fam wr base 5 1 Y C∧Fam wr base 9 1 N CN∧Fam wr base 37 3 Q CQ∧∀q,q<j→BN (C q) (.int .u8 (1+(q:Int)))) (fun i _=>Y.length-(intOf i).toNat)
 case atStart=>exact⟨0,_,Nat.zero_le _,rfl,HK.out,HY.out,HN.out,HQ.out,fun q hq=>absurd hq (Nat.not_lt_zero _)⟩
 case round=>
  obtain⟨i,C0,hi,rfl,hk,hy,hn,hq,hall⟩:=hrel
  have HK1:=hid hk
  have HY1:=hid hy
  have HN1:=hid hn
  have HQ1:=hid hq
  have HA1:=hid hall
  clear HK HY HN HQ hall hy hn hq
  have kb:wr.cell? ⟨b,0,none⟩=some (.slice Ay Y.length cy):=Blk.cell hk.k 0
  clear hk
  by_cases hlt:i<Y.length
  ·obtain⟨v,hv⟩:∃v,Y[i]? =some v:=⟨Y[i],List.getElem?_eq_getElem hlt⟩
   have HV:=hid hv
   obtain⟨m0,hro⟩:=HY1.out.own i v hv
   obtain⟨Ar,cr,rfl,hmc,hcm⟩:=aJ hro
   have HLR:=hid (show(C0 i).length=m0 from by rw[hro.1,Nat.mul_one])
   have HM0:=hid (show m0≤9223372036854775807 from by unfold maxLen at hcm;omega)
   obtain⟨ady,hA, -⟩:=jr HK1.out.y hv
   subst hA
   clear hro hv hmc hcm
   go_upto_region 5 with(fail)
   clear kb
   go_loopw [4] (fun kk wx=>∃(k:Nat) (C2:Nat→List Value),k≤m0∧kk= .int .i64 (k:Int)∧BK w wx b base (.slice (some ady) Y.length cy) (.slice An N.length cn) (.slice Aq Q.length cq) Y N Q∧Fam wx base 5 1 Y C2∧Fam wx base 9 1 N CN∧Fam wx base 37 3 Q CQ∧(C2 i).length=m0∧(∀q,q<i→BN (C2 q) (.int .u8 (1+(q:Int))))∧∀q,q<k→(C2 i)[q]? =some (.int .u8 (1+(i:Int)))) (fun kk _=>m0-(intOf kk).toNat)
   case atStart=>exact⟨0,C0,Nat.zero_le _,rfl,HK1.out,HY1.out,HN1.out,HQ1.out,HLR.out,HA1.out,fun q hq=>absurd hq (Nat.not_lt_zero _)⟩
   case round=>
    as_aux_lemma=>
     obtain⟨k,C2,hk,rfl,hbk,hy,hn,hq,hl2,hall,uz⟩:=hrel
     have HK2:=hid hbk
     have HY2:=hid hy
     have HN2:=hid hn
     have HQ2:=hid hq
     have HL2:=hid hl2
     have HA2:=hid (And.intro hall uz)
     clear HK1 HY1 HN1 HQ1 HA1 hall uz hl2
     have kb:wr.cell? ⟨b,0,none⟩=some (.slice (some ady) Y.length cy):=Blk.cell hbk.k 0
     obtain⟨XP,hA,ky⟩:=jr hbk.y HV.out
     injection hA with hA
     subst hA
     clear hbk hn hq
     by_cases hkl:k<m0
     ·obtain⟨ad,n,c,hvv,hbs,hg,hl,hcell,hfr,hset⟩:=hy.at_ HV.out (k:=k) (by rw[HL2.out];exact hkl)
      injection hvv with e1 e2 e3
      subst e1 e2 e3
      have hw:IntKind.u8.wrap (1+(i:Int))=1+(i:Int):=by rw[IntKind.wrap_u8];omega
      have hw2:wrap64 ((k:Int)+1)=(k:Int)+1:=IntWalk.wrap64_in _ (by have:=HM0.out;omega)
      obtain⟨old,hold⟩:∃old,(C2 i)[k]? =some old:=⟨(C2 i)[k]'(by rw[HL2.out];exact hkl),List.getElem?_eq_getElem _⟩
      have kx:=hcell k old hold
      have fx:=hfr k
      have HSE:=hid (And.intro (HK2.out.cell hg (.inl rfl) ⟨hbs.1,hbs.2 _ (adE HV.out)⟩ k (.int .u8 (1+(i:Int)))) (And.intro (hset (.int .u8 (1+(i:Int)))) (And.intro (HN2.out.Ib hg (by decide) k (.int .u8 (1+(i:Int)))) (HQ2.out.Ib hg (by decide) k (.int .u8 (1+(i:Int)))))))
      clear hcell hfr hset hg hold hl hbs hy
      go_upto_region 7 with(fail)
      as_aux_lemma=>
       go_wp2_with fail
       clear kb ky kx fx
       generalize wr.setCell (ad.add k) (.int .u8 (1+(i:Int)))=wz at HSE⊢
       go_roundw
       case rel=>
        refine⟨k+1,_,by omega,by go_num,HSE.out.1,HSE.out.2.1,HSE.out.2.2.1,HSE.out.2.2.2,by rw[kD,List.length_set];exact HL2.out,fun q hq=> ?_,fun q hq=> ?_⟩
        ·rw[upd_ne (by omega)]
         exact HA2.out.1 q hq
        ·rw[kD]
         by_cases hqk:q=k
         ·subst hqk
          rw[List.getElem?_set_self (by rw[HL2.out];exact hkl)]
         ·rw[List.getElem?_set_ne (by omega)]
          exact HA2.out.2 q (by omega)
       case measure=>first|exact jv hkl hw2|exact jw hkl
     ·have hkn:k=m0:=by omega
      subst hkn
      clear hy
      go_wp2_with fail
      go_roundw
      case rel=>
       refine⟨i+1,C2,by omega,by go_num,HK2.out,HY2.out,HN2.out,HQ2.out,fun q hq=> ?_⟩
       by_cases hqi:q=i
       ·subst hqi
        exact Ic (Nat.le_of_eq HL2.out) (fun q hq _=>HA2.out.2 q hq)
       ·exact HA2.out.1 q (by omega)
      case measure=>first|exact jv hlt (IntWalk.wrap64_in _ (by omega))|exact jw hlt
  ·have hie:i=Y.length:=by omega
   subst hie
   clear hlt hi
   go_upto_region 9 with(fail)
   clear kb
   go_loopw [5] (fun i wr=>∃(j:Nat) (C D:Nat→List Value),j≤N.length∧i= .int .i64 (j:Int)∧BK w wr b base (.slice Ay Y.length cy) (.slice An N.length cn) (.slice Aq Q.length cq) Y N Q∧Fam wr base 5 1 Y C0∧Fam wr base 9 1 N C∧Fam wr base 37 3 Q D∧(∀q,q<j→BN (C q) (.string (ofL [UInt8.ofNat (97+q),97])))∧∀q,q<j→Ie (D q) (.int .u64 (1+(q:Int)))) (fun i _=>N.length-(intOf i).toNat)
   case atStart=>exact⟨0,_,_,Nat.zero_le _,rfl,HK1.out,HY1.out,HN1.out,HQ1.out,fun q hq=>absurd hq (Nat.not_lt_zero _),fun q hq=>absurd hq (Nat.not_lt_zero _)⟩
   case round=>
    obtain⟨i,C,D,hi,rfl,hk,hy,hn,hq,hall,PE⟩:=hrel
    have HK2:=hid hk
    have HY2:=hid hy
    have HN2:=hid hn
    have HQ2:=hid hq
    have HA2:=hid (And.intro hall PE)
    clear HK1 HY1 HN1 HQ1 hall PE hy hn hq
    have kb:wr.cell? ⟨b,1,none⟩=some (.slice An N.length cn):=Blk.cell hk.k 1
    clear hk
    by_cases hlt:i<N.length
    ·obtain⟨v,hv⟩:∃v,N[i]? =some v:=⟨N[i],List.getElem?_eq_getElem hlt⟩
     obtain⟨u,hu⟩:∃u,Q[i]? =some u:=⟨Q[i]'(by rw[H3.out];exact hlt),List.getElem?_eq_getElem _⟩
     have HV:=hid hv
     have HU:=hid hu
     obtain⟨m0,hro⟩:=HN2.out.own i v hv
     obtain⟨Ar,cr,rfl,hmc,hcm⟩:=aJ hro
     obtain⟨m1,yh⟩:=HQ2.out.own i u hu
     obtain⟨Br,dr,rfl,hmc1,hcm1⟩:=aJ yh
     have HLR:=hid (show(C i).length=m0 from by rw[hro.1,Nat.mul_one])
     have WM:=hid yh.1
     have HM0:=hid (show m0≤9223372036854775807 from by unfold maxLen at hcm;omega)
     have HM1:=hid (show m1≤9223372036854775807 from by unfold maxLen at hcm1;omega)
     obtain⟨adn,hA, -⟩:=jr HK2.out.n hv
     subst hA
     obtain⟨adq,hA, -⟩:=jr HK2.out.q hu
     subst hA
     clear hro yh hv hu hmc hcm hmc1 hcm1
     go_upto_region 12 with(fail)
     clear kb
     go_loopw [6] (fun kk wx=>∃(k:Nat) (C2:Nat→List Value),k≤m0∧kk= .int .i64 (k:Int)∧BK w wx b base (.slice Ay Y.length cy) (.slice (some adn) N.length cn) (.slice (some adq) Q.length cq) Y N Q∧Fam wx base 5 1 Y C0∧Fam wx base 9 1 N C2∧Fam wx base 37 3 Q D∧(C2 i).length=m0∧(∀q,q<i→BN (C2 q) (.string (ofL [UInt8.ofNat (97+q),97])))∧∀q,q<k→(C2 i)[q]? =some (.string (ofL [UInt8.ofNat (97+i),97]))) (fun kk _=>m0-(intOf kk).toNat)
     case atStart=>exact⟨0,C,Nat.zero_le _,rfl,HK2.out,HY2.out,HN2.out,HQ2.out,HLR.out,HA2.out.1,fun q hq=>absurd hq (Nat.not_lt_zero _)⟩
     case round=>
      as_aux_lemma=>
       obtain⟨k,C2,hk,rfl,hbk,hy,hn,hq,hl2,hall,uz⟩:=hrel
       have HK3:=hid hbk
       have HY3:=hid hy
       have HN3:=hid hn
       have HQ3:=hid hq
       have HL3:=hid hl2
       have HA3:=hid (And.intro hall uz)
       clear HK2 HY2 HN2 HQ2 hall uz hl2
       have kb:wr.cell? ⟨b,1,none⟩=some (.slice (some adn) N.length cn):=Blk.cell hbk.k 1
       obtain⟨WJ,hA,ky⟩:=jr hbk.n HV.out
       injection hA with hA
       subst hA
       clear hbk hy hq hn
       by_cases hkl:k<m0
       ·go_upto_region 14 with(fail)
        clear kb ky
        as_aux_lemma=>
         obtain⟨Ec,hws⟩:∃s,s=ofL [UInt8.ofNat (97+i),97]:=⟨_,rfl⟩
         have HWC:=hid (show∀w,Calls Tryz.prog 50 #[.int .i64 (i:Int)] w fun e w'=>e= .returned (.string Ec)∧Below w.heap.size w w' from fun w=>by rw[hws];exact yc i (by omega) w)
         rw[←hws]at HA3
         have HWS:=hid hws
         clear hws
         have HKD:=HK3.out.new (aC wr)
         have HYD:=hid (HY3.out.new (aC wr))
         have HND:=hid (HN3.out.new (aC wr))
         have HQD:=hid (HQ3.out.new (aC wr))
         clear HK3 HY3 HN3 HQ3
         try simp only[Act.put]
         refine wp_region_held_drew (S:=fun wx=>BK w wx b base (.slice Ay Y.length cy) (.slice (some adn) N.length cn) (.slice (some adq) Q.length cq) Y N Q) (by kernel_rfl) HKD (fun hHeld=> ?_)
         clear HKD
         generalize wr.drew=wd at hHeld HYD HND HQD⊢
         refine tk 70 0 (.pointer (some ⟨b,0,none⟩)) ?_
         refine tk 71 1 (.pointer (some ⟨b,0,none⟩)) ?_
         refine tk 72 2 (.pointer (some ⟨b,1,none⟩)) ?_
         refine tk2 73 3 (.slice (some adn) N.length cn) rfl (fun wq hSw=>by have kb:wq.cell? ⟨b,1,none⟩=some (.slice (some adn) N.length cn):=Blk.cell hSw.k 1;go_simp) ?_
         refine tk 74 4 (.int .i64 (i:Int)) ?_
         refine tk 75 5 (.pointer (some (adn.add i))) ?_
         refine tk2 76 6 (.slice Ar m0 cr) rfl (fun wq hSw=>by obtain⟨ad',hA,ky⟩:=jr hSw.n HV.out;injection hA with hA;subst hA;go_simp) ?_
         refine tk 77 7 (.int .i64 (k:Int)) ?_
         refine tk 78 8 (.int .i64 (i:Int)) ?_
         refine wpAnyH_ready (rs:=[9]) (by kernel_rfl) (by simp) ?_
         refine AllReadyH.cons rfl (fun K hK=> ?_) AllReadyH.nil
         rw[if_pos (by rfl)]
         go_simp
         refine(HWC.out wd).mono ?_
         rintro e wf ⟨rfl,hb⟩
         dsimp only
         have hbk:=hHeld.new hb
         have HYF:=hid (HYD.out.new hb)
         have HNF:=HND.out.new hb
         have HQF:=hid (HQD.out.new hb)
         clear HYD HND HQD hHeld hb
         refine hK.out _ _ hbk (fun hHeld=> ?_)
         clear hK hbk
         obtain⟨ad,n,c,hvv,hbs,hg,hl,hcell,hfr,hset⟩:=HNF.at_ HV.out (k:=k) (by rw[HL3.out];exact hkl)
         injection hvv with e1 e2 e3
         subst e1 e2 e3
         obtain⟨old,hold⟩:∃old,(C2 i)[k]? =some old:=⟨(C2 i)[k]'(by rw[HL3.out];exact hkl),List.getElem?_eq_getElem _⟩
         have kx:=hcell k old hold
         have fx:=hfr k
         have hoff:Off (fun i=>i=ad.block) wf (wf.setCell (ad.add k) (.string Ec)):=(Off.refl (fun i=>i=ad.block) wf).setCell (p:=ad.add k) (qg ad k) _
         have HSE:=hid (And.intro (HYF.out.BM hoff hg (by decide)) (And.intro (hset (.string Ec)) (HQF.out.BM hoff hg (by decide))))
         have hbk:=hHeld.BM hoff hg (.inr (.inl rfl)) ⟨hbs.1,hbs.2 _ (ad6 HV.out)⟩
         clear hcell hfr hset hg hold hl hbs HNF HYF HQF hoff
         refine tk 80 10 (.pointer (some (ad.add k))) ?_
         refine wpAnyH_ready (rs:=[11]) (by kernel_rfl) (by simp) ?_
         refine AllReadyH.cons rfl (fun K hK=> ?_) AllReadyH.nil
         rw[if_pos (by rfl)]
         go_simp
         refine hK.out _ _ hbk (fun cO=> ?_)
         clear hK cO hHeld kx fx
         have HBK:=hid hbk
         clear hbk
         generalize wf.setCell (ad.add k) (.string Ec)=wz at HSE HBK⊢
         refine wpAnyH_done (by kernel_rfl) ?_ _
         have hw2:wrap64 ((k:Int)+1)=(k:Int)+1:=IntWalk.wrap64_in _ (by have:=HM0.out;omega)
         go_wp2_with fail
         go_roundw
         case rel=>
          refine⟨k+1,_,hkl,by go_num,HBK.out,HSE.out.1,HSE.out.2.1,HSE.out.2.2,by rw[kD,List.length_set];exact HL3.out,fun q hq=> ?_,fun q hq=> ?_⟩
          ·rw[upd_ne (Nat.ne_of_lt hq)]
           exact HA3.out.1 q hq
          ·rw[kD,←HWS.out]
           by_cases hqk:q=k
           ·subst hqk
            rw[List.getElem?_set_self (by rw[HL3.out];exact hkl)]
           ·rw[List.getElem?_set_ne (Ne.symm hqk)]
            exact HA3.out.2 q (Nat.lt_of_le_of_ne (Nat.le_of_lt_succ hq) hqk)
         case measure=>first|exact jv hkl hw2|exact jw hkl
       ·have hkn:k=m0:=by omega
        subst hkn
        have HAA:=hid (show BN (C2 i) (.string (ofL [UInt8.ofNat (97+i),97]))from Ic (Nat.le_of_eq HL3.out) (fun q hq _=>HA3.out.2 q hq))
        have HAB:=hid HA3.out.1
        clear HA3 HL3 HM0
        go_upto_region 16 with(fail)
        clear kb ky hkl
        go_loopw [7] (fun kk wx=>∃(k:Nat) (D2:Nat→List Value),k≤m1∧kk= .int .i64 (k:Int)∧BK w wx b base (.slice Ay Y.length cy) (.slice (some adn) N.length cn) (.slice (some adq) Q.length cq) Y N Q∧Fam wx base 5 1 Y C0∧Fam wx base 9 1 N C2∧Fam wx base 37 3 Q D2∧(D2 i).length=m1*3∧(∀q,q<i→Ie (D2 q) (.int .u64 (1+(q:Int))))∧∀q,q<k→(D2 i)[q*3+2]? =some (.int .u64 (1+(i:Int)))) (fun kk _=>m1-(intOf kk).toNat)
        case atStart=>exact⟨0,D,Nat.zero_le _,rfl,HK3.out,HY3.out,HN3.out,HQ3.out,WM.out,HA2.out.2,fun q hq=>absurd hq (Nat.not_lt_zero _)⟩
        case round=>
         as_aux_lemma=>
          obtain⟨k,D2,hk,rfl,hbk,hy,hn,hq,hl2,hall,uz⟩:=hrel
          have HK4:=hid hbk
          have HY4:=hid hy
          have HN4:=hid hn
          have HQ4:=hid hq
          have HL4:=hid hl2
          have HA4:=hid (And.intro hall uz)
          clear HK3 HY3 HN3 HQ3 hall uz hl2
          have kb:wr.cell? ⟨b,2,none⟩=some (.slice (some adq) Q.length cq):=Blk.cell hbk.k 2
          have hiq:i<Q.length:=by have:=H3.out;omega
          obtain⟨WL,hA,ky⟩:=jr hbk.q HU.out
          injection hA with hA
          subst hA
          clear hbk hy hn
          by_cases hkl:k<m1
          ·obtain⟨ad,n,c,hvv,hbs,hap,hg,hl,hth, -,hset⟩:=hq.at3 HU.out (k:=k) (by rw[HL4.out];omega)
           injection hvv with e1 e2 e3
           subst e1 e2 e3
           have HAP:=hid hap
           have HTH:=hid hth
           have hw:IntKind.u64.wrap (1+(i:Int))=1+(i:Int):=by rw[IntKind.wrap_u64];omega
           have hw2:wrap64 ((k:Int)+1)=(k:Int)+1:=IntWalk.wrap64_in _ (by have:=HM1.out;omega)
           have hoff:=yS wr ad.block (k*3) (.int .u8 0) (.int .u32 0) (.int .u64 (1+(i:Int)))
           have HSE:=hid (And.intro (HK4.out.BM hoff hg (.inr (.inr rfl)) ⟨hbs.1,hbs.2 _ (ad7 HU.out)⟩) (And.intro (HY4.out.BM hoff hg (by decide)) (And.intro (HN4.out.BM hoff hg (by decide)) (hset (.int .u8 0) (.int .u32 0) (.int .u64 (1+(i:Int)))))))
           clear hset hg hl hbs hq hoff hap hth
           go_upto_region 18 with(fail)
           as_aux_lemma=>
            go_wp2_with(refine WH (v0:= .int .u8 0) (v1:= .int .u32 0) (v2:= .int .u64 (1+(i:Int))) HAP.out HTH.out rfl _ _ rfl rfl rfl (WI ..) ?_;generalize wr.setCells ad.block (k*3) [.int .u8 0,.int .u32 0,.int .u64 (1+(i:Int))]=wz at HSE⊢)
            clear kb ky
            go_roundw
            case rel=>
             refine⟨k+1,_,hkl,by go_num,HSE.out.1,HSE.out.2.1,HSE.out.2.2.1,HSE.out.2.2.2,by rw[kD,List.length_set,List.length_set,List.length_set];exact HL4.out,fun q hq=> ?_,fun q hq=> ?_⟩
             ·rw[upd_ne (Nat.ne_of_lt hq)]
              exact HA4.out.1 q hq
             ·rw[kD]
              exact O8 HL4.out hkl HA4.out.2 q hq
            case measure=>first|exact jv hkl hw2|exact jw hkl
          ·have hkn:k=m1:=by omega
           subst hkn
           clear hq
           go_wp2_with fail
           go_roundw
           case rel=>
            refine⟨i+1,C2,D2,hlt,by go_num,HK4.out,HY4.out,HN4.out,HQ4.out,fun q hq=> ?_,fun q hq=> ?_⟩
            ·rcases Nat.lt_or_eq_of_le (Nat.le_of_lt_succ hq)with hq|rfl
             ·exact HAB.out q hq
             ·exact HAA.out
            ·rcases Nat.lt_or_eq_of_le (Nat.le_of_lt_succ hq)with hq|rfl
             ·exact HA4.out.1 q hq
             ·exact O9 HL4.out HA4.out.2
           case measure=>first|exact jv hlt (IntWalk.wrap64_in _ (by omega))|exact jw hlt
    ·have hie:i=N.length:=by omega
     subst hie
     clear hlt hi
     obtain⟨h0,hh0⟩:∃h0,h0=wr.heap.size:=⟨_,rfl⟩
     have HH0:=hid (Nat.le_of_eq hh0)
     have HYH:=hid (show∀(j:Nat) (u:Value) (g:Nat),Y[j]? =some u→u.ownBlock=some g→g<h0 from fun j u g hu hg=>by obtain⟨n,hr⟩:=HY2.out.own j u hu;rw[hh0];exact(hr.lt g hg).2)
     have HNH:=hid (show∀(j:Nat) (u:Value) (g:Nat),N[j]? =some u→u.ownBlock=some g→g<h0 from fun j u g hu hg=>by obtain⟨n,hr⟩:=HN2.out.own j u hu;rw[hh0];exact(hr.lt g hg).2)
     have HQH:=hid (show∀(j:Nat) (u:Value) (g:Nat),Q[j]? =some u→u.ownBlock=some g→g<h0 from fun j u g hu hg=>by obtain⟨n,hr⟩:=HQ2.out.own j u hu;rw[hh0];exact(hr.lt g hg).2)
     have HBH:=hid (show b<h0∧(base≤h0∧w.heap.size≤h0)∧∀(v:Value) (g:Nat),v= .slice Ay Y.length cy∨v= .slice An N.length cn∨v= .slice Aq Q.length cq→v.ownBlock=some g→g<h0 from by
      rw[hh0]
      refine⟨Blk.lt HK2.out.k,⟨HK2.out.size,HK2.out.up.1.size⟩,fun v g hv hg=> ?_⟩
      rcases hv with rfl|rfl|rfl
      ·exact(HK2.out.y.lt g hg).2
      ·exact(HK2.out.n.lt g hg).2
      ·exact(HK2.out.q.lt g hg).2)
     clear hh0
     go_upto_region 21 with(fail)
     clear kb
     go_loopw [8,9] (fun v i wx=>∃(j:Nat) (M:List Value) (Am:Option Addr) (cm:Nat),j≤Y.length∧M.length=j∧i= .int .i64 (j:Int)∧v= .slice Am j cm∧(BK w wx b base (.slice Ay Y.length cy) (.slice An N.length cn) (.slice Aq Q.length cq) Y N Q)∧(Fam wx base 5 1 Y C0∧Fam wx base 9 1 N C∧Fam wx base 37 3 Q D)∧wx.ownsRow h0 22 1 (.slice Am j cm) j M∧lH wx base h0 Y M C0 (fun q=>List.replicate 64 (.int .u8 (101+(q:Int))))∧h0≤wx.heap.size) (fun _ i _=>Y.length-(intOf i).toNat)
     case atStart=>exact⟨0,[],none,0,Nat.zero_le _,rfl,rfl,rfl,HK2.out,⟨HY2.out,HN2.out,HQ2.out⟩,dS _ _ _ _,fun q u y hu=>by simp at hu,HH0.out⟩
     case round=>
      obtain⟨i,M,Am,cm,hi,hml,rfl,rfl,hbk,⟨hy,hn,hq⟩,hm,hms,hsz⟩:=hrel
      have HK3:=hid hbk
      have HF3:=hid (And.intro hy (And.intro hn hq))
      have HM3:=hid (And.intro hm hms)
      have HML:=hid hml
      have HSZ:=hid hsz
      have kb:wr.cell? ⟨b,0,none⟩=some (.slice Ay Y.length cy):=Blk.cell hbk.k 0
      clear HK2 HY2 HN2 HQ2 HH0 hy hn hq hm hms hml hsz hbk
      by_cases hlt:i<Y.length
      ·obtain⟨v,hv⟩:∃v,Y[i]? =some v:=⟨Y[i],List.getElem?_eq_getElem hlt⟩
       have HV:=hid hv
       obtain⟨ady,hA,ky⟩:=jr HK3.out.y hv
       subst hA
       obtain⟨m0,hro⟩:=HF3.out.1.own i v hv
       obtain⟨Ar,cr,rfl, -⟩:=aJ hro
       have HRO:=hid hro
       have HM0:=hid (HLN.out _ (List.mem_append_left _ (List.mem_append_left _ (List.mem_of_getElem? hv))) _ _ _ rfl)
       obtain⟨h1,hh1⟩:∃h1,h1=wr.heap.size:=⟨_,rfl⟩
       have HH1:=hid (show h0≤h1 from by rw[hh1];exact HSZ.out)
       have HWZ:=hid (show w.heap.size≤h1 from by rw[hh1];exact HK3.out.up.1.size)
       have Uz:=hid (Nat.le_of_eq hh1)
       have HMH:=hid (show∀(j:Nat) (u:Value) (g:Nat),M[j]? =some u→u.ownBlock=some g→g<h1 from fun j u g hu hg=>by
        obtain⟨y,hy⟩:∃y,Y[j]? =some y:=⟨_,List.getElem?_eq_getElem (by have:=(List.getElem?_eq_some_iff.1 hu).1;have:=HML.out;omega)⟩
        obtain⟨⟨n,hr⟩, -⟩:=HM3.out.2 j u y hu hy
        rw[hh1]
        exact(hr.lt g hg).2)
       have HW0:=hid (show r_ (.slice Ar m0 cr) (.slice Ar m0 cr) h1 from by
        rcases hro.2 with⟨e,rfl⟩|⟨g,cap,cur,e, -⟩
        ·rw[e];exact .inr fun g hg=>by cases hg
        ·rw[e];exact .inl ⟨g,m0,m0,cap,rfl,rfl⟩)
       clear hro hv hh1
       go_upto_region 25 with(fail)
       clear kb ky
       go_loopw [10,11] (fun l kk wx=>∃(k:Nat) (A:Option Addr) (c:Nat),k≤64∧kk= .int .i64 (k:Int)∧l= .slice A (m0+k) c∧(BK w wx b base (.slice (some ady) Y.length cy) (.slice An N.length cn) (.slice Aq Q.length cq) Y N Q)∧(Fam wx base 5 1 Y C0∧Fam wx base 9 1 N C∧Fam wx base 37 3 Q D)∧wx.ownsRow h0 22 1 (.slice Am i cm) i M∧lH wx base h0 Y M C0 (fun q=>List.replicate 64 (.int .u8 (101+(q:Int))))∧wx.ownsRow base 5 1 (.slice A (m0+k) c) (m0+k) (C0 i++List.replicate k (.int .u8 (101+(i:Int))))∧r_ (.slice Ar m0 cr) (.slice A (m0+k) c) h1∧h1≤wx.heap.size) (fun _ kk _=>64-(intOf kk).toNat)
       case atStart=>exact⟨0,Ar,cr,Nat.zero_le _,rfl,rfl,HK3.out,HF3.out,HM3.out.1,HM3.out.2,by rw[List.replicate_zero,List.append_nil];exact HRO.out,HW0.out,Uz.out⟩
       case round=>
        as_aux_lemma=>
         obtain⟨k,A,c,hk,rfl,rfl,hbk,hf,hm,hms,hlr,Ig,hsz1⟩:=hrel
         clear HK3 HF3 HM3 HW0 HRO Uz
         by_cases hkl:k<64
         ·have hup:Below wr.heap.size wr (wr.alloc (.cells #[.int .u8 (101+(i:Int))] 5)):=(Below.refl _ _).alloc (Nat.le_refl _) _
          have HK5:=hid (hbk.new hup)
          have HF5:=hid (And.intro (hf.1.new hup) (And.intro (hf.2.1.new hup) (hf.2.2.new hup)))
          have HM5:=hid (aI hm hup)
          have Rx:=hid (hms.new hup)
          have HL5:=hid (aI hlr hup)
          have HWE:=hid Ig
          have HB5:=hid (Blk.new wr 5 [.int .u8 (101+(i:Int))].toArray)
          have Np:=hid (Nat.le_trans hsz1 hup.size)
          have WO:=hid (show base≤(wr.alloc (.cells #[.int .u8 (101+(i:Int))] 5)).heap.size from Nat.le_trans hbk.size hup.size)
          have HMK:=hid (show m0+k≤20000000 from by have:=HM0.out;omega)
          clear hup hbk hf hm hms hlr Ig hsz1
          have hw:IntKind.u8.wrap (101+(i:Int))=101+(i:Int):=by rw[IntKind.wrap_u8];omega
          have hw3:wrap64 (101+(i:Int))=101+(i:Int):=IntWalk.wrap64_in _ (by omega)
          have hw2:wrap64 ((k:Int)+1)=(k:Int)+1:=IntWalk.wrap64_in _ (by omega)
          go_wp2_with(at_builtin;refine yg 22 5 (.int .u8 0) 1 1 (by decide) (by decide) rfl Tryz.underlying22 mF (.tmp 126) (.tmp 130) rfl rfl base _ (m0+k) _ rfl HL5.out wr.heap.size 1 [.int .u8 (101+(i:Int))] rfl HB5.out rfl Ia HMK.out WO.out ?_;intro v4 w4 hown hgr hc;obtain⟨A4,c4,rfl, -⟩:=aJ hown;have HX:=hid (And.intro hown (And.intro hgr hc));clear hown hgr hc)
          go_roundw
          case rel=>
           obtain⟨hown,hgr,hc⟩:=HX.out
           have ho:=(Off.refl (fun i=>(Value.slice A (m0+k) c).ownBlock=some i) (wr.alloc (.cells #[.int .u8 (101+(i:Int))] 5))).grown hgr (fun g hg=>hg)
           have hown2:w4.ownsRow base 5 1 (.slice A4 (m0+k+1) c4) (m0+k+1) (C0 i++List.replicate (k+1) (.int .u8 (101+(i:Int)))):=by
            rw[List.replicate_succ',←List.append_assoc]
            exact hown
           refine⟨k+1,A4,c4,hkl,by go_num,rfl,HK5.out.grow HL5.out (.inl rfl) (Nat.le_refl _) (ac3 (adE HV.out) HWE.out HWZ.out) hgr,⟨HF5.out.1.grow HV.out HL5.out HWE.out (fun j u g hu hg=>Nat.lt_of_lt_of_le (HYH.out j u g hu hg) HH1.out) hown2 hgr (hc.imp id And.right),HF5.out.2.1.off ho (bZ HL5.out (by decide)),HF5.out.2.2.off ho (bZ HL5.out (by decide))⟩,HM5.out.kept hgr (fC HM5.out HL5.out (by decide)),Rx.out.grow HV.out (Nat.le_of_eq HML.out) HF5.out.1.apart HYH.out HMH.out HWE.out hgr,hown2,HWE.out.next Np.out hc,Nat.le_trans Np.out ho.size⟩
          case measure=>first|exact jv hkl hw2|exact jw hkl
         ·have hkn:k=64:=by omega
          subst hkn
          have hup:Below wr.heap.size wr (wr.alloc (.cells #[.slice A (m0+64) c] 22)):=(Below.refl _ _).alloc (Nat.le_refl _) _
          have HK5:=hid (hbk.new hup)
          have HF5:=hid (And.intro (hf.1.new hup) (And.intro (hf.2.1.new hup) (hf.2.2.new hup)))
          have HM5:=hid (aI hm hup)
          have Rx:=hid (hms.new hup)
          have HL5:=hid (aI hlr hup)
          have HWE:=hid (Ig.mono HH1.out)
          have HB5:=hid (Blk.new wr 22 [Value.slice A (m0+64) c].toArray)
          have Np:=hid (Nat.le_trans HH1.out (Nat.le_trans hsz1 hup.size))
          clear hup hbk hf hm hms hlr Ig hsz1
          go_wp2_with(at_builtin;refine yg 25 22 (.slice none 0 0) 1 24 (by decide) (by decide) rfl Tryz.underlying25 x9 (.tmp 132) (.tmp 134) rfl rfl h0 _ i _ rfl HM5.out wr.heap.size 1 [.slice A (m0+64) c] rfl HB5.out rfl Rw (by omega) Np.out ?_;intro v4 w4 hown hgr hc;obtain⟨A4,c4,rfl, -⟩:=aJ hown;have HX:=hid (And.intro hown hgr);clear hown hgr hc)
          go_roundw
          case rel=>
           obtain⟨hown,hgr⟩:=HX.out
           have hM5:=HM5.out
           have ho:=(Off.refl (fun k=>(Value.slice Am i cm).ownBlock=some k) (wr.alloc (.cells #[.slice A (m0+64) c] 22))).grown hgr (fun g hg=>hg)
           have hml:=HML.out
           refine⟨i+1,M++[.slice A (m0+64) c],A4,c4,hlt,by rw[List.length_append,hml];rfl,by go_num,rfl,HK5.out.far ho (fun k hk=>dH hM5 k hk) HBH.out.1 HBH.out.2.1 HBH.out.2.2,⟨HF5.out.1.off ho (bZ hM5 (by decide)),HF5.out.2.1.off ho (bZ hM5 (by decide)),HF5.out.2.2.off ho (bZ hM5 (by decide))⟩,hown, ?_,Nat.le_trans Np.out ho.size⟩
           refine(Rx.out.off ho (bZ hM5 (by decide))).snoc (n:=m0+64) ?_ ?_
           ·rw[hml]
            exact HL5.out.kept hgr (fC HL5.out hM5 (by decide))
           ·rw[hml]
            intro y hy
            have hv:=HV.out
            rw[hv]at hy
            obtain rfl:=Option.some.inj hy
            exact HWE.out
          case measure=>first|exact jv hlt (IntWalk.wrap64_in _ (by omega))|exact jw hlt
      ·have hie:i=Y.length:=by omega
       subst hie
       clear hlt hi
       go_upto_region 30 with(fail)
       clear kb
       go_loopw [12] (fun i wx=>∃j:Nat,j≤N.length∧i= .int .i64 (j:Int)∧(BK w wx b base (.slice Ay Y.length cy) (.slice An N.length cn) (.slice Aq Q.length cq) Y N Q)∧(Fam wx base 5 1 Y C0∧Fam wx base 9 1 N C∧Fam wx base 37 3 Q D)∧wx.ownsRow h0 22 1 (.slice Am Y.length cm) Y.length M∧lH wx base h0 Y M C0 (fun q=>List.replicate 64 (.int .u8 (101+(q:Int))))∧h0≤wx.heap.size) (fun i _=>N.length-(intOf i).toNat)
       case atStart=>exact⟨0,Nat.zero_le _,rfl,HK3.out,HF3.out,HM3.out.1,HM3.out.2,HSZ.out⟩
       case round=>
        obtain⟨i,hi,rfl,hbk,hf,hm,hms,hsz⟩:=hrel
        have HK4:=hid hbk
        have HF4:=hid hf
        have HM4:=hid (And.intro hm hms)
        have jG:=hid hsz
        clear HK3 HF3 HM3 HSZ hf hm hms hsz
        have kb:wr.cell? ⟨b,1,none⟩=some (.slice An N.length cn):=Blk.cell hbk.k 1
        have kb2:wr.cell? ⟨b,2,none⟩=some (.slice Aq Q.length cq):=Blk.cell hbk.k 2
        clear hbk
        by_cases hlt:i<N.length
        ·obtain⟨v,hv⟩:∃v,N[i]? =some v:=⟨N[i],List.getElem?_eq_getElem hlt⟩
         have hiq:i<Q.length:=by have:=H3.out;omega
         obtain⟨u,hu⟩:∃u,Q[i]? =some u:=⟨Q[i],List.getElem?_eq_getElem hiq⟩
         have HV:=hid hv
         have HU:=hid hu
         obtain⟨adn,hA,ky⟩:=jr HK4.out.n hv
         subst hA
         obtain⟨adq,hA,kq⟩:=jr HK4.out.q hu
         subst hA
         obtain⟨m0,hro⟩:=HF4.out.2.1.own i v hv
         obtain⟨Ar,cr,rfl, -⟩:=aJ hro
         obtain⟨m1,yh⟩:=HF4.out.2.2.own i u hu
         obtain⟨Br,dr,rfl, -⟩:=aJ yh
         have WQ:=hid (And.intro (HLN.out _ (List.mem_append_left _ (List.mem_append_right _ (List.mem_of_getElem? hv))) _ _ _ rfl) (HLN.out _ (List.mem_append_right _ (List.mem_of_getElem? hu)) _ _ _ rfl))
         obtain⟨h1,hh1⟩:∃h1,h1=wr.heap.size:=⟨_,rfl⟩
         have HH1:=hid (show h0≤h1∧w.heap.size≤h1 from by rw[hh1];exact⟨jG.out,HK4.out.up.1.size⟩)
         have HP:=hid (show P4 w wr b base h0 h1 (.slice Ay Y.length cy) (.slice (some adn) N.length cn) (.slice (some adq) Q.length cq) (.slice Am Y.length cm) (.slice Ar m0 cr) (.slice Br m1 dr) Y N Q M C0 C D (fun q=>List.replicate 64 (.int .u8 (101+(q:Int)))) i m0 m1 (.slice Ar m0 cr) (.slice Br m1 dr) [] []from⟨HK4.out,HF4.out,HM4.out,by rw[List.append_nil];exact hro,by rw[List.append_nil];exact yh,zW hro h1,zW yh h1,Nat.le_of_eq hh1⟩)
         clear hro yh hv hu hh1 HK4 HF4 HM4 jG
         go_upto_region 35 with(fail)
         clear kb kb2 ky kq hiq
         go_loopw [13,14,15] (fun l q kk wx=>∃(k n m c d:Nat) (A B:Option Addr) (zs xs:List Value),k≤16∧kk= .int .i64 (k:Int)∧l= .slice A n c∧q= .slice B m d∧(n≤16777216+k∧m≤16777216+k)∧P4 w wx b base h0 h1 (.slice Ay Y.length cy) (.slice (some adn) N.length cn) (.slice (some adq) Q.length cq) (.slice Am Y.length cm) (.slice Ar m0 cr) (.slice Br m1 dr) Y N Q M C0 C D (fun q=>List.replicate 64 (.int .u8 (101+(q:Int)))) i n m (.slice A n c) (.slice B m d) zs xs) (fun _ _ kk _=>16-(intOf kk).toNat)
         case atStart=>exact⟨0,m0,m1,cr,dr,Ar,Br,[],[],Nat.zero_le _,rfl,rfl,rfl,WQ.out,HP.out⟩
         case round=>
          as_aux_lemma=>
           obtain⟨k,n,m,c,d,A,B,zs,xs,hk,rfl,rfl,rfl,hnm,hp⟩:=hrel
           clear HP
           have HNM:=hid hnm
           by_cases hkl:k<16
           ·have HP5:=hid (hp.new ((Below.refl wr.heap.size wr).alloc (Nat.le_refl _) (.cells #[.string ⟨#[109,111,114,101]⟩] 9)))
            have HB5:=hid (Blk.new wr 9 [Value.string ⟨#[109,111,114,101]⟩].toArray)
            have HMK:=hid (show n≤20000000∧m≤20000000 from by omega)
            have hw2:wrap64 ((k:Int)+1)=(k:Int)+1:=IntWalk.wrap64_in _ (by omega)
            clear hp hnm
            go_wp2_with(first|(at_builtin;refine yg 33 9 (.string ⟨#[]⟩) 1 16 (by decide) (by decide) rfl Tryz.underlying33 Gq (.tmp 163) (.tmp 164) rfl rfl base _ n _ rfl HP5.out.ol wr.heap.size 1 [.string ⟨#[109,111,114,101]⟩] rfl HB5.out rfl O7 HMK.out.1 HP5.out.k.size ?_;intro v4 w4 hown hgr hc;obtain⟨A4,c4,rfl, -⟩:=aJ hown;have HP6:=hid ((HP5.out.Uw HV.out HNH.out HH1.out hown hgr hc).new ((Below.refl w4.heap.size w4).alloc (Nat.le_refl _) (.cells #[.int .u8 0,.int .u32 0,.int .u64 99] 37)));have HB6:=hid (Blk.new w4 37 [.int .u8 0,.int .u32 0,Value.int .u64 99].toArray);clear hown hgr hc HP5 HB5)|(at_builtin;refine yg 34 37 (.agg #[.int .u8 0,.int .u32 0,.int .u64 0]) 3 16 (by decide) (by decide) rfl Tryz.underlying34 BR (.tmp 166) (.tmp 168) rfl rfl base _ m _ rfl HP6.out.oq w4.heap.size 1 [.int .u8 0,.int .u32 0,.int .u64 99] rfl HB6.out rfl Uu HMK.out.2 HP6.out.k.size ?_;intro v6 w6 hown hgr hc;obtain⟨A6,c6,rfl, -⟩:=aJ hown;have HP7:=hid (HP6.out.Ux HU.out HQH.out HH1.out hown hgr hc);clear hown hgr hc HP6 HB6))
            go_roundw
            case rel=>exact⟨k+1,n+1,m+1,c4,c6,A4,A6,_,_,hkl,by go_num,rfl,rfl,⟨by have:=HNM.out;omega,by have:=HNM.out;omega⟩,HP7.out⟩
            case measure=>first|exact jv hkl hw2|exact jw hkl
           ·have HP8:=hid hp
            clear hp hnm
            go_wp2_with fail
            go_roundw
            case rel=>exact⟨i+1,hlt,by go_num,HP8.out.k,HP8.out.f,HP8.out.r.1,HP8.out.r.2,Nat.le_trans HH1.out.1 HP8.out.sz⟩
            case measure=>first|exact jv hlt (IntWalk.wrap64_in _ (by omega))|exact jw hlt
        ·go_upto_region 39 with(fail)
         have HRS:=hid (show RS wr b base h0 (.slice Ay Y.length cy) (.slice An N.length cn) (.slice Aq Q.length cq) (.slice Am Y.length cm) Y N Q M C0 C D from⟨⟨HK4.out.k,HK4.out.y,HK4.out.n,HK4.out.q,⟨Below.refl _ _,Off.refl _ _⟩,HK4.out.bb⟩,HF4.out.1,HF4.out.2.1,HF4.out.2.2,HM4.out.1,HM4.out.2,HA1.out,HA2.out.1,fun q hq=>HA2.out.2 q (by have:=H3.out;omega)⟩)
         have HBF:=hid HK4.out.up
         have HBS:=hid HK4.out.size
         clear kb kb2 HK4 HF4 HM4 HA1 HA2
         go_wp2_with fail
         refine(Eb HRS.out h1 h2 H3.out).mono ?_
         rintro e wf ⟨rfl,hb⟩
         have HBG:=hid (And.intro (HBF.out.1.trans (hb.mono HBS.out)) (HBF.out.2.new hb))
         clear hb
         go_wp2_with fail
         exact bodyPost_ret (v:= .bool true) (by simp[results,Tryz.results18]) rfl ⟨rfl,HBG.out⟩
end Go.Proofs.YtkblmloobkiloaaGreatDoor
namespace Go.Proofs.YtkblmloobkiloaaGreatDoor
open Go.Lib (hid)
open Go.RowKit Go.ChangeShapes Go.WideShapes
theorem Ef{n:Int}(h:(Lit.int .u8 n).wf=true):∃k:UInt8,n=(k.toNat:Int):=by
 simp only[Lit.wf,IntKind.min,IntKind.max,IntKind.signed,IntKind.bits,Bool.and_eq_true]at h
 simp at h
 exact⟨UInt8.ofNat n.toNat,by
  rw[UInt8.toNat_ofNat']
  omega⟩
theorem zZ:∀zs:List Int,(∀n∈zs,(Lit.int .u8 n).wf=true)→∃l:List UInt8,l.length=zs.length∧aX l=zs.map (.int .u8)
 | [],_=>⟨[],rfl,rfl⟩
 |z::zs,h=>by
  obtain⟨k,hk⟩:=Ef (h z (.head _))
  obtain⟨l,h1,h2⟩:=zZ zs (fun n hn=>h n (.tail _ hn))
  exact⟨k::l,by simp[h1],by simp only[aX,List.map_cons]at h2⊢;rw[h2,hk]⟩
section
variable {H:Type} {enc:TypeId×Value→H} {w:World} {base:Nat} {held:Bool} {fuel:Nat}
end
end Go.Proofs.YtkblmloobkiloaaGreatDoor
