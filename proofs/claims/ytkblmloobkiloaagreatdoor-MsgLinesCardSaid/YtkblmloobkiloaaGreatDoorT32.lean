/-
  MBE MDS MO MO2 MLC MUL: what the laws of package msg need of them.
-/
import Derived.Test.YtkblmloobkiloaaGreatDoorT00
import Derived.Test.YtkblmloobkiloaaGreatDoorT31
import Derived.Test.YtkblmloobkiloaaGreatDoorT03
import Derived.Deep.Strs
import Derived.ChangeSlices
import Derived.Clock
import Derived.Test.YtkblmloobkiloaaGreatDoorT11
import Derived.Test.YtkblmloobkiloaaGreatDoorT28
import Derived.Test.YtkblmloobkiloaaGreatDoorT06
namespace Go.Proofs.YtkblmloobkiloaaGreatDoor
open Go.Lib (hid)
open Go.RowKit
set_option maxRecDepth 100000 in
set_option maxHeartbeats 6400000 in
theorem Gi{w:World}{b base:Nat}{Y N Q:List Value}{CY CN CQ:Nat→List Value}(hb:base≤b)(h:BkS w b base Y N Q)(hy:Fam w base 5 1 Y CY)(hn:Fam w base 9 1 N CN)(hq:Fam w base 37 3 Q CQ)(h1:Y.length≤20)(h2:N.length≤20)(h3:Q.length=N.length)(hl:∀(v:Value),v∈Y++N++Q→∀A n c,v= .slice A n c→n≤16777216):
  Calls Tryz.prog 18 #[.pointer (some ⟨b,0,none⟩)] w fun e w'=>e= .returned (.bool true)∧Below base w w':=by
 obtain⟨vy,vn,vq,hk,ry,rn,rq⟩:=h
 have HK:=hid (show BK w w b base vy vn vq Y N Q from⟨hk,ry,rn,rq,Below.refl _ _,hb⟩)
 have HY:=hid hy
 have HN:=hid hn
 have HQ:=hid hq
 obtain⟨Ay,cy,rfl, -⟩:=aJ ry
 obtain⟨An,cn,rfl, -⟩:=aJ rn
 obtain⟨Aq,cq,rfl, -⟩:=aJ rq
 have H3:=hid h3
 have HLN:=hid hl
 clear hk ry rn rq hb hy hn hq h3 hl
 go_enter Tryz.func18,Tryz.ntmps18
 go_upto_region 2 with(fail)
 go_loopw [3] (fun i wr=>∃(j:Nat) (C:Nat→List Value),j≤Y.length∧i= .int .i64 (j:Int)∧BK w wr b base (.slice Ay Y.length cy) (.slice An N.length cn) (.slice Aq Q.length cq) Y N Q∧Fam wr base 5 1 Y C∧Fam wr base 9 1 N CN∧Fam wr base 37 3 Q CQ∧∀q,q<j→BN (C q) (.int .u8 (1+(q:Int)))) (fun i _=>Y.length-(intOf i).toNat)
 case atStart=>exact⟨0,_,Nat.zero_le _,rfl,HK.out,HY.out,HN.out,HQ.out,fun q hq=>absurd hq (Nat.not_lt_zero _)⟩
 case round=>
  obtain⟨i,C0,hi,rfl,hk,hy,hn,hq,hall⟩:=hrel
  have HK1:=hid hk
  have HY1:=hid hy
  have HN1:=hid hn
  have HQ1:=hid hq
  have HA1:=hid hall
  clear HK HY HN HQ hall hy hn hq
  have kb:wr.cell? ⟨b,0,none⟩=some (.slice Ay Y.length cy):=Blk.cell hk.k 0
  clear hk
  by_cases hlt:i<Y.length
  ·obtain⟨v,hv⟩:∃v,Y[i]? =some v:=⟨Y[i],List.getElem?_eq_getElem hlt⟩
   have HV:=hid hv
   obtain⟨m0,hro⟩:=HY1.out.own i v hv
   obtain⟨Ar,cr,rfl,hmc,hcm⟩:=aJ hro
   have HLR:=hid (show(C0 i).length=m0 from by rw[hro.1,Nat.mul_one])
   have HM0:=hid (show m0≤9223372036854775807 from by unfold maxLen at hcm;omega)
   obtain⟨ady,hA, -⟩:=jr HK1.out.y hv
   subst hA
   clear hro hv hmc hcm
   go_upto_region 5 with(fail)
   clear kb
   go_loopw [4] (fun kk wx=>∃(k:Nat) (C2:Nat→List Value),k≤m0∧kk= .int .i64 (k:Int)∧BK w wx b base (.slice (some ady) Y.length cy) (.slice An N.length cn) (.slice Aq Q.length cq) Y N Q∧Fam wx base 5 1 Y C2∧Fam wx base 9 1 N CN∧Fam wx base 37 3 Q CQ∧(C2 i).length=m0∧(∀q,q<i→BN (C2 q) (.int .u8 (1+(q:Int))))∧∀q,q<k→(C2 i)[q]? =some (.int .u8 (1+(i:Int)))) (fun kk _=>m0-(intOf kk).toNat)
   case atStart=>exact⟨0,C0,Nat.zero_le _,rfl,HK1.out,HY1.out,HN1.out,HQ1.out,HLR.out,HA1.out,fun q hq=>absurd hq (Nat.not_lt_zero _)⟩
   case round=>
    as_aux_lemma=>
     obtain⟨k,C2,hk,rfl,hbk,hy,hn,hq,hl2,hall,uz⟩:=hrel
     have HK2:=hid hbk
     have HY2:=hid hy
     have HN2:=hid hn
     have HQ2:=hid hq
     have HL2:=hid hl2
     have HA2:=hid (And.intro hall uz)
     clear HK1 HY1 HN1 HQ1 HA1 hall uz hl2
     have kb:wr.cell? ⟨b,0,none⟩=some (.slice (some ady) Y.length cy):=Blk.cell hbk.k 0
     obtain⟨XP,hA,ky⟩:=jr hbk.y HV.out
     injection hA with hA
     subst hA
     clear hbk hn hq
     by_cases hkl:k<m0
     ·obtain⟨ad,n,c,hvv,hbs,hg,hl,hcell,hfr,hset⟩:=hy.at_ HV.out (k:=k) (by rw[HL2.out];exact hkl)
      injection hvv with e1 e2 e3
      subst e1 e2 e3
      have hw:IntKind.u8.wrap (1+(i:Int))=1+(i:Int):=by rw[IntKind.wrap_u8];omega
      have hw2:wrap64 ((k:Int)+1)=(k:Int)+1:=IntWalk.wrap64_in _ (by have:=HM0.out;omega)
      obtain⟨old,hold⟩:∃old,(C2 i)[k]? =some old:=⟨(C2 i)[k]'(by rw[HL2.out];exact hkl),List.getElem?_eq_getElem _⟩
      have kx:=hcell k old hold
      have fx:=hfr k
      have HSE:=hid (And.intro (HK2.out.cell hg (.inl rfl) hbs k (.int .u8 (1+(i:Int)))) (And.intro (hset (.int .u8 (1+(i:Int)))) (And.intro (HN2.out.Ib hg (by decide) k (.int .u8 (1+(i:Int)))) (HQ2.out.Ib hg (by decide) k (.int .u8 (1+(i:Int)))))))
      clear hcell hfr hset hg hold hl hbs hy
      go_upto_region 7 with(fail)
      as_aux_lemma=>
       go_wp2_with fail
       clear kb ky kx fx
       generalize wr.setCell (ad.add k) (.int .u8 (1+(i:Int)))=wz at HSE⊢
       go_roundw
       case rel=>
        refine⟨k+1,_,by omega,by go_num,HSE.out.1,HSE.out.2.1,HSE.out.2.2.1,HSE.out.2.2.2,by rw[kD,List.length_set];exact HL2.out,fun q hq=> ?_,fun q hq=> ?_⟩
        ·rw[upd_ne (by omega)]
         exact HA2.out.1 q hq
        ·rw[kD]
         by_cases hqk:q=k
         ·subst hqk
          rw[List.getElem?_set_self (by rw[HL2.out];exact hkl)]
         ·rw[List.getElem?_set_ne (by omega)]
          exact HA2.out.2 q (by omega)
       case measure=>first|exact jv hkl hw2|exact jw hkl
     ·have hkn:k=m0:=by omega
      subst hkn
      clear hy
      go_wp2_with fail
      go_roundw
      case rel=>
       refine⟨i+1,C2,by omega,by go_num,HK2.out,HY2.out,HN2.out,HQ2.out,fun q hq=> ?_⟩
       by_cases hqi:q=i
       ·subst hqi
        exact Ic (Nat.le_of_eq HL2.out) (fun q hq _=>HA2.out.2 q hq)
       ·exact HA2.out.1 q (by omega)
      case measure=>first|exact jv hlt (IntWalk.wrap64_in _ (by omega))|exact jw hlt
  ·have hie:i=Y.length:=by omega
   subst hie
   clear hlt hi
   go_upto_region 9 with(fail)
   clear kb
   go_loopw [5] (fun i wr=>∃(j:Nat) (C D:Nat→List Value),j≤N.length∧i= .int .i64 (j:Int)∧BK w wr b base (.slice Ay Y.length cy) (.slice An N.length cn) (.slice Aq Q.length cq) Y N Q∧Fam wr base 5 1 Y C0∧Fam wr base 9 1 N C∧Fam wr base 37 3 Q D∧(∀q,q<j→BN (C q) (.string (ofL [UInt8.ofNat (97+q),97])))∧∀q,q<j→Ie (D q) (.int .u64 (1+(q:Int)))) (fun i _=>N.length-(intOf i).toNat)
   case atStart=>exact⟨0,_,_,Nat.zero_le _,rfl,HK1.out,HY1.out,HN1.out,HQ1.out,fun q hq=>absurd hq (Nat.not_lt_zero _),fun q hq=>absurd hq (Nat.not_lt_zero _)⟩
   case round=>
    obtain⟨i,C,D,hi,rfl,hk,hy,hn,hq,hall,PE⟩:=hrel
    have HK2:=hid hk
    have HY2:=hid hy
    have HN2:=hid hn
    have HQ2:=hid hq
    have HA2:=hid (And.intro hall PE)
    clear HK1 HY1 HN1 HQ1 hall PE hy hn hq
    have kb:wr.cell? ⟨b,1,none⟩=some (.slice An N.length cn):=Blk.cell hk.k 1
    clear hk
    by_cases hlt:i<N.length
    ·obtain⟨v,hv⟩:∃v,N[i]? =some v:=⟨N[i],List.getElem?_eq_getElem hlt⟩
     obtain⟨u,hu⟩:∃u,Q[i]? =some u:=⟨Q[i]'(by rw[H3.out];exact hlt),List.getElem?_eq_getElem _⟩
     have HV:=hid hv
     have HU:=hid hu
     obtain⟨m0,hro⟩:=HN2.out.own i v hv
     obtain⟨Ar,cr,rfl,hmc,hcm⟩:=aJ hro
     obtain⟨m1,yh⟩:=HQ2.out.own i u hu
     obtain⟨Br,dr,rfl,hmc1,hcm1⟩:=aJ yh
     have HLR:=hid (show(C i).length=m0 from by rw[hro.1,Nat.mul_one])
     have WM:=hid yh.1
     have HM0:=hid (show m0≤9223372036854775807 from by unfold maxLen at hcm;omega)
     have HM1:=hid (show m1≤9223372036854775807 from by unfold maxLen at hcm1;omega)
     obtain⟨adn,hA, -⟩:=jr HK2.out.n hv
     subst hA
     obtain⟨adq,hA, -⟩:=jr HK2.out.q hu
     subst hA
     clear hro yh hv hu hmc hcm hmc1 hcm1
     go_upto_region 12 with(fail)
     clear kb
     go_loopw [6] (fun kk wx=>∃(k:Nat) (C2:Nat→List Value),k≤m0∧kk= .int .i64 (k:Int)∧BK w wx b base (.slice Ay Y.length cy) (.slice (some adn) N.length cn) (.slice (some adq) Q.length cq) Y N Q∧Fam wx base 5 1 Y C0∧Fam wx base 9 1 N C2∧Fam wx base 37 3 Q D∧(C2 i).length=m0∧(∀q,q<i→BN (C2 q) (.string (ofL [UInt8.ofNat (97+q),97])))∧∀q,q<k→(C2 i)[q]? =some (.string (ofL [UInt8.ofNat (97+i),97]))) (fun kk _=>m0-(intOf kk).toNat)
     case atStart=>exact⟨0,C,Nat.zero_le _,rfl,HK2.out,HY2.out,HN2.out,HQ2.out,HLR.out,HA2.out.1,fun q hq=>absurd hq (Nat.not_lt_zero _)⟩
     case round=>
      as_aux_lemma=>
       obtain⟨k,C2,hk,rfl,hbk,hy,hn,hq,hl2,hall,uz⟩:=hrel
       have HK3:=hid hbk
       have HY3:=hid hy
       have HN3:=hid hn
       have HQ3:=hid hq
       have HL3:=hid hl2
       have HA3:=hid (And.intro hall uz)
       clear HK2 HY2 HN2 HQ2 hall uz hl2
       have kb:wr.cell? ⟨b,1,none⟩=some (.slice (some adn) N.length cn):=Blk.cell hbk.k 1
       obtain⟨WJ,hA,ky⟩:=jr hbk.n HV.out
       injection hA with hA
       subst hA
       clear hbk hy hq hn
       by_cases hkl:k<m0
       ·go_upto_region 14 with(fail)
        clear kb ky
        as_aux_lemma=>
         obtain⟨Ec,hws⟩:∃s,s=ofL [UInt8.ofNat (97+i),97]:=⟨_,rfl⟩
         have HWC:=hid (show∀w,Calls Tryz.prog 50 #[.int .i64 (i:Int)] w fun e w'=>e= .returned (.string Ec)∧Below w.heap.size w w' from fun w=>by rw[hws];exact yc i (by omega) w)
         rw[←hws]at HA3
         have HWS:=hid hws
         clear hws
         have HKD:=HK3.out.new (aC wr)
         have HYD:=hid (HY3.out.new (aC wr))
         have HND:=hid (HN3.out.new (aC wr))
         have HQD:=hid (HQ3.out.new (aC wr))
         clear HK3 HY3 HN3 HQ3
         try simp only[Act.put]
         refine wp_region_held_drew (S:=fun wx=>BK w wx b base (.slice Ay Y.length cy) (.slice (some adn) N.length cn) (.slice (some adq) Q.length cq) Y N Q) (by kernel_rfl) HKD (fun hHeld=> ?_)
         clear HKD
         generalize wr.drew=wd at hHeld HYD HND HQD⊢
         refine tk 70 0 (.pointer (some ⟨b,0,none⟩)) ?_
         simp only[ah]
         refine tk 71 1 (.pointer (some ⟨b,0,none⟩)) ?_
         simp only[ah]
         refine tk 72 2 (.pointer (some ⟨b,1,none⟩)) ?_
         simp only[ah]
         refine tk2 73 3 (.slice (some adn) N.length cn) rfl (fun wq hSw=>by have kb:wq.cell? ⟨b,1,none⟩=some (.slice (some adn) N.length cn):=Blk.cell hSw.k 1;go_simp) ?_
         simp only[ah]
         refine tk 74 4 (.int .i64 (i:Int)) ?_
         simp only[ah]
         refine tk 75 5 (.pointer (some (adn.add i))) ?_
         simp only[ah]
         refine tk2 76 6 (.slice Ar m0 cr) rfl (fun wq hSw=>by obtain⟨ad',hA,ky⟩:=jr hSw.n HV.out;injection hA with hA;subst hA;go_simp) ?_
         simp only[ah]
         refine tk 77 7 (.int .i64 (k:Int)) ?_
         simp only[ah]
         refine tk 78 8 (.int .i64 (i:Int)) ?_
         simp only[ah]
         refine wpAnyH_ready (rs:=[9]) (by kernel_rfl) (by simp) ?_
         refine AllReadyH.cons rfl (fun K hK=> ?_) AllReadyH.nil
         rw[if_pos (by rfl)]
         go_simp
         refine(HWC.out wd).mono ?_
         rintro e wf ⟨rfl,hb⟩
         dsimp only
         have hbk:=hHeld.new hb
         have HYF:=hid (HYD.out.new hb)
         have HNF:=HND.out.new hb
         have HQF:=hid (HQD.out.new hb)
         clear HYD HND HQD hHeld hb
         refine hK.out _ _ hbk (fun hHeld=> ?_)
         clear hK hbk
         obtain⟨ad,n,c,hvv,hbs,hg,hl,hcell,hfr,hset⟩:=HNF.at_ HV.out (k:=k) (by rw[HL3.out];exact hkl)
         injection hvv with e1 e2 e3
         subst e1 e2 e3
         obtain⟨old,hold⟩:∃old,(C2 i)[k]? =some old:=⟨(C2 i)[k]'(by rw[HL3.out];exact hkl),List.getElem?_eq_getElem _⟩
         have kx:=hcell k old hold
         have fx:=hfr k
         have hoff:Off (fun i=>i=ad.block) wf (wf.setCell (ad.add k) (.string Ec)):=(Off.refl (fun i=>i=ad.block) wf).setCell (p:=ad.add k) (qg ad k) _
         have HSE:=hid (And.intro (HYF.out.BM hoff hg (by decide)) (And.intro (hset (.string Ec)) (HQF.out.BM hoff hg (by decide))))
         have hbk:=hHeld.BM hoff hg (.inr (.inl rfl)) hbs
         clear hcell hfr hset hg hold hl hbs HNF HYF HQF hoff
         refine tk 80 10 (.pointer (some (ad.add k))) ?_
         simp only[ah]
         refine wpAnyH_ready (rs:=[11]) (by kernel_rfl) (by simp) ?_
         refine AllReadyH.cons rfl (fun K hK=> ?_) AllReadyH.nil
         rw[if_pos (by rfl)]
         go_simp
         refine hK.out _ _ hbk (fun cO=> ?_)
         clear hK cO hHeld kx fx
         have HBK:=hid hbk
         clear hbk
         generalize wf.setCell (ad.add k) (.string Ec)=wz at HSE HBK⊢
         refine wpAnyH_done (by kernel_rfl) ?_ _
         have hw2:wrap64 ((k:Int)+1)=(k:Int)+1:=IntWalk.wrap64_in _ (by have:=HM0.out;omega)
         go_wp2_with fail
         go_roundw
         case rel=>
          refine⟨k+1,_,hkl,by go_num,HBK.out,HSE.out.1,HSE.out.2.1,HSE.out.2.2,by rw[kD,List.length_set];exact HL3.out,fun q hq=> ?_,fun q hq=> ?_⟩
          ·rw[upd_ne (Nat.ne_of_lt hq)]
           exact HA3.out.1 q hq
          ·rw[kD,←HWS.out]
           by_cases hqk:q=k
           ·subst hqk
            rw[List.getElem?_set_self (by rw[HL3.out];exact hkl)]
           ·rw[List.getElem?_set_ne (Ne.symm hqk)]
            exact HA3.out.2 q (Nat.lt_of_le_of_ne (Nat.le_of_lt_succ hq) hqk)
         case measure=>first|exact jv hkl hw2|exact jw hkl
       ·have hkn:k=m0:=by omega
        subst hkn
        have HAA:=hid (show BN (C2 i) (.string (ofL [UInt8.ofNat (97+i),97]))from Ic (Nat.le_of_eq HL3.out) (fun q hq _=>HA3.out.2 q hq))
        have HAB:=hid HA3.out.1
        clear HA3 HL3 HM0
        go_upto_region 16 with(fail)
        clear kb ky hkl
        go_loopw [7] (fun kk wx=>∃(k:Nat) (D2:Nat→List Value),k≤m1∧kk= .int .i64 (k:Int)∧BK w wx b base (.slice Ay Y.length cy) (.slice (some adn) N.length cn) (.slice (some adq) Q.length cq) Y N Q∧Fam wx base 5 1 Y C0∧Fam wx base 9 1 N C2∧Fam wx base 37 3 Q D2∧(D2 i).length=m1*3∧(∀q,q<i→Ie (D2 q) (.int .u64 (1+(q:Int))))∧∀q,q<k→(D2 i)[q*3+2]? =some (.int .u64 (1+(i:Int)))) (fun kk _=>m1-(intOf kk).toNat)
        case atStart=>exact⟨0,D,Nat.zero_le _,rfl,HK3.out,HY3.out,HN3.out,HQ3.out,WM.out,HA2.out.2,fun q hq=>absurd hq (Nat.not_lt_zero _)⟩
        case round=>
         as_aux_lemma=>
          obtain⟨k,D2,hk,rfl,hbk,hy,hn,hq,hl2,hall,uz⟩:=hrel
          have HK4:=hid hbk
          have HY4:=hid hy
          have HN4:=hid hn
          have HQ4:=hid hq
          have HL4:=hid hl2
          have HA4:=hid (And.intro hall uz)
          clear HK3 HY3 HN3 HQ3 hall uz hl2
          have kb:wr.cell? ⟨b,2,none⟩=some (.slice (some adq) Q.length cq):=Blk.cell hbk.k 2
          have hiq:i<Q.length:=by have:=H3.out;omega
          obtain⟨WL,hA,ky⟩:=jr hbk.q HU.out
          injection hA with hA
          subst hA
          clear hbk hy hn
          by_cases hkl:k<m1
          ·obtain⟨ad,n,c,hvv,hbs,hap,hg,hl,hth, -,hset⟩:=hq.at3 HU.out (k:=k) (by rw[HL4.out];omega)
           injection hvv with e1 e2 e3
           subst e1 e2 e3
           have HAP:=hid hap
           have HTH:=hid hth
           have hw:IntKind.u64.wrap (1+(i:Int))=1+(i:Int):=by rw[IntKind.wrap_u64];omega
           have hw2:wrap64 ((k:Int)+1)=(k:Int)+1:=IntWalk.wrap64_in _ (by have:=HM1.out;omega)
           have hoff:=yS wr ad.block (k*3) (.int .u8 0) (.int .u32 0) (.int .u64 (1+(i:Int)))
           have HSE:=hid (And.intro (HK4.out.BM hoff hg (.inr (.inr rfl)) hbs) (And.intro (HY4.out.BM hoff hg (by decide)) (And.intro (HN4.out.BM hoff hg (by decide)) (hset (.int .u8 0) (.int .u32 0) (.int .u64 (1+(i:Int)))))))
           clear hset hg hl hbs hq hoff hap hth
           go_upto_region 18 with(fail)
           as_aux_lemma=>
            go_wp2_with(refine WH (v0:= .int .u8 0) (v1:= .int .u32 0) (v2:= .int .u64 (1+(i:Int))) HAP.out HTH.out rfl _ _ rfl rfl rfl (WI ..) ?_;generalize wr.setCells ad.block (k*3) [.int .u8 0,.int .u32 0,.int .u64 (1+(i:Int))]=wz at HSE⊢)
            clear kb ky
            go_roundw
            case rel=>
             refine⟨k+1,_,hkl,by go_num,HSE.out.1,HSE.out.2.1,HSE.out.2.2.1,HSE.out.2.2.2,by rw[kD,List.length_set,List.length_set,List.length_set];exact HL4.out,fun q hq=> ?_,fun q hq=> ?_⟩
             ·rw[upd_ne (Nat.ne_of_lt hq)]
              exact HA4.out.1 q hq
             ·rw[kD]
              exact O8 HL4.out hkl HA4.out.2 q hq
            case measure=>first|exact jv hkl hw2|exact jw hkl
          ·have hkn:k=m1:=by omega
           subst hkn
           clear hq
           go_wp2_with fail
           go_roundw
           case rel=>
            refine⟨i+1,C2,D2,hlt,by go_num,HK4.out,HY4.out,HN4.out,HQ4.out,fun q hq=> ?_,fun q hq=> ?_⟩
            ·rcases Nat.lt_or_eq_of_le (Nat.le_of_lt_succ hq)with hq|rfl
             ·exact HAB.out q hq
             ·exact HAA.out
            ·rcases Nat.lt_or_eq_of_le (Nat.le_of_lt_succ hq)with hq|rfl
             ·exact HA4.out.1 q hq
             ·exact O9 HL4.out HA4.out.2
           case measure=>first|exact jv hlt (IntWalk.wrap64_in _ (by omega))|exact jw hlt
    ·have hie:i=N.length:=by omega
     subst hie
     clear hlt hi
     obtain⟨h0,hh0⟩:∃h0,h0=wr.heap.size:=⟨_,rfl⟩
     have HH0:=hid (Nat.le_of_eq hh0)
     have HYH:=hid (show∀(j:Nat) (u:Value) (g:Nat),Y[j]? =some u→u.ownBlock=some g→g<h0 from fun j u g hu hg=>by obtain⟨n,hr⟩:=HY2.out.own j u hu;rw[hh0];exact(hr.lt g hg).2)
     have HNH:=hid (show∀(j:Nat) (u:Value) (g:Nat),N[j]? =some u→u.ownBlock=some g→g<h0 from fun j u g hu hg=>by obtain⟨n,hr⟩:=HN2.out.own j u hu;rw[hh0];exact(hr.lt g hg).2)
     have HQH:=hid (show∀(j:Nat) (u:Value) (g:Nat),Q[j]? =some u→u.ownBlock=some g→g<h0 from fun j u g hu hg=>by obtain⟨n,hr⟩:=HQ2.out.own j u hu;rw[hh0];exact(hr.lt g hg).2)
     have HBH:=hid (show b<h0∧base≤h0∧∀(v:Value) (g:Nat),v= .slice Ay Y.length cy∨v= .slice An N.length cn∨v= .slice Aq Q.length cq→v.ownBlock=some g→g<h0 from by
      rw[hh0]
      refine⟨Blk.lt HK2.out.k,HK2.out.size,fun v g hv hg=> ?_⟩
      rcases hv with rfl|rfl|rfl
      ·exact(HK2.out.y.lt g hg).2
      ·exact(HK2.out.n.lt g hg).2
      ·exact(HK2.out.q.lt g hg).2)
     clear hh0
     go_upto_region 21 with(fail)
     clear kb
     go_loopw [8,9] (fun v i wx=>∃(j:Nat) (M:List Value) (Am:Option Addr) (cm:Nat),j≤Y.length∧M.length=j∧i= .int .i64 (j:Int)∧v= .slice Am j cm∧(BK w wx b base (.slice Ay Y.length cy) (.slice An N.length cn) (.slice Aq Q.length cq) Y N Q)∧(Fam wx base 5 1 Y C0∧Fam wx base 9 1 N C∧Fam wx base 37 3 Q D)∧wx.ownsRow h0 22 1 (.slice Am j cm) j M∧lH wx base h0 Y M C0 (fun q=>List.replicate 64 (.int .u8 (101+(q:Int))))∧h0≤wx.heap.size) (fun _ i _=>Y.length-(intOf i).toNat)
     case atStart=>exact⟨0,[],none,0,Nat.zero_le _,rfl,rfl,rfl,HK2.out,⟨HY2.out,HN2.out,HQ2.out⟩,dS _ _ _ _,fun q u y hu=>by simp at hu,HH0.out⟩
     case round=>
      obtain⟨i,M,Am,cm,hi,hml,rfl,rfl,hbk,⟨hy,hn,hq⟩,hm,hms,hsz⟩:=hrel
      have HK3:=hid hbk
      have HF3:=hid (And.intro hy (And.intro hn hq))
      have HM3:=hid (And.intro hm hms)
      have HML:=hid hml
      have HSZ:=hid hsz
      have kb:wr.cell? ⟨b,0,none⟩=some (.slice Ay Y.length cy):=Blk.cell hbk.k 0
      clear HK2 HY2 HN2 HQ2 HH0 hy hn hq hm hms hml hsz hbk
      by_cases hlt:i<Y.length
      ·obtain⟨v,hv⟩:∃v,Y[i]? =some v:=⟨Y[i],List.getElem?_eq_getElem hlt⟩
       have HV:=hid hv
       obtain⟨ady,hA,ky⟩:=jr HK3.out.y hv
       subst hA
       obtain⟨m0,hro⟩:=HF3.out.1.own i v hv
       obtain⟨Ar,cr,rfl, -⟩:=aJ hro
       have HRO:=hid hro
       have HM0:=hid (HLN.out _ (List.mem_append_left _ (List.mem_append_left _ (List.mem_of_getElem? hv))) _ _ _ rfl)
       obtain⟨h1,hh1⟩:∃h1,h1=wr.heap.size:=⟨_,rfl⟩
       have HH1:=hid (show h0≤h1 from by rw[hh1];exact HSZ.out)
       have Uz:=hid (Nat.le_of_eq hh1)
       have HMH:=hid (show∀(j:Nat) (u:Value) (g:Nat),M[j]? =some u→u.ownBlock=some g→g<h1 from fun j u g hu hg=>by
        obtain⟨y,hy⟩:∃y,Y[j]? =some y:=⟨_,List.getElem?_eq_getElem (by have:=(List.getElem?_eq_some_iff.1 hu).1;have:=HML.out;omega)⟩
        obtain⟨⟨n,hr⟩, -⟩:=HM3.out.2 j u y hu hy
        rw[hh1]
        exact(hr.lt g hg).2)
       have HW0:=hid (show r_ (.slice Ar m0 cr) (.slice Ar m0 cr) h1 from by
        rcases hro.2 with⟨e,rfl⟩|⟨g,cap,cur,e, -⟩
        ·rw[e];exact .inr fun g hg=>by cases hg
        ·rw[e];exact .inl ⟨g,m0,m0,cap,rfl,rfl⟩)
       clear hro hv hh1
       go_upto_region 25 with(fail)
       clear kb ky
       go_loopw [10,11] (fun l kk wx=>∃(k:Nat) (A:Option Addr) (c:Nat),k≤64∧kk= .int .i64 (k:Int)∧l= .slice A (m0+k) c∧(BK w wx b base (.slice (some ady) Y.length cy) (.slice An N.length cn) (.slice Aq Q.length cq) Y N Q)∧(Fam wx base 5 1 Y C0∧Fam wx base 9 1 N C∧Fam wx base 37 3 Q D)∧wx.ownsRow h0 22 1 (.slice Am i cm) i M∧lH wx base h0 Y M C0 (fun q=>List.replicate 64 (.int .u8 (101+(q:Int))))∧wx.ownsRow base 5 1 (.slice A (m0+k) c) (m0+k) (C0 i++List.replicate k (.int .u8 (101+(i:Int))))∧r_ (.slice Ar m0 cr) (.slice A (m0+k) c) h1∧h1≤wx.heap.size) (fun _ kk _=>64-(intOf kk).toNat)
       case atStart=>exact⟨0,Ar,cr,Nat.zero_le _,rfl,rfl,HK3.out,HF3.out,HM3.out.1,HM3.out.2,by rw[List.replicate_zero,List.append_nil];exact HRO.out,HW0.out,Uz.out⟩
       case round=>
        as_aux_lemma=>
         obtain⟨k,A,c,hk,rfl,rfl,hbk,hf,hm,hms,hlr,Ig,hsz1⟩:=hrel
         clear HK3 HF3 HM3 HW0 HRO Uz
         by_cases hkl:k<64
         ·have hup:Below wr.heap.size wr (wr.alloc (.cells #[.int .u8 (101+(i:Int))] 5)):=(Below.refl _ _).alloc (Nat.le_refl _) _
          have HK5:=hid (hbk.new hup)
          have HF5:=hid (And.intro (hf.1.new hup) (And.intro (hf.2.1.new hup) (hf.2.2.new hup)))
          have HM5:=hid (aI hm hup)
          have Rx:=hid (hms.new hup)
          have HL5:=hid (aI hlr hup)
          have HWE:=hid Ig
          have HB5:=hid (Blk.new wr 5 [.int .u8 (101+(i:Int))].toArray)
          have Np:=hid (Nat.le_trans hsz1 hup.size)
          have WO:=hid (show base≤(wr.alloc (.cells #[.int .u8 (101+(i:Int))] 5)).heap.size from Nat.le_trans hbk.size hup.size)
          have HMK:=hid (show m0+k≤20000000 from by have:=HM0.out;omega)
          clear hup hbk hf hm hms hlr Ig hsz1
          have hw:IntKind.u8.wrap (101+(i:Int))=101+(i:Int):=by rw[IntKind.wrap_u8];omega
          have hw3:wrap64 (101+(i:Int))=101+(i:Int):=IntWalk.wrap64_in _ (by omega)
          have hw2:wrap64 ((k:Int)+1)=(k:Int)+1:=IntWalk.wrap64_in _ (by omega)
          go_wp2_with(at_builtin;refine yg 22 5 (.int .u8 0) 1 1 (by decide) (by decide) rfl Tryz.underlying22 mF (.tmp 126) (.tmp 130) rfl rfl base _ (m0+k) _ rfl HL5.out wr.heap.size 1 [.int .u8 (101+(i:Int))] rfl HB5.out rfl Ia HMK.out WO.out ?_;intro v4 w4 hown hgr hc;obtain⟨A4,c4,rfl, -⟩:=aJ hown;have HX:=hid (And.intro hown (And.intro hgr hc));clear hown hgr hc)
          go_roundw
          case rel=>
           obtain⟨hown,hgr,hc⟩:=HX.out
           have ho:=(Off.refl (fun i=>(Value.slice A (m0+k) c).ownBlock=some i) (wr.alloc (.cells #[.int .u8 (101+(i:Int))] 5))).grown hgr (fun g hg=>hg)
           have hown2:w4.ownsRow base 5 1 (.slice A4 (m0+k+1) c4) (m0+k+1) (C0 i++List.replicate (k+1) (.int .u8 (101+(i:Int)))):=by
            rw[List.replicate_succ',←List.append_assoc]
            exact hown
           refine⟨k+1,A4,c4,hkl,by go_num,rfl,HK5.out.grow HL5.out (.inl rfl) (Nat.le_refl _) hgr,⟨HF5.out.1.grow HV.out HL5.out HWE.out (fun j u g hu hg=>Nat.lt_of_lt_of_le (HYH.out j u g hu hg) HH1.out) hown2 hgr (hc.imp id And.right),HF5.out.2.1.off ho (bZ HL5.out (by decide)),HF5.out.2.2.off ho (bZ HL5.out (by decide))⟩,HM5.out.kept hgr (fC HM5.out HL5.out (by decide)),Rx.out.grow HV.out (Nat.le_of_eq HML.out) HF5.out.1.apart HYH.out HMH.out HWE.out hgr,hown2,HWE.out.next Np.out hc,Nat.le_trans Np.out ho.size⟩
          case measure=>first|exact jv hkl hw2|exact jw hkl
         ·have hkn:k=64:=by omega
          subst hkn
          have hup:Below wr.heap.size wr (wr.alloc (.cells #[.slice A (m0+64) c] 22)):=(Below.refl _ _).alloc (Nat.le_refl _) _
          have HK5:=hid (hbk.new hup)
          have HF5:=hid (And.intro (hf.1.new hup) (And.intro (hf.2.1.new hup) (hf.2.2.new hup)))
          have HM5:=hid (aI hm hup)
          have Rx:=hid (hms.new hup)
          have HL5:=hid (aI hlr hup)
          have HWE:=hid (Ig.mono HH1.out)
          have HB5:=hid (Blk.new wr 22 [Value.slice A (m0+64) c].toArray)
          have Np:=hid (Nat.le_trans HH1.out (Nat.le_trans hsz1 hup.size))
          clear hup hbk hf hm hms hlr Ig hsz1
          go_wp2_with(at_builtin;refine yg 25 22 (.slice none 0 0) 1 24 (by decide) (by decide) rfl Tryz.underlying25 x9 (.tmp 132) (.tmp 134) rfl rfl h0 _ i _ rfl HM5.out wr.heap.size 1 [.slice A (m0+64) c] rfl HB5.out rfl Rw (by omega) Np.out ?_;intro v4 w4 hown hgr hc;obtain⟨A4,c4,rfl, -⟩:=aJ hown;have HX:=hid (And.intro hown hgr);clear hown hgr hc)
          go_roundw
          case rel=>
           obtain⟨hown,hgr⟩:=HX.out
           have hM5:=HM5.out
           have ho:=(Off.refl (fun k=>(Value.slice Am i cm).ownBlock=some k) (wr.alloc (.cells #[.slice A (m0+64) c] 22))).grown hgr (fun g hg=>hg)
           have hml:=HML.out
           refine⟨i+1,M++[.slice A (m0+64) c],A4,c4,hlt,by rw[List.length_append,hml];rfl,by go_num,rfl,HK5.out.far ho (fun k hk=>dH hM5 k hk) HBH.out.1 HBH.out.2.1 HBH.out.2.2,⟨HF5.out.1.off ho (bZ hM5 (by decide)),HF5.out.2.1.off ho (bZ hM5 (by decide)),HF5.out.2.2.off ho (bZ hM5 (by decide))⟩,hown, ?_,Nat.le_trans Np.out ho.size⟩
           refine(Rx.out.off ho (bZ hM5 (by decide))).snoc (n:=m0+64) ?_ ?_
           ·rw[hml]
            exact HL5.out.kept hgr (fC HL5.out hM5 (by decide))
           ·rw[hml]
            intro y hy
            have hv:=HV.out
            rw[hv]at hy
            obtain rfl:=Option.some.inj hy
            exact HWE.out
          case measure=>first|exact jv hlt (IntWalk.wrap64_in _ (by omega))|exact jw hlt
      ·have hie:i=Y.length:=by omega
       subst hie
       clear hlt hi
       go_upto_region 30 with(fail)
       clear kb
       go_loopw [12] (fun i wx=>∃j:Nat,j≤N.length∧i= .int .i64 (j:Int)∧(BK w wx b base (.slice Ay Y.length cy) (.slice An N.length cn) (.slice Aq Q.length cq) Y N Q)∧(Fam wx base 5 1 Y C0∧Fam wx base 9 1 N C∧Fam wx base 37 3 Q D)∧wx.ownsRow h0 22 1 (.slice Am Y.length cm) Y.length M∧lH wx base h0 Y M C0 (fun q=>List.replicate 64 (.int .u8 (101+(q:Int))))∧h0≤wx.heap.size) (fun i _=>N.length-(intOf i).toNat)
       case atStart=>exact⟨0,Nat.zero_le _,rfl,HK3.out,HF3.out,HM3.out.1,HM3.out.2,HSZ.out⟩
       case round=>
        obtain⟨i,hi,rfl,hbk,hf,hm,hms,hsz⟩:=hrel
        have HK4:=hid hbk
        have HF4:=hid hf
        have HM4:=hid (And.intro hm hms)
        have jG:=hid hsz
        clear HK3 HF3 HM3 HSZ hf hm hms hsz
        have kb:wr.cell? ⟨b,1,none⟩=some (.slice An N.length cn):=Blk.cell hbk.k 1
        have kb2:wr.cell? ⟨b,2,none⟩=some (.slice Aq Q.length cq):=Blk.cell hbk.k 2
        clear hbk
        by_cases hlt:i<N.length
        ·obtain⟨v,hv⟩:∃v,N[i]? =some v:=⟨N[i],List.getElem?_eq_getElem hlt⟩
         have hiq:i<Q.length:=by have:=H3.out;omega
         obtain⟨u,hu⟩:∃u,Q[i]? =some u:=⟨Q[i],List.getElem?_eq_getElem hiq⟩
         have HV:=hid hv
         have HU:=hid hu
         obtain⟨adn,hA,ky⟩:=jr HK4.out.n hv
         subst hA
         obtain⟨adq,hA,kq⟩:=jr HK4.out.q hu
         subst hA
         obtain⟨m0,hro⟩:=HF4.out.2.1.own i v hv
         obtain⟨Ar,cr,rfl, -⟩:=aJ hro
         obtain⟨m1,yh⟩:=HF4.out.2.2.own i u hu
         obtain⟨Br,dr,rfl, -⟩:=aJ yh
         have WQ:=hid (And.intro (HLN.out _ (List.mem_append_left _ (List.mem_append_right _ (List.mem_of_getElem? hv))) _ _ _ rfl) (HLN.out _ (List.mem_append_right _ (List.mem_of_getElem? hu)) _ _ _ rfl))
         obtain⟨h1,hh1⟩:∃h1,h1=wr.heap.size:=⟨_,rfl⟩
         have HH1:=hid (show h0≤h1 from by rw[hh1];exact jG.out)
         have HP:=hid (show P4 w wr b base h0 h1 (.slice Ay Y.length cy) (.slice (some adn) N.length cn) (.slice (some adq) Q.length cq) (.slice Am Y.length cm) (.slice Ar m0 cr) (.slice Br m1 dr) Y N Q M C0 C D (fun q=>List.replicate 64 (.int .u8 (101+(q:Int)))) i m0 m1 (.slice Ar m0 cr) (.slice Br m1 dr) [] []from⟨HK4.out,HF4.out,HM4.out,by rw[List.append_nil];exact hro,by rw[List.append_nil];exact yh,zW hro h1,zW yh h1,Nat.le_of_eq hh1⟩)
         clear hro yh hv hu hh1 HK4 HF4 HM4 jG
         go_upto_region 35 with(fail)
         clear kb kb2 ky kq hiq
         go_loopw [13,14,15] (fun l q kk wx=>∃(k n m c d:Nat) (A B:Option Addr) (zs xs:List Value),k≤16∧kk= .int .i64 (k:Int)∧l= .slice A n c∧q= .slice B m d∧(n≤16777216+k∧m≤16777216+k)∧P4 w wx b base h0 h1 (.slice Ay Y.length cy) (.slice (some adn) N.length cn) (.slice (some adq) Q.length cq) (.slice Am Y.length cm) (.slice Ar m0 cr) (.slice Br m1 dr) Y N Q M C0 C D (fun q=>List.replicate 64 (.int .u8 (101+(q:Int)))) i n m (.slice A n c) (.slice B m d) zs xs) (fun _ _ kk _=>16-(intOf kk).toNat)
         case atStart=>exact⟨0,m0,m1,cr,dr,Ar,Br,[],[],Nat.zero_le _,rfl,rfl,rfl,WQ.out,HP.out⟩
         case round=>
          as_aux_lemma=>
           obtain⟨k,n,m,c,d,A,B,zs,xs,hk,rfl,rfl,rfl,hnm,hp⟩:=hrel
           clear HP
           have HNM:=hid hnm
           by_cases hkl:k<16
           ·have HP5:=hid (hp.new ((Below.refl wr.heap.size wr).alloc (Nat.le_refl _) (.cells #[.string ⟨#[109,111,114,101]⟩] 9)))
            have HB5:=hid (Blk.new wr 9 [Value.string ⟨#[109,111,114,101]⟩].toArray)
            have HMK:=hid (show n≤20000000∧m≤20000000 from by omega)
            have hw2:wrap64 ((k:Int)+1)=(k:Int)+1:=IntWalk.wrap64_in _ (by omega)
            clear hp hnm
            go_wp2_with(first|(at_builtin;refine yg 33 9 (.string ⟨#[]⟩) 1 16 (by decide) (by decide) rfl Tryz.underlying33 Gq (.tmp 163) (.tmp 164) rfl rfl base _ n _ rfl HP5.out.ol wr.heap.size 1 [.string ⟨#[109,111,114,101]⟩] rfl HB5.out rfl O7 HMK.out.1 HP5.out.k.size ?_;intro v4 w4 hown hgr hc;obtain⟨A4,c4,rfl, -⟩:=aJ hown;have HP6:=hid ((HP5.out.Uw HV.out HNH.out HH1.out hown hgr hc).new ((Below.refl w4.heap.size w4).alloc (Nat.le_refl _) (.cells #[.int .u8 0,.int .u32 0,.int .u64 99] 37)));have HB6:=hid (Blk.new w4 37 [.int .u8 0,.int .u32 0,Value.int .u64 99].toArray);clear hown hgr hc HP5 HB5)|(at_builtin;refine yg 34 37 (.agg #[.int .u8 0,.int .u32 0,.int .u64 0]) 3 16 (by decide) (by decide) rfl Tryz.underlying34 BR (.tmp 166) (.tmp 168) rfl rfl base _ m _ rfl HP6.out.oq w4.heap.size 1 [.int .u8 0,.int .u32 0,.int .u64 99] rfl HB6.out rfl Uu HMK.out.2 HP6.out.k.size ?_;intro v6 w6 hown hgr hc;obtain⟨A6,c6,rfl, -⟩:=aJ hown;have HP7:=hid (HP6.out.Ux HU.out HQH.out HH1.out hown hgr hc);clear hown hgr hc HP6 HB6))
            go_roundw
            case rel=>exact⟨k+1,n+1,m+1,c4,c6,A4,A6,_,_,hkl,by go_num,rfl,rfl,⟨by have:=HNM.out;omega,by have:=HNM.out;omega⟩,HP7.out⟩
            case measure=>first|exact jv hkl hw2|exact jw hkl
           ·have HP8:=hid hp
            clear hp hnm
            go_wp2_with fail
            go_roundw
            case rel=>exact⟨i+1,hlt,by go_num,HP8.out.k,HP8.out.f,HP8.out.r.1,HP8.out.r.2,Nat.le_trans HH1.out HP8.out.sz⟩
            case measure=>first|exact jv hlt (IntWalk.wrap64_in _ (by omega))|exact jw hlt
        ·go_upto_region 39 with(fail)
         have HRS:=hid (show RS wr b base h0 (.slice Ay Y.length cy) (.slice An N.length cn) (.slice Aq Q.length cq) (.slice Am Y.length cm) Y N Q M C0 C D from⟨⟨HK4.out.k,HK4.out.y,HK4.out.n,HK4.out.q,Below.refl _ _,HK4.out.bb⟩,HF4.out.1,HF4.out.2.1,HF4.out.2.2,HM4.out.1,HM4.out.2,HA1.out,HA2.out.1,fun q hq=>HA2.out.2 q (by have:=H3.out;omega)⟩)
         have HBF:=hid HK4.out.up
         have HBS:=hid HK4.out.size
         clear kb kb2 HK4 HF4 HM4 HA1 HA2
         go_wp2_with fail
         refine(Eb HRS.out h1 h2 H3.out).mono ?_
         rintro e wf ⟨rfl,hb⟩
         have HBG:=hid (HBF.out.trans (hb.mono HBS.out))
         clear hb
         go_wp2_with fail
         exact bodyPost_ret (v:= .bool true) (by simp[results,Tryz.results18]) rfl ⟨rfl,HBG.out⟩
end Go.Proofs.YtkblmloobkiloaaGreatDoor
namespace Go.Proofs.YtkblmloobkiloaaGreatDoor
open Go.Lib (hid)
open Go.RowKit Go.ChangeShapes Go.WideShapes
section
variable {H:Type} {enc:TypeId×Value→H} {w:World} {base:Nat} {held:Bool} {fuel:Nat}
end
end Go.Proofs.YtkblmloobkiloaaGreatDoor
namespace Go.Proofs.YtkblmloobkiloaaGreatDoor
open Go.Lib (hid)
open Go.ChangeShapes Go.WideShapes Go.ChangeAt Go.RowKit
section
variable {P:Program} {w:World} {r:Reach} {b0:Nat} {t:TypeId} {c:Value}
end
section
variable {H:Type} {enc:TypeId×Value→H} {P:Program} {w:World} {base fuel:Nat} {spare:Nat→Bool} {held:Bool} {t:TypeId} {cs:List Value} {x:DataW H×List MemPlace}
end
section
variable {H:Type} {enc:TypeId×Value→H} {w:World} {base:Nat} {held:Bool} {fuel:Nat}
instance:Inhabited Qd:=⟨⟨0,0,0⟩⟩
end
end Go.Proofs.YtkblmloobkiloaaGreatDoor
namespace Go.Proofs.YtkblmloobkiloaaGreatDoor
open Go.Lib (hid)
open Go.RowKit
structure BkW(w0 w:World)(b j:Nat):Prop where
 up:Below w0.heap.size w0 w
 bb:w0.heap.size≤b
 ex:∃Y N Q CY CN CQ,BkS w b b Y N Q∧Fam w b 5 1 Y CY∧Fam w b 9 1 N CN∧Fam w b 37 3 Q CQ∧(Y.length=j∧N.length=j∧Q.length=j)∧∀(v:Value),v∈Y++N++Q→∀A n c,v= .slice A n c→n≤16777216
theorem BkW.new{w0 w w':World}{b j:Nat}(h:BkW w0 w b j)(hb:Below w.heap.size w w'):BkW w0 w' b j:=by
 obtain⟨h1,h2,Y,N,Q,CY,CN,CQ,⟨vy,vn,vq,k1,k2,k3,k4⟩,f1,f2,f3,hl,hs⟩:=h
 exact⟨h1.trans (hb.mono h1.size),h2,Y,N,Q,CY,CN,CQ,⟨vy,vn,vq,Blk.below k1 hb (Blk.lt k1),aI k2 hb,aI k3 hb,aI k4 hb⟩,f1.new hb,f2.new hb,f3.new hb,hl,hs⟩
theorem BkW.start{w0 w:World}(h:Below w0.heap.size w0 w):BkW w0 (w.alloc (.cells #[.slice none 0 0,.slice none 0 0,.slice none 0 0] 29)) w.heap.size 0:=
 ⟨h.alloc h.size _,h.size,[],[],[],fun _=>[],fun _=>[],fun _=>[],⟨_,_,_,Blk.new w _ _,dS _ _ _ _,dS _ _ _ _,dS _ _ _ _⟩,Fam.nil_ ..,Fam.nil_ ..,Fam.nil_ ..,⟨rfl,rfl,rfl⟩,fun v hv=>by simp at hv⟩
theorem Nr{w0 wd w:World}{b j:Nat}{m:Mg}{An Aq Ad:Option Addr}{nn cn nq cq nd cd:Nat}(h:BkW w0 wd b j)(hj:j≤1000)(hw:BkW w0 w b j)(hb:Below wd.heap.size wd w)(ho:OL w wd.heap.size m (.slice An nn cn) (.slice Aq nq cq) (.slice Ad nd cd))(hs:nn≤16777216∧nq≤16777216∧nd≤16777216):
  Calls Tryz.prog 16 #[.pointer (some ⟨b,0,none⟩),iM m (.slice An nn cn) (.slice Aq nq cq) (.slice Ad nd cd)] w fun e w'=>e= .returned (.tuple #[])∧BkW w0 w' b (j+1)∧f_ b w w':=by
 obtain⟨-,hbb,Y,N,Q,CY,CN,CQ,hk,f1,f2,f3,⟨hy,hn,hq⟩,hsh⟩:=h
 have hup:=hw.up
 have bsz:b<wd.heap.size:=by obtain⟨_,_,_,k, -⟩:=hk;exact Blk.lt k
 have hk2:BkS w b b Y N Q:=by
  obtain⟨vy,vn,vq,k1,k2,k3,k4⟩:=hk
  exact⟨vy,vn,vq,Blk.below k1 hb (Blk.lt k1),aI k2 hb,aI k3 hb,aI k4 hb⟩
 have far:∀ {e:TypeId} {s:Nat} {vs:List Value} {C:Nat→List Value},Fam wd b e s vs C→∀ {u:Value} {n s2:Nat} {e2:TypeId} {xs:List Value},w.ownsRow wd.heap.size e2 s2 u n xs→∀(i:Nat) (v:Value) (g:Nat),vs[i]? =some v→v.ownBlock=some g→u.ownBlock≠some g:=fun hf u n s2 e2 xs hr i v g hv hg hu=>by
  obtain⟨n',hr'⟩:=hf.own i v hv
  have h1:=(hr'.lt g hg).2
  have h2:=dH hr g hu
  omega
 have g1:=(f1.new hb).snoc (iw ho.d (Nat.le_of_lt bsz)) (far f1 ho.d)
 have g2:=(f2.new hb).snoc (iw ho.n (Nat.le_of_lt bsz)) (far f2 ho.n)
 have g3:=(f3.new hb).snoc (iw ho.q (Nat.le_of_lt bsz)) (far f3 ho.q)
 refine(Ea (Nat.le_refl b) hk2 (by omega) (by omega) (by omega)).mono ?_
 rintro e w' ⟨rfl,hk',hr⟩
 have fam:∀ {e:TypeId} {s:Nat} {vs:List Value} {C:Nat→List Value},(e=5∨e=9∨e=37)→Fam w b e s vs C→Fam w' b e s vs C:=fun he hf=>⟨fun i v hv=>by obtain⟨n,hr'⟩:=hf.own i v hv;exact⟨n,hr.r _ _ _ _ _ _ he hr'⟩,hf.apart⟩
 refine⟨rfl,⟨hup.trans (hr.b.mono hbb),hbb,_,_,_,_,_,_,hk',fam (.inl rfl) g1,fam (.inr (.inl rfl)) g2,fam (.inr (.inr rfl)) g3,⟨by rw[List.length_append,hy];rfl,by rw[List.length_append,hn];rfl,by rw[List.length_append,hq];rfl⟩, ?_⟩,hr⟩
 intro v hv A n c e
 simp only[List.mem_append,List.mem_singleton]at hv
 rcases hv with((hv|hv)|(hv|hv))|(hv|hv)
 ·exact hsh v (by simp[hv]) A n c e
 ·rw[hv]at e;injection e with _ e2 _;omega
 ·exact hsh v (by simp[hv]) A n c e
 ·rw[hv]at e;injection e with _ e2 _;omega
 ·exact hsh v (by simp[hv]) A n c e
 ·rw[hv]at e;injection e with _ e2 _;omega
theorem O_{w0 w:World}{b j:Nat}(h:BkW w0 w b j)(hj:j≤20):Calls Tryz.prog 18 #[.pointer (some ⟨b,0,none⟩)] w fun e w'=>e= .returned (.bool true)∧Below b w w':=by
 obtain⟨-, -,Y,N,Q,CY,CN,CQ,hk,f1,f2,f3,⟨hy,hn,hq⟩,hsh⟩:=h
 exact Gi (Nat.le_refl b) hk f1 f2 f3 (by omega) (by omega) (by omega) hsh
end Go.Proofs.YtkblmloobkiloaaGreatDoor
namespace Go.Proofs.YtkblmloobkiloaaGreatDoor
open Go.Lib (hid)
open Go.Lib (decDigits)
def XW:List UInt8→Option Nat
 | []=>none
 |c::r=>
  if c.toNat=34 then some 0 else
  if c.toNat≠92 then(XW r).map (· +1)else
  match r with
  | []=>none
  |_::r1=>(XW r1).map (· +2)
def X_(c:UInt8):Nat:=if dG c then hexV c else 0
def XT:List UInt8→List UInt8
 | []=>[]
 | [_]=>[]
 | [c,d]=>if c.toNat≠92 then c::XT [d]else [d]
 | [c,d,h]=>if c.toNat≠92 then c::XT [d,h]else d::XT [h]
 |c::d::h::k::r2=>
  if c.toNat≠92 then c::XT (d::h::k::r2)else
  if d.toNat=120 then UInt8.ofNat (X_ h*16+X_ k)::XT r2 else d::XT (h::k::r2)
theorem YH{c:UInt8}(hc:c.toNat≠92)(l:List UInt8)(hl:l≠ []):XT (c::l)=c::XT l:=by
 rcases l with _|⟨d,_|⟨h,_|⟨k,l⟩⟩⟩
 ·exact absurd rfl hl
 all_goals(rw[XT.eq_def];dsimp only;rw[if_pos hc])
theorem YI(h k:UInt8)(l:List UInt8):XT (92::120::h::k::l)=UInt8.ofNat (X_ h*16+X_ k)::XT l:=by
 rw[XT.eq_def]
 dsimp only
 rw[if_neg (by decide),if_pos (by decide)]
theorem YJ{c:UInt8}(hc:c.toNat≠120)(l:List UInt8):XT (92::c::l)=c::XT l:=by
 rcases l with _|⟨h,_|⟨k,l⟩⟩
 ·rw[XT.eq_def];dsimp only;rw[if_neg (by decide)];rfl
 ·rw[XT.eq_def];dsimp only;rw[if_neg (by decide)]
 ·rw[XT.eq_def];dsimp only;rw[if_neg (by decide),if_neg hc]
theorem Yw(d h:UInt8):XT [92,d]=[d]∧XT [92,d,h]=[d]:=by
 constructor<;>(rw[XT.eq_def];dsimp only;rw[if_neg (by decide)])
 rw[XT.eq_def]
theorem aal(a:List UInt8)(c:UInt8):a++[c]≠ []:=by simp
theorem YK:∀x:List UInt8,XT (x.flatMap dw++[34])=x
 | []=>by rw[List.flatMap_nil,List.nil_append,XT.eq_def]
 |c::x=>by
  have ih:=YK x
  rw[List.flatMap_cons,List.append_assoc]
  rw[dw]
  split
  ·rename_i he
   simp only[List.cons_append,List.nil_append]
   rw[YJ (fun h=>by simp[esc,h]at he),ih]
  ·rename_i he
   split
   ·simp only[jW,List.cons_append,List.nil_append]
    have hb:=c.toNat_lt
    rw[YI,ih,X_,X_,if_pos (nI _ (by omega)).1,if_pos (nI _ (by omega)).1,y9]
   ·simp only[List.cons_append,List.nil_append]
    rw[YH (fun h=>by simp[esc,h]at he) _ (aal _ _),ih]
theorem YF{c:UInt8}(h1:c.toNat≠34)(h2:c.toNat≠92)(l:List UInt8):XW (c::l)=(XW l).map (· +1):=by
 rw[XW.eq_def];simp[h1,h2]
theorem Y5(c:UInt8)(l:List UInt8):XW (92::c::l)=(XW l).map (· +2):=by
 rw[XW.eq_def];simp
theorem YG(n:Nat)(h:n<16):(hexD n).toNat≠34∧(hexD n).toNat≠92:=by
 rcases Ep (nI n h).1 with h|h<;>omega
theorem Y2:∀x r:List UInt8,XW (x.flatMap dw++34::r)=some (x.flatMap dw).length
 | [],r=>by rw[XW.eq_def];rfl
 |c::x,r=>by
  have ih:=Y2 x r
  rw[List.flatMap_cons,List.append_assoc]
  rw[dw]
  split
  ·simp only[List.cons_append,List.nil_append]
   rw[Y5,ih]
   simp
  ·rename_i he
   have he':c.toNat≠34∧c.toNat≠92:=by simpa [esc]using he
   split
   ·simp only[jW,List.cons_append,List.nil_append]
    have hb:=c.toNat_lt
    rw[Y5,YF (YG _ (by omega)).1 (YG _ (by omega)).2,YF (YG _ (by omega)).1 (YG _ (by omega)).2,ih]
    simp[jW]
   ·simp only[List.cons_append,List.nil_append]
    rw[YF he'.1 he'.2,ih]
    simp
theorem Yt:∀(n:Nat) (l:List UInt8) (k:Nat),l.length≤n→XW l=some k→∃r,l.drop k=34::r
 |0,l,k,hn,h=>by
  cases l with
  |nil=>cases h
  |cons c l=>simp at hn
 |n+1,l,k,hn,h=>by
  cases l with
  |nil=>cases h
  |cons c l=>
   have hn':l.length≤n:=by simpa using hn
   rw[XW.eq_def]at h
   dsimp only at h
   split at h
   ·rename_i hc
    injection h with h
    subst h
    exact⟨l,by rw[List.drop_zero,show c=34 from UInt8.toNat_inj.1 hc]⟩
   ·split at h
    ·cases hs:XW l with
     |none=>rw[hs]at h;cases h
     |some j=>
      rw[hs]at h
      injection h with h
      subst h
      obtain⟨r,hr⟩:=Yt n l j hn' hs
      exact⟨r,by simpa using hr⟩
    ·cases l with
     |nil=>cases h
     |cons d l=>
      replace h:(XW l).map (· +2)=some k:=h
      cases hs:XW l with
      |none=>rw[hs]at h;cases h
      |some j=>
       rw[hs]at h
       injection h with h
       subst h
       obtain⟨r,hr⟩:=Yt n l j (by simp at hn';omega) hs
       exact⟨r,by simpa using hr⟩
def YL(l:List UInt8):Except Nat (ByteArray×List UInt8):=
 match l with
 | []=> .error l.length
 |c::r=>
  if c.toNat≠34 then .error l.length else
  match XW r with
  |none=> .error l.length
  |some n=>if good (ofL (XT (r.take (n+1))))=true∧Ah (XT (r.take (n+1)))=34::r.take (n+1)then .ok (ofL (XT (r.take (n+1))),r.drop (n+1))else .error l.length
theorem Zi(l:List UInt8):YL l=dJ l:=by
 cases l with
 |nil=>rfl
 |cons c r=>
  unfold YL dJ
  dsimp only
  split
  ·rfl
  ·cases hu:unq r with
   |some p=>
    obtain⟨t,r1⟩:=p
    have hr:=oW _ r t r1 (Nat.le_refl _) hu
    have hs:XW r=some (t.flatMap dw).length:=by rw[hr];exact Y2 t r1
    have ht:r.take ((t.flatMap dw).length+1)=t.flatMap dw++[34]:=by
     rw[hr,show t.flatMap dw++34::r1=(t.flatMap dw++[34])++r1 by simp]
     exact kZ _ _ (by simp)
    have hd:r.drop ((t.flatMap dw).length+1)=r1:=by
     rw[hr,show t.flatMap dw++34::r1=(t.flatMap dw++[34])++r1 by simp]
     exact kJ _ _ (by simp)
    rw[hs]
    dsimp only
    rw[ht,hd,YK]
    by_cases hg:good (ofL t)=true
    ·rw[if_pos ⟨hg,rfl⟩,if_pos hg]
    ·rw[if_neg (fun h=>hg h.1),if_neg hg]
   |none=>
    cases hs:XW r with
    |none=>rfl
    |some n=>
     dsimp only
     refine if_neg fun h=> ?_
     obtain⟨r2,h2⟩:=Yt _ r n (Nat.le_refl _) hs
     have hq:=h.2
     unfold Ah at hq
     injection hq with _ hq
     have e:r=(XT (r.take (n+1))).flatMap dw++34::r.drop (n+1):=by
      have e1:=List.take_append_drop (n+1) r
      rw[←hq,List.append_assoc]at e1
      exact e1.symm
     rw[e,Gw]at hu
     cases hu
/-! A number. -/
def Yq(mst:Nat):List UInt8→Nat→Option Nat
 | [],n=>some n
 |c::d,n=>if mst/10<n∨mst-(c.toNat-48)<n*10 then none else Yq mst d (n*10+(c.toNat-48))
theorem Zj:∀(d:List UInt8) (n:Nat),n≤d.foldl (fun n c=>n*10+(c.toNat-48)) n
 | [],_=>Nat.le_refl _
 |c::d,n=>Nat.le_trans (by omega) (Zj d (n*10+(c.toNat-48)))
theorem ZN{mst:Nat}(hm:9≤mst):∀(d:List UInt8) (n:Nat),(∀c∈d,iT c=true)→n≤mst→
  Yq mst d n=if mst<d.foldl (fun n c=>n*10+(c.toNat-48)) n then none else some (d.foldl (fun n c=>n*10+(c.toNat-48)) n)
 | [],n,_,hn=>by rw[Yq,List.foldl_nil,if_neg (by omega)]
 |c::d,n,hd,hn=>by
  have hc:=Il (hd c (List.mem_cons_self ..))
  rw[Yq,List.foldl_cons]
  by_cases h:mst/10<n∨mst-(c.toNat-48)<n*10
  ·rw[if_pos h,if_pos (Nat.lt_of_lt_of_le (by omega) (Zj d _))]
  ·rw[if_neg h,ZN hm d _ (fun x hx=>hd x (List.mem_cons_of_mem _ hx)) (by omega)]
def aam(mst:Nat)(l:List UInt8):Except Nat (Nat×List UInt8):=
 let d:=l.takeWhile iT
 if d.length=0∨20<d.length∨(1<d.length∧d.head?=some 48)then .error l.length else
 match Yq mst d 0 with
 |none=> .error l.length
 |some n=> .ok (n,l.drop d.length)
theorem aah{mst:Nat}(hm:9≤mst)(h64:mst<18446744073709551616)(l:List UInt8):aam mst l=fZ mst l:=by
 unfold aam fZ
 dsimp only
 have hd:∀c∈l.takeWhile iT,iT c=true:=(lI l).2.1
 generalize hD:l.takeWhile iT=d at hd⊢
 rw[ZN hm d 0 hd (Nat.zero_le _)]
 show _=if d=[]∨(2≤d.length∧d.head?=some 48)∨mst<mZ d then _ else _
 rw[show d.foldl (fun n c=>n*10+(c.toNat-48)) 0=mZ d from rfl]
 by_cases h0:d=[]
 ·rw[if_pos (Or.inl (by rw[h0];rfl)),if_pos (Or.inl h0)]
 by_cases h1:1<d.length∧d.head?=some 48
 ·rw[if_pos (Or.inr (Or.inr h1)),if_pos (Or.inr (Or.inl ⟨h1.1,h1.2⟩))]
 by_cases h2:mst<mZ d
 ·rw[if_pos (Or.inr (Or.inr h2)),if_pos h2]
  split<;>rfl
 ·have hlen:d.length≤20:=by
   have e:=vP d.length d rfl hd h0 (fun h=>h1 ⟨h.1,h.2⟩)
   have h3:(decDigits (mZ d)).length≤20:=by
    rw[Lib.decDigits_length]
    by_cases hz:mZ d=0
    ·rw[hz]
     have h1:(Lib.decDigits 0).length=1:=by simp[Lib.decDigits]
     rw[Lib.decDigits_length]at h1
     omega
    ·have:=Lib.numDigits_eq (mZ d) (by omega) (by omega)
     split at this<;>omega
   rw[e]at h3
   exact h3
  have hpos:d.length≠0:=fun h=>h0 (List.length_eq_zero_iff.1 h)
  rw[if_neg (show¬(d.length=0∨20<d.length∨(1<d.length∧d.head?=some 48))from fun h=>h.elim hpos fun h=>h.elim (fun h=>by omega) h1),if_neg (show¬(d=[]∨(2≤d.length∧d.head?=some 48)∨mst<mZ d)from fun h=>h.elim h0 fun h=>h.elim (fun h=>h1 ⟨h.1,h.2⟩) h2)]
  rw[if_neg h2]
end Go.Proofs.YtkblmloobkiloaaGreatDoor
