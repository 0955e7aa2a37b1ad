/-
  MLL: what the laws of package msg need of them.
-/
import Derived.Test.YtkblmloobkiloaaGreatDoorT00
import Derived.Test.YtkblmloobkiloaaGreatDoorT32
import Derived.Test.YtkblmloobkiloaaGreatDoorT37
namespace Go.Proofs.YtkblmloobkiloaaGreatDoor
open Go.Lib (hid)
open Go.RowKit
theorem ZC(l:List UInt8)(h:l.length≤8388608):(parseM l).1.names.length≤16777216∧(parseM l).1.aV.length≤16777216∧(parseM l).1.data.length≤16777216:=by
 cases hp:jX l with
 |error n=>rw[Yv hp];exact⟨Nat.zero_le _,Nat.zero_le _,Nat.zero_le _⟩
 |ok m=>
  rw[YD hp]
  split
  ·have hl:=(L8 hp).2
   have h1:2+(m.names.map fun s=>2+s.size).sum≤l.length+300:=hl .names
   have h2:2+13*m.aV.length≤l.length+300:=hl .aV
   have h3:4+m.data.length≤l.length+300:=hl .data
   have h4:=Zd m.names
   exact⟨by show m.names.length≤_;omega,by show m.aV.length≤_;omega,by show m.data.length≤_;omega⟩
  ·exact⟨Nat.zero_le _,Nat.zero_le _,Nat.zero_le _⟩
set_option maxRecDepth 100000 in
set_option maxHeartbeats 6400000 in
theorem Zf(s:ByteArray)(w:World)(hw:kN w)(hreach:s.size≤9223372036854775807):Calls Tryz.prog 4 #[.string s] w fun e w'=>e= .returned (.bool true)∧Below w.heap.size w w':=by
 have HS0:=hid (LS.start hw)
 clear hw
 go_enter Tryz.func4,Tryz.ntmps4
 go_wp2_with fail
 refine(DX w HS0.out.wd.se HS0.out.wd.rd HS0.out.wd.tp).mono ?_
 rintro e w1 ⟨rfl,hb⟩
 have HS1:=hid (HS0.out.next hb)
 clear hb
 by_cases hbig:8388608<s.size
 ·go_wp2_with fail
  refine bodyPost_ret (v:= .bool true) (by simp[results,Tryz.results4]) rfl ⟨rfl, ?_⟩
  exact HS1.out.up
 ·have Em:=hid (Nat.not_lt.1 hbig)
  have HK0:=hid (BkW.start (w0:=w) (w:=w1) HS1.out.up)
  have HW:=hid HS0.out.wd
  go_upto_region 5 with(fail)
  clear HS1 HS0
  generalize w1.alloc (.cells #[.slice none 0 0,.slice none 0 0,.slice none 0 0] 29)=wb at HK0⊢
  generalize w1.heap.size=b at HK0⊢
  obtain⟨D,hD⟩:∃D,D=parseM s.data.toList:=⟨_,rfl⟩
  have HDS:=hid (show D.1.names.length≤16777216∧D.1.aV.length≤16777216∧D.1.data.length≤16777216 from by rw[hD];exact ZC _ (by rw[Array.length_toList];exact Em.out))
  have HPR:=hid (Ze s wb (by have:=Em.out;omega))
  rw[←hD]at HPR
  have HDE:=hid hD
  clear hD
  go_wp2_with fail
  refine HPR.out.mono ?_
  rintro e w2 ⟨⟨un,uq,ud,rfl,hol⟩,hb⟩
  have HOL:=hid hol
  have HK2:=hid (HK0.out.new hb)
  clear hol hb HK0 HPR
  go_upto_region 6 with(change wpList _ _ _ _ _ (w2.alloc (.cells (mgN (head 0 0)).toArray 41));have hup:Below w2.heap.size w2 (w2.alloc (.cells (mgN (head 0 0)).toArray 41)):=(Below.refl _ _).alloc (Nat.le_refl _) _;have HMZ:=hid (show aK (w2.alloc (.cells (mgN (head 0 0)).toArray 41)) w2.heap.size (head 0 0) (.slice none 0 0) (.slice none 0 0) (.slice none 0 0)from Blk.new w2 _ _);generalize(w2.alloc (.cells (mgN (head 0 0)).toArray 41))=w2z at hup HMZ⊢;refine dA HMZ.out 0 (aF D.1 un uq ud) _ (bW ..) (Nat.le_refl 36) (bT _ (bG HOL.out.n) (bG HOL.out.q) (bG HOL.out.d)) rfl _ _ _ rfl rfl rfl aB ?_;intro w3 hs ho;have HMN:=hid (show aK w3 w2.heap.size D.1 un uq ud from hs);have HB3:=hid (hup.trans ((ho (fun i=>i=w2.heap.size) rfl w2z (Off.refl _ _)).below (fun k hk=>(by have hk:k=w2.heap.size:=hk;omega)) hup.size));clear hs ho hup HMZ)
  have HON:=hid (HOL.out.below HB3.out)
  have HK3:=hid (HK2.out.new HB3.out)
  generalize w2.heap.size=qn at HMN⊢
  generalize wb.heap.size=bn at HON
  clear HOL HK2 HB3
  go_upto_region 7 with(fail)
  go_loopw [8] (fun i wr=>∃j:Nat,j≤2∧i= .int .i64 (j:Int)∧BkW w wr b j∧aK wr qn D.1 un uq ud∧OL wr bn D.1 un uq ud) (fun i _=>2-(intOf i).toNat)
  case atStart=>exact⟨0,Nat.zero_le _,rfl,HK3.out,HMN.out,HON.out⟩
  case round=>
   obtain⟨j,hj,rfl,hbk,hmn,hon⟩:=hrel
   have HK:=hid hbk
   have HMR:=hid hmn
   have HOR:=hid hon
   clear HK3 HMN HON hbk hmn hon
   by_cases hj2:j<2
   ·have HPC:=hid (DR s wr (HW.out.next HK.out.up).se (HW.out.next HK.out.up).rd (by have:=Em.out;omega))
    rw[←HDE.out]at HPC
    go_wp2_with fail
    refine HPC.out.mono ?_
    rintro e w4 ⟨⟨vn,vq,vd,rfl,hol⟩,hb⟩
    obtain⟨An,cn,rfl, -⟩:=aJ hol.n
    obtain⟨Aq,cq,rfl, -⟩:=aJ hol.q
    obtain⟨Ad,cd,rfl, -⟩:=aJ hol.d
    have Y_:=hid hol
    have HB4:=hid hb
    have HK4:=hid (HK.out.new hb)
    have HM4:=hid (show aK w4 qn D.1 un uq ud from Blk.below HMR.out hb (Blk.lt HMR.out))
    have HO4:=hid (HOR.out.below hb)
    clear hol hb HPC HMR HOR
    go_upto_region 10 with(change wpList _ _ _ _ _ (w4.alloc (.cells (mgN (head 0 0)).toArray 41));have hup:Below w4.heap.size w4 (w4.alloc (.cells (mgN (head 0 0)).toArray 41)):=(Below.refl _ _).alloc (Nat.le_refl _) _;have HMZ:=hid (show aK (w4.alloc (.cells (mgN (head 0 0)).toArray 41)) w4.heap.size (head 0 0) (.slice none 0 0) (.slice none 0 0) (.slice none 0 0)from Blk.new w4 _ _);generalize(w4.alloc (.cells (mgN (head 0 0)).toArray 41))=w4z at hup HMZ⊢;refine dA HMZ.out 0 (aF D.1 (.slice An D.1.names.length cn) (.slice Aq D.1.aV.length cq) (.slice Ad D.1.data.length cd)) _ (bW ..) (Nat.le_refl 36) (bT _ (bG Y_.out.n) (bG Y_.out.q) (bG Y_.out.d)) rfl _ _ _ rfl rfl rfl aB ?_;intro w5 hs ho;have HM5:=hid (show aK w5 w4.heap.size D.1 (.slice An D.1.names.length cn) (.slice Aq D.1.aV.length cq) (.slice Ad D.1.data.length cd)from hs);have HB5:=hid (hup.trans ((ho (fun i=>i=w4.heap.size) rfl w4z (Off.refl _ _)).below (fun k hk=>(by have hk:k=w4.heap.size:=hk;omega)) hup.size));clear hs ho hup HMZ)
    have UA:=hid (Y_.out.below HB5.out)
    have HK5:=hid (HK4.out.new HB5.out)
    have HN5:=hid (show aK w5 qn D.1 un uq ud from Blk.below HM4.out HB5.out (Blk.lt HM4.out))
    have HO5:=hid (HO4.out.below HB5.out)
    have Ry:=hid (HB4.out.trans (HB5.out.mono HB4.out.size))
    generalize w4.heap.size=q5 at HM5⊢
    clear HB5 HK4 HM4 HO4 HB4 Y_
    have HSM:=hid (FW D.1 D.1 _ _ _ _ _ _ w5 UA.out.lists HO5.out.lists)
    go_wp2_with(first|(refine wlw HM5.out 0 (aF D.1 (.slice An D.1.names.length cn) (.slice Aq D.1.aV.length cq) (.slice Ad D.1.data.length cd)) rfl rfl _ _ rfl rfl _ Tryz.underlying41 rfl aB ?_)|(refine wlw HN5.out 0 (aF D.1 un uq ud) rfl rfl _ _ rfl rfl _ Tryz.underlying41 rfl aB ?_))
    refine HSM.out.mono ?_
    rintro e w8 ⟨⟨r,rfl,hr⟩,hb⟩
    obtain rfl:r=true:=hr.2 rfl
    have HM8:=hid (show aK w8 q5 D.1 (.slice An D.1.names.length cn) (.slice Aq D.1.aV.length cq) (.slice Ad D.1.data.length cd)from Blk.below HM5.out hb (Blk.lt HM5.out))
    have HN8:=hid (show aK w8 qn D.1 un uq ud from Blk.below HN5.out hb (Blk.lt HN5.out))
    have FZ:=hid (UA.out.below hb)
    have HO8:=hid (HO5.out.below hb)
    have HK8:=hid (HK5.out.new hb)
    have UE:=hid (Ry.out.trans (hb.mono Ry.out.size))
    clear hr hb HM5 HN5 UA HO5 HK5 Ry HSM
    have hn1:((D.2.1:Int) != (D.2.1:Int))=false:=by rw[bne_eq_false_iff_eq]
    have hn2:((D.2.2:Int) != (D.2.2:Int))=false:=by rw[bne_eq_false_iff_eq]
    go_wp2_with(refine wlw HM8.out 0 (aF D.1 (.slice An D.1.names.length cn) (.slice Aq D.1.aV.length cq) (.slice Ad D.1.data.length cd)) rfl rfl _ _ rfl rfl _ Tryz.underlying41 rfl aB ?_)
    refine(Nr HK.out (by omega) HK8.out UE.out FZ.out HDS.out).mono ?_
    rintro e w9 ⟨rfl,hbk,hkr⟩
    have HK9:=hid hbk
    have HM9:=hid (show aK w9 qn D.1 un uq ud from hkr.k _ _ HN8.out)
    have HO9:=hid (show OL w9 bn D.1 un uq ud from⟨hkr.r _ _ _ _ _ _ (.inr (.inl rfl)) HO8.out.n,hkr.r _ _ _ _ _ _ (.inr (.inr rfl)) HO8.out.q,hkr.r _ _ _ _ _ _ (.inl rfl) HO8.out.d⟩)
    clear hbk hkr HM8 HN8 FZ HO8 HK8 UE HK hn1 hn2
    go_wp2_with fail
    go_roundw
    case rel=>exact⟨j+1,hj2,by go_num,HK9.out,HM9.out,HO9.out⟩
    case measure=>first|exact jv hj2 (IntWalk.wrap64_in _ (by omega))|exact jw hj2|(simp[intOf];omega)
   ·go_wp2_with fail
    refine(O_ HK.out (by omega)).mono ?_
    rintro e w9 ⟨rfl,hb⟩
    have HBZ:=hid (HK.out.up.trans (hb.mono HK.out.bb))
    clear hb
    go_wp2_with fail
    refine bodyPost_ret (v:= .bool true) (by simp[results,Tryz.results4]) rfl ⟨rfl,HBZ.out⟩
end Go.Proofs.YtkblmloobkiloaaGreatDoor
