/-
  MP9: what the laws of package msg need of them.
-/
import Derived.Test.YtkblmloobkiloaaGreatDoorF00
import Derived.Test.YtkblmloobkiloaaGreatDoorF18
import Derived.Test.YtkblmloobkiloaaGreatDoorF11
set_option maxRecDepth 100000
set_option maxHeartbeats 6400000
namespace Go.Proofs.YtkblmloobkiloaaGreatDoor
open Go.Lib (hid)
open Go.RowKit
def Jh:Value→Nat
 | .slice _ n _=>n
 |_=>0
def Many{α:Type}(one:List UInt8→Except Nat (α×List UInt8))(L:List UInt8)(xs:List α)(l:List UInt8):Prop:=
 eU one L=(eP one (16-xs.length) (decide (xs.length=0)) l).map fun p=>(xs++p.1,p.2)
theorem Many.fin{α:Type}{one:List UInt8→Except Nat (α×List UInt8)}{L:List UInt8}{xs:List α}{l:List UInt8}(h:Many one L xs l)(hl:l.head?=some 93):eU one L= .ok (xs,l.drop 1):=by
 rw[h]
 unfold eP
 rw[if_pos hl]
 show Except.ok (xs++[],l.drop 1)=_
 rw[List.append_nil]
theorem Many.full{α:Type}{one:List UInt8→Except Nat (α×List UInt8)}{L:List UInt8}{xs:List α}{l:List UInt8}(h:Many one L xs l)(hl:¬l.head?=some 93)(hx:xs.length=16):eU one L= .error l.length:=by
 rw[h,hx]
 unfold eP
 rw[if_neg hl]
 rfl
theorem DI{α:Type}(one:List UInt8→Except Nat (α×List UInt8))(r:Except Nat (List UInt8))(xs:List α)(n:Nat):
  ((r >>= fun l=>one l >>= fun x=>eP one n false x.2 >>= fun y=>pure (x.1::y.1,y.2)):Except Nat (List α×List UInt8)).map (fun p=>(xs++p.1,p.2))=(r >>= fun l=>one l >>= fun x=>(eP one n false x.2).map fun p=>((xs++[x.1])++p.1,p.2)):=by
 cases r with
 |error n=>rfl
 |ok l1=>
  simp only[bC]
  cases one l1 with
  |error n=>rfl
  |ok x=>
   simp only[bC]
   cases eP one n false x.2 with
   |error n=>rfl
   |ok y=>
    show Except.ok (xs++x.1::y.1,y.2)=Except.ok ((xs++[x.1])++y.1,y.2)
    simp
theorem Many.step{α:Type}{one:List UInt8→Except Nat (α×List UInt8)}{L:List UInt8}{xs:List α}{l:List UInt8}(h:Many one L xs l)(hl:¬l.head?=some 93)(hx:xs.length<16):
  eU one L=((if decide (xs.length=0)then pure l else dQ [32] l) >>= fun l=>one l >>= fun x=>(eP one (15-xs.length) false x.2).map fun p=>((xs++[x.1])++p.1,p.2)):=by
 rw[h,show 16-xs.length=(15-xs.length)+1 from by omega]
 rw[eP.eq_def]
 dsimp only
 rw[if_neg hl]
 cases decide (xs.length=0)with
 |true=>exact DI one (pure l) xs _
 |false=>exact DI one (dQ [32] l) xs _
theorem Many.next{α:Type}{one:List UInt8→Except Nat (α×List UInt8)}{L:List UInt8}{xs:List α}{x:α×List UInt8}(hx:xs.length<16)(h:eU one L=(eP one (15-xs.length) false x.2).map fun p=>((xs++[x.1])++p.1,p.2)):Many one L (xs++[x.1]) x.2:=by
 unfold Many
 rw[h,List.length_append,List.length_cons,List.length_nil,show 16-(xs.length+(0+1))=15-xs.length from by omega,show decide (xs.length+(0+1)=0)=false from by simp]
theorem Py(l:List UInt8):Lib.hasPrefix l [93]=decide (l.head?=some 93):=by
 cases l with
 |nil=>rfl
 |cons c r=>
  show(([93]:List UInt8).isPrefixOf (c::r))=_
  by_cases h:c=93
  ·subst h
   rfl
  ·rw[show decide ((c::r).head?=some 93)=false from decide_eq_false (fun hh=>h (Option.some.inj hh))]
   show(((93:UInt8)==c)&&([]:List UInt8).isPrefixOf r)=false
   rw[beq_eq_false_iff_ne.2 (fun hh=>h hh.symm)]
   rfl
theorem LV(l:List UInt8)(h:l.head?=some 93):dQ [93] l= .ok (l.drop 1):=by
 cases l with
 |nil=>cases h
 |cons c r=>
  have h:some c=some 93:=h
  injection h with h
  subst h
  rfl
abbrev nO(base:Nat):List ByteArray→Ending→World→Prop:=fun x e w'=>∃v,e= .returned v∧w'.ownsRow base 9 1 v x.length (h_ x)
theorem yN{w:World}{p:Nat}{s:ByteArray}{at_:Nat}(hse:SE w)(hrd:Ready w)(h8:8≤p)(h:ScS w p s at_):
  Calls Tryz.prog 219 #[.pointer (some ⟨p,0,none⟩),.func (.func 142) #[.pointer (some ⟨p,0,none⟩)] #[]] w (dW p s (nO w.heap.size) (eU dJ (s.data.toList.drop at_)) w):=by
 have hent:=au (k:=142) Tryz.func142 (by kernel_rfl) rfl
 have HS:=hid h
 have HRE:=hid (And.intro hrd hse)
 have H8:=hid h8
 have HLT:=hid (Blk.lt h.1)
 have HSS:=hid h.2.2
 obtain⟨L,hL⟩:∃L,L=s.data.toList.drop at_:=⟨_,rfl⟩
 have HL:=hid hL
 have HLL:=hid (show∀a,a≤s.size→(s.data.toList.drop a).length=s.size-a from fun a _=>by rw[List.length_drop,Array.length_toList];rfl)
 clear h hse hrd h8 hL
 go_enter Tryz.func219,Tryz.ntmps219
 go_wp2_with fail
 refine(dK ⟨#[91]⟩ HS.out).mono ?_
 rw[show s.data.toList.drop at_=L from HL.out.symm]
 rintro e w1 hr
 rw[show(⟨#[91]⟩:ByteArray).data.toList=[91]from rfl]at hr
 rcases hr.pO with⟨n,hp,rfl,ho⟩|⟨l1,a1,hp,rfl,ho,hs,hd⟩
 ·have HR:=hid (show eU dJ L= .error n from by
   unfold eU
   rw[hp]
   rfl)
  have HO:=hid ho
  clear hp ho hr
  go_wp2_with fail
  refine⟨rfl, ?_⟩
  have HN:=dW.no (V:=nO w.heap.size) (s:=s) HR.out HO.out
  first|exact HN|(rw[←HL.out];exact HN)
 have HM:=hid (show Many dJ L [] l1 from by
  unfold Many eU
  rw[hp]
  show eP dJ 16 true l1=(eP dJ 16 true l1).map _
  cases eP dJ 16 true l1<;>rfl)
 have HD1:=hid hd
 have HS1:=hid hs
 have HO1:=hid ho
 clear hp ho hr hs hd HS
 go_upto_region 3 with(fail)
 go_loopw [5] (fun v wr=>∃(xs:List ByteArray) (l:List UInt8) (a:Nat),xs.length≤16∧wr.ownsRow w.heap.size 9 1 v xs.length (h_ xs)∧ScS wr p s a∧s.data.toList.drop a=l∧Many dJ L xs l∧Off (fun i=>i=p) w wr) (fun v _=>16-Jh v)
 case atStart=>exact⟨[],l1,a1,by decide,dS _ _ _ _,HS1.out,HD1.out,HM.out,HO1.out⟩
 case round=>
  obtain⟨xs,l,a,hk,hv,hs,hd,hm,ho⟩:=hrel
  have HV:=hid hv
  have HSR:=hid hs
  have HDR:=hid hd
  have HMR:=hid hm
  have HOR:=hid ho
  obtain⟨A,cap,rfl,hc,hm0⟩:=aJ hv
  have HAL:=hid (show l.length=s.size-a∧a≤s.size from⟨by rw[←HDR.out];exact HLL.out a HSR.out.2.1,HSR.out.2.1⟩)
  clear hv hs hd hm ho
  have HRT:=hid (lZ HSR.out)
  have HXL:=hid (show Lib.hasPrefix (ofL l).data.toList [93]=decide (l.head?=some 93)from by
   rw[show(ofL l).data.toList=l from by simp[ofL]]
   exact Py l)
  rw[HDR.out]at HRT
  go_wp2_with fail
  refine HRT.out.mono ?_
  rintro e w2 ⟨rfl,hb⟩
  have HS2:=hid (HSR.out.below hb)
  have HV2:=hid (aI HV.out hb)
  have HO2:=hid (HOR.out.trans (Off.of_below hb))
  clear hb HSR HV HOR HRT
  generalize ofL l=X at HXL⊢
  go_wp2_with fail
  refine(Tryz.strings_HasPrefix X ⟨#[93]⟩ w2).mono ?_
  rintro e w3 ⟨rfl,rfl⟩
  rw[show Lib.hasPrefix X.data.toList (⟨#[93]⟩:ByteArray).data.toList=decide (l.head?=some 93)from HXL.out]
  clear HXL
  by_cases h93:l.head?=some 93
  ·have QO:=hid (HMR.out.fin h93)
   have HWD:=hid (LV l h93)
   rw[decide_eq_true h93]
   clear h93
   go_wp2_with fail
   refine(dK ⟨#[93]⟩ HS2.out).mono ?_
   rw[HDR.out]
   rintro e w4 hr
   rw[show(⟨#[93]⟩:ByteArray).data.toList=[93]from rfl,HWD.out]at hr
   rcases hr.pO with⟨n,hp,rfl,ho⟩|⟨l4,a4,hp,rfl,ho,hs,hd⟩
   ·cases hp
   injection hp with hp
   subst hp
   have HS4:=hid hs
   have HD4:=hid hd
   have HV4:=hid (ho.own HV2.out (fun j hj hjp=>by have h1:=dH HV2.out j hj;have h2:=HLT.out;have hjp:j=p:=hjp;omega))
   have HO4:=hid (HO2.out.trans ho)
   clear hr ho hs hd
   go_wp2_with fail
   go_ret
   refine⟨HO4.out, ?_⟩
   rw[←HL.out,QO.out]
   exact⟨⟨_,rfl,HV4.out⟩,_,HS4.out,HD4.out⟩
  ·rw[decide_eq_false h93]
   by_cases h16:xs.length=16
   ·have HR:=hid (HMR.out.full h93 h16)
    have kx:((xs.length:Int)==16)=true:=by rw[beq_iff_eq];omega
    have k1:w3.cell? ⟨p,1,none⟩=some (.int .i64 (a:Int)):=HS2.out.1.cell 1
    clear h93 h16
    go_wp2_with fail
    refine⟨rfl,HO2.out, ?_⟩
    rw[←HL.out,HR.out]
    show _=d_ _
    rw[show(s.size:Int)-(l.length:Int)=(a:Int)from by have:=HAL.out;omega]
    rfl
   ·have hlt:xs.length<16:=by omega
    have HST:=hid (HMR.out.step h93 hlt)
    have kx:((xs.length:Int)==16)=false:=by rw[beq_eq_false_iff_ne];omega
    clear h93 h16 HMR
    by_cases h0:xs.length=0
    ·have kg:¬(xs.length:Int)>0:=by omega
     have kg2:(xs.length:Int)≤0:=by omega
     have HST:=hid (show eU dJ L=(dJ l >>= fun x=>(eP dJ (15-xs.length) false x.2).map fun p=>((xs++[x.1])++p.1,p.2))from by
      rw[HST.out,decide_eq_true h0]
      rfl)
     clear h0
     have HRR:=hid (And.intro (HRE.out.1.low (HO2.out.below (B:=8) (fun i hi=>by have hi:i=p:=hi;have:=H8.out;omega) HRE.out.1.eight) (Nat.le_refl 8)) (HRE.out.2.low (HO2.out.below (B:=8) (fun i hi=>by have hi:i=p:=hi;have:=H8.out;omega) HRE.out.1.eight) (Nat.le_refl 8)))
     go_wp2_with fail
     refine(lQ HRR.out.1 H8.out HS2.out).mono ?_
     rw[HDR.out]
     rintro e w5 hr
     rcases hr.get with⟨n,hp,rfl,ho⟩|⟨x,l5,a5,hp,rfl,ho,hs,hd⟩
     ·have HR:=hid (show eU dJ L= .error n from by
       rw[HST.out,hp]
       rfl)
      have HO:=hid (HO2.out.trans ho)
      clear hp ho hr
      go_wp2_with fail
      refine⟨rfl, ?_⟩
      have HN:=dW.no (V:=nO w.heap.size) (s:=s) HR.out HO.out
      first|exact HN|(rw[←HL.out];exact HN)
     have HNX:=hid (Many.next (x:=(x,l5)) hlt (show eU dJ L=(eP dJ (15-xs.length) false l5).map fun p=>((xs++[x])++p.1,p.2)from by
      rw[HST.out,hp]
      rfl))
     have HS5:=hid hs
     have HD5:=hid hd
     have HV5:=hid (ho.own HV2.out (fun j hj hjp=>by have h1:=dH HV2.out j hj;have h2:=HLT.out;have hjp:j=p:=hjp;omega))
     have HO5:=hid (HO2.out.trans ho)
     clear hr hp ho hs hd
     dsimp only at HNX
     have HSA:=hid (HS5.out.below ((Below.refl _ _).alloc (Nat.le_refl _) (.cells #[.string x] 9)))
     have HOA:=hid (HO5.out.alloc (.cells #[.string x] 9))
     have HVA:=hid (aI HV5.out ((Below.refl _ _).alloc (Nat.le_refl _) (.cells #[.string x] 9)))
     have HRA:=hid (show Reads (w5.alloc (.cells #[.string x] 9)) (w5.heap.size+1) 1 (some ⟨w5.heap.size,0,none⟩) ([x]:List ByteArray).length (h_ [x])from dI w5 9 [.string x] 1 1 rfl)
     have HLN:=hid (show xs.length+([x]:List ByteArray).length≤8796093022207 from by simp only[List.length_cons,List.length_nil];omega)
     have HBS:=hid (show w.heap.size≤(w5.alloc (.cells #[.string x] 9)).heap.size from HOA.out.size)
     go_wp2_with(at_builtin;refine oQ (.tmp 25) (.tmp 28) rfl rfl w.heap.size _ _ rfl HVA.out (w5.heap.size+1) _ 1 [x] rfl HRA.out HLN.out HBS.out ?_;intro v6 w6 hown hgr hor;have HV6:=hid hown;have HO6:=hid ((HOA.out.mono (S':=fun i=>i=p∨w.heap.size≤i) (fun _ _ h=> .inl h)).grown hgr (fun g hg=> .inr (dH HVA.out g hg)));have HS6:=hid (HSA.out.off ((Off.refl (fun i=>(Value.slice A xs.length cap).ownBlock=some i) _).grown hgr (fun g hg=>hg)) (fun hp=>by have h1:=dH HVA.out p hp;have h2:=HLT.out;omega));clear hown hgr hor)
     have HLA:=hid (show(xs++([x]:List ByteArray)).length=xs.length+1 from by simp)
     obtain⟨A6,c6,rfl,hc6,hm6⟩:=aJ HV6.out
     refine⟨⟨xs++[x],l5,a5,by rw[HLA.out];omega,HV6.out,HS6.out,HD5.out,HNX.out,HO6.out.toR (Nat.le_refl _)⟩, ?_⟩
     simp[Jh]
     omega
    ·have kg:(xs.length:Int)>0:=by omega
     go_wp2_with fail
     refine(dK ⟨#[32]⟩ HS2.out).mono ?_
     rw[HDR.out]
     rintro e w4 hr
     rw[show(⟨#[32]⟩:ByteArray).data.toList=[32]from rfl]at hr
     have HST:=hid (show eU dJ L=(dQ [32] l >>= fun l=>dJ l >>= fun x=>(eP dJ (15-xs.length) false x.2).map fun p=>((xs++[x.1])++p.1,p.2))from by
      rw[HST.out,decide_eq_false h0]
      rfl)
     rcases hr.pO with⟨n,hp,rfl,ho⟩|⟨l4,a4,hp,rfl,ho,hs,hd⟩
     ·have HR:=hid (show eU dJ L= .error n from by
       rw[HST.out,hp]
       rfl)
      have HO:=hid (HO2.out.trans ho)
      clear hp ho hr h0
      go_wp2_with fail
      refine⟨rfl, ?_⟩
      have HN:=dW.no (V:=nO w.heap.size) (s:=s) HR.out HO.out
      first|exact HN|(rw[←HL.out];exact HN)
     have HST:=hid (show eU dJ L=(dJ l4 >>= fun x=>(eP dJ (15-xs.length) false x.2).map fun p=>((xs++[x.1])++p.1,p.2))from by
      rw[HST.out,hp]
      rfl)
     have HS4:=hid hs
     have HD4:=hid hd
     have HV4:=hid (ho.own HV2.out (fun j hj hjp=>by have h1:=dH HV2.out j hj;have h2:=HLT.out;have hjp:j=p:=hjp;omega))
     have HO4:=hid (HO2.out.trans ho)
     clear hr hp ho hs hd h0
     have HRR:=hid (And.intro (HRE.out.1.low (HO4.out.below (B:=8) (fun i hi=>by have hi:i=p:=hi;have:=H8.out;omega) HRE.out.1.eight) (Nat.le_refl 8)) (HRE.out.2.low (HO4.out.below (B:=8) (fun i hi=>by have hi:i=p:=hi;have:=H8.out;omega) HRE.out.1.eight) (Nat.le_refl 8)))
     go_wp2_with fail
     refine(lQ HRR.out.1 H8.out HS4.out).mono ?_
     rw[HD4.out]
     rintro e w5 hr
     rcases hr.get with⟨n,hp,rfl,ho⟩|⟨x,l5,a5,hp,rfl,ho,hs,hd⟩
     ·have HR:=hid (show eU dJ L= .error n from by
       rw[HST.out,hp]
       rfl)
      have HO:=hid (HO4.out.trans ho)
      clear hp ho hr
      go_wp2_with fail
      refine⟨rfl, ?_⟩
      have HN:=dW.no (V:=nO w.heap.size) (s:=s) HR.out HO.out
      first|exact HN|(rw[←HL.out];exact HN)
     have HNX:=hid (Many.next (x:=(x,l5)) hlt (show eU dJ L=(eP dJ (15-xs.length) false l5).map fun p=>((xs++[x])++p.1,p.2)from by
      rw[HST.out,hp]
      rfl))
     have HS5:=hid hs
     have HD5:=hid hd
     have HV5:=hid (ho.own HV4.out (fun j hj hjp=>by have h1:=dH HV4.out j hj;have h2:=HLT.out;have hjp:j=p:=hjp;omega))
     have HO5:=hid (HO4.out.trans ho)
     clear hr hp ho hs hd
     dsimp only at HNX
     have HSA:=hid (HS5.out.below ((Below.refl _ _).alloc (Nat.le_refl _) (.cells #[.string x] 9)))
     have HOA:=hid (HO5.out.alloc (.cells #[.string x] 9))
     have HVA:=hid (aI HV5.out ((Below.refl _ _).alloc (Nat.le_refl _) (.cells #[.string x] 9)))
     have HRA:=hid (show Reads (w5.alloc (.cells #[.string x] 9)) (w5.heap.size+1) 1 (some ⟨w5.heap.size,0,none⟩) ([x]:List ByteArray).length (h_ [x])from dI w5 9 [.string x] 1 1 rfl)
     have HLN:=hid (show xs.length+([x]:List ByteArray).length≤8796093022207 from by simp only[List.length_cons,List.length_nil];omega)
     have HBS:=hid (show w.heap.size≤(w5.alloc (.cells #[.string x] 9)).heap.size from HOA.out.size)
     go_wp2_with(at_builtin;refine oQ (.tmp 25) (.tmp 28) rfl rfl w.heap.size _ _ rfl HVA.out (w5.heap.size+1) _ 1 [x] rfl HRA.out HLN.out HBS.out ?_;intro v6 w6 hown hgr hor;have HV6:=hid hown;have HO6:=hid ((HOA.out.mono (S':=fun i=>i=p∨w.heap.size≤i) (fun _ _ h=> .inl h)).grown hgr (fun g hg=> .inr (dH HVA.out g hg)));have HS6:=hid (HSA.out.off ((Off.refl (fun i=>(Value.slice A xs.length cap).ownBlock=some i) _).grown hgr (fun g hg=>hg)) (fun hp=>by have h1:=dH HVA.out p hp;have h2:=HLT.out;omega));clear hown hgr hor)
     have HLA:=hid (show(xs++([x]:List ByteArray)).length=xs.length+1 from by simp)
     obtain⟨A6,c6,rfl,hc6,hm6⟩:=aJ HV6.out
     refine⟨⟨xs++[x],l5,a5,by rw[HLA.out];omega,HV6.out,HS6.out,HD5.out,HNX.out,HO6.out.toR (Nat.le_refl _)⟩, ?_⟩
     simp[Jh]
     omega
abbrev nP(base:Nat):List Qd→Ending→World→Prop:=fun x e w'=>∃v,e= .returned v∧w'.ownsRow base 37 3 v x.length (ng x)
theorem yO{w:World}{p:Nat}{s:ByteArray}{at_:Nat}(hse:SE w)(hrd:Ready w)(h8:8≤p)(h:ScS w p s at_):
  Calls Tryz.prog 232 #[.pointer (some ⟨p,0,none⟩),.func (.func 178) #[.pointer (some ⟨p,0,none⟩)] #[]] w (dW p s (nP w.heap.size) (eU gW (s.data.toList.drop at_)) w):=by
 have hent:=au (k:=178) Tryz.func178 (by kernel_rfl) rfl
 have HS:=hid h
 have HRE:=hid (And.intro hrd hse)
 have H8:=hid h8
 have HLT:=hid (Blk.lt h.1)
 have HSS:=hid h.2.2
 obtain⟨L,hL⟩:∃L,L=s.data.toList.drop at_:=⟨_,rfl⟩
 have HL:=hid hL
 have HLL:=hid (show∀a,a≤s.size→(s.data.toList.drop a).length=s.size-a from fun a _=>by rw[List.length_drop,Array.length_toList];rfl)
 clear h hse hrd h8 hL
 go_enter Tryz.func232,Tryz.ntmps232
 go_wp2_with fail
 refine(dK ⟨#[91]⟩ HS.out).mono ?_
 rw[show s.data.toList.drop at_=L from HL.out.symm]
 rintro e w1 hr
 rw[show(⟨#[91]⟩:ByteArray).data.toList=[91]from rfl]at hr
 rcases hr.pO with⟨n,hp,rfl,ho⟩|⟨l1,a1,hp,rfl,ho,hs,hd⟩
 ·have HR:=hid (show eU gW L= .error n from by
   unfold eU
   rw[hp]
   rfl)
  have HO:=hid ho
  clear hp ho hr
  go_wp2_with fail
  refine⟨rfl, ?_⟩
  have HN:=dW.no (V:=nP w.heap.size) (s:=s) HR.out HO.out
  first|exact HN|(rw[←HL.out];exact HN)
 have HM:=hid (show Many gW L [] l1 from by
  unfold Many eU
  rw[hp]
  show eP gW 16 true l1=(eP gW 16 true l1).map _
  cases eP gW 16 true l1<;>rfl)
 have HD1:=hid hd
 have HS1:=hid hs
 have HO1:=hid ho
 clear hp ho hr hs hd HS
 go_upto_region 3 with(fail)
 go_loopw [5] (fun v wr=>∃(xs:List Qd) (l:List UInt8) (a:Nat),xs.length≤16∧wr.ownsRow w.heap.size 37 3 v xs.length (ng xs)∧ScS wr p s a∧s.data.toList.drop a=l∧Many gW L xs l∧Off (fun i=>i=p) w wr) (fun v _=>16-Jh v)
 case atStart=>exact⟨[],l1,a1,by decide,dS _ _ _ _,HS1.out,HD1.out,HM.out,HO1.out⟩
 case round=>
  obtain⟨xs,l,a,hk,hv,hs,hd,hm,ho⟩:=hrel
  have HV:=hid hv
  have HSR:=hid hs
  have HDR:=hid hd
  have HMR:=hid hm
  have HOR:=hid ho
  obtain⟨A,cap,rfl,hc,hm0⟩:=aJ hv
  have HAL:=hid (show l.length=s.size-a∧a≤s.size from⟨by rw[←HDR.out];exact HLL.out a HSR.out.2.1,HSR.out.2.1⟩)
  clear hv hs hd hm ho
  have HRT:=hid (lZ HSR.out)
  have HXL:=hid (show Lib.hasPrefix (ofL l).data.toList [93]=decide (l.head?=some 93)from by
   rw[show(ofL l).data.toList=l from by simp[ofL]]
   exact Py l)
  rw[HDR.out]at HRT
  go_wp2_with fail
  refine HRT.out.mono ?_
  rintro e w2 ⟨rfl,hb⟩
  have HS2:=hid (HSR.out.below hb)
  have HV2:=hid (aI HV.out hb)
  have HO2:=hid (HOR.out.trans (Off.of_below hb))
  clear hb HSR HV HOR HRT
  generalize ofL l=X at HXL⊢
  go_wp2_with fail
  refine(Tryz.strings_HasPrefix X ⟨#[93]⟩ w2).mono ?_
  rintro e w3 ⟨rfl,rfl⟩
  rw[show Lib.hasPrefix X.data.toList (⟨#[93]⟩:ByteArray).data.toList=decide (l.head?=some 93)from HXL.out]
  clear HXL
  by_cases h93:l.head?=some 93
  ·have QO:=hid (HMR.out.fin h93)
   have HWD:=hid (LV l h93)
   rw[decide_eq_true h93]
   clear h93
   go_wp2_with fail
   refine(dK ⟨#[93]⟩ HS2.out).mono ?_
   rw[HDR.out]
   rintro e w4 hr
   rw[show(⟨#[93]⟩:ByteArray).data.toList=[93]from rfl,HWD.out]at hr
   rcases hr.pO with⟨n,hp,rfl,ho⟩|⟨l4,a4,hp,rfl,ho,hs,hd⟩
   ·cases hp
   injection hp with hp
   subst hp
   have HS4:=hid hs
   have HD4:=hid hd
   have HV4:=hid (ho.own HV2.out (fun j hj hjp=>by have h1:=dH HV2.out j hj;have h2:=HLT.out;have hjp:j=p:=hjp;omega))
   have HO4:=hid (HO2.out.trans ho)
   clear hr ho hs hd
   go_wp2_with fail
   go_ret
   refine⟨HO4.out, ?_⟩
   rw[←HL.out,QO.out]
   exact⟨⟨_,rfl,HV4.out⟩,_,HS4.out,HD4.out⟩
  ·rw[decide_eq_false h93]
   by_cases h16:xs.length=16
   ·have HR:=hid (HMR.out.full h93 h16)
    have kx:((xs.length:Int)==16)=true:=by rw[beq_iff_eq];omega
    have k1:w3.cell? ⟨p,1,none⟩=some (.int .i64 (a:Int)):=HS2.out.1.cell 1
    clear h93 h16
    go_wp2_with fail
    refine⟨rfl,HO2.out, ?_⟩
    rw[←HL.out,HR.out]
    show _=d_ _
    rw[show(s.size:Int)-(l.length:Int)=(a:Int)from by have:=HAL.out;omega]
    rfl
   ·have hlt:xs.length<16:=by omega
    have HST:=hid (HMR.out.step h93 hlt)
    have kx:((xs.length:Int)==16)=false:=by rw[beq_eq_false_iff_ne];omega
    clear h93 h16 HMR
    by_cases h0:xs.length=0
    ·have kg:¬(xs.length:Int)>0:=by omega
     have kg2:(xs.length:Int)≤0:=by omega
     have HST:=hid (show eU gW L=(gW l >>= fun x=>(eP gW (15-xs.length) false x.2).map fun p=>((xs++[x.1])++p.1,p.2))from by
      rw[HST.out,decide_eq_true h0]
      rfl)
     clear h0
     have HRR:=hid (And.intro (HRE.out.1.low (HO2.out.below (B:=8) (fun i hi=>by have hi:i=p:=hi;have:=H8.out;omega) HRE.out.1.eight) (Nat.le_refl 8)) (HRE.out.2.low (HO2.out.below (B:=8) (fun i hi=>by have hi:i=p:=hi;have:=H8.out;omega) HRE.out.1.eight) (Nat.le_refl 8)))
     go_wp2_with fail
     refine(mV HRR.out.2 H8.out HS2.out).mono ?_
     rw[HDR.out]
     rintro e w5 hr
     rcases hr.get with⟨n,hp,rfl,ho⟩|⟨x,l5,a5,hp,rfl,ho,hs,hd⟩
     ·have HR:=hid (show eU gW L= .error n from by
       rw[HST.out,hp]
       rfl)
      have HO:=hid (HO2.out.trans ho)
      clear hp ho hr
      go_wp2_with fail
      refine⟨rfl, ?_⟩
      have HN:=dW.no (V:=nP w.heap.size) (s:=s) HR.out HO.out
      first|exact HN|(rw[←HL.out];exact HN)
     have HNX:=hid (Many.next (x:=(x,l5)) hlt (show eU gW L=(eP gW (15-xs.length) false l5).map fun p=>((xs++[x])++p.1,p.2)from by
      rw[HST.out,hp]
      rfl))
     have HS5:=hid hs
     have HD5:=hid hd
     have HV5:=hid (ho.own HV2.out (fun j hj hjp=>by have h1:=dH HV2.out j hj;have h2:=HLT.out;have hjp:j=p:=hjp;omega))
     have HO5:=hid (HO2.out.trans ho)
     clear hr hp ho hs hd
     obtain⟨v1,v2,v3⟩:=x
     dsimp only at HNX
     have HSA:=hid (HS5.out.below ((Below.refl _ _).alloc (Nat.le_refl _) (.cells #[.int .u8 (v1:Int),.int .u32 (v2:Int),.int .u64 (v3:Int)] 37)))
     have HOA:=hid (HO5.out.alloc (.cells #[.int .u8 (v1:Int),.int .u32 (v2:Int),.int .u64 (v3:Int)] 37))
     have HVA:=hid (aI HV5.out ((Below.refl _ _).alloc (Nat.le_refl _) (.cells #[.int .u8 (v1:Int),.int .u32 (v2:Int),.int .u64 (v3:Int)] 37)))
     have HRA:=hid (show Reads (w5.alloc (.cells #[.int .u8 (v1:Int),.int .u32 (v2:Int),.int .u64 (v3:Int)] 37)) (w5.heap.size+1) 3 (some ⟨w5.heap.size,0,none⟩) ([⟨v1,v2,v3⟩]:List Qd).length (ng [⟨v1,v2,v3⟩])from dI w5 37 [.int .u8 (v1:Int),.int .u32 (v2:Int),.int .u64 (v3:Int)] 1 3 rfl)
     have HLN:=hid (show xs.length+([⟨v1,v2,v3⟩]:List Qd).length≤8796093022207 from by simp only[List.length_cons,List.length_nil];omega)
     have HBS:=hid (show w.heap.size≤(w5.alloc (.cells #[.int .u8 (v1:Int),.int .u32 (v2:Int),.int .u64 (v3:Int)] 37)).heap.size from HOA.out.size)
     go_wp2_with(at_builtin;refine Ai (.tmp 25) (.tmp 28) rfl rfl w.heap.size _ _ rfl HVA.out (w5.heap.size+1) _ 1 [⟨v1,v2,v3⟩] rfl HRA.out HLN.out HBS.out ?_;intro v6 w6 hown hgr hor;have HV6:=hid hown;have HO6:=hid ((HOA.out.mono (S':=fun i=>i=p∨w.heap.size≤i) (fun _ _ h=> .inl h)).grown hgr (fun g hg=> .inr (dH HVA.out g hg)));have HS6:=hid (HSA.out.off ((Off.refl (fun i=>(Value.slice A xs.length cap).ownBlock=some i) _).grown hgr (fun g hg=>hg)) (fun hp=>by have h1:=dH HVA.out p hp;have h2:=HLT.out;omega));clear hown hgr hor)
     have HLA:=hid (show(xs++([⟨v1,v2,v3⟩]:List Qd)).length=xs.length+1 from by simp)
     obtain⟨A6,c6,rfl,hc6,hm6⟩:=aJ HV6.out
     refine⟨⟨xs++[⟨v1,v2,v3⟩],l5,a5,by rw[HLA.out];omega,HV6.out,HS6.out,HD5.out,HNX.out,HO6.out.toR (Nat.le_refl _)⟩, ?_⟩
     simp[Jh]
     omega
    ·have kg:(xs.length:Int)>0:=by omega
     go_wp2_with fail
     refine(dK ⟨#[32]⟩ HS2.out).mono ?_
     rw[HDR.out]
     rintro e w4 hr
     rw[show(⟨#[32]⟩:ByteArray).data.toList=[32]from rfl]at hr
     have HST:=hid (show eU gW L=(dQ [32] l >>= fun l=>gW l >>= fun x=>(eP gW (15-xs.length) false x.2).map fun p=>((xs++[x.1])++p.1,p.2))from by
      rw[HST.out,decide_eq_false h0]
      rfl)
     rcases hr.pO with⟨n,hp,rfl,ho⟩|⟨l4,a4,hp,rfl,ho,hs,hd⟩
     ·have HR:=hid (show eU gW L= .error n from by
       rw[HST.out,hp]
       rfl)
      have HO:=hid (HO2.out.trans ho)
      clear hp ho hr h0
      go_wp2_with fail
      refine⟨rfl, ?_⟩
      have HN:=dW.no (V:=nP w.heap.size) (s:=s) HR.out HO.out
      first|exact HN|(rw[←HL.out];exact HN)
     have HST:=hid (show eU gW L=(gW l4 >>= fun x=>(eP gW (15-xs.length) false x.2).map fun p=>((xs++[x.1])++p.1,p.2))from by
      rw[HST.out,hp]
      rfl)
     have HS4:=hid hs
     have HD4:=hid hd
     have HV4:=hid (ho.own HV2.out (fun j hj hjp=>by have h1:=dH HV2.out j hj;have h2:=HLT.out;have hjp:j=p:=hjp;omega))
     have HO4:=hid (HO2.out.trans ho)
     clear hr hp ho hs hd h0
     have HRR:=hid (And.intro (HRE.out.1.low (HO4.out.below (B:=8) (fun i hi=>by have hi:i=p:=hi;have:=H8.out;omega) HRE.out.1.eight) (Nat.le_refl 8)) (HRE.out.2.low (HO4.out.below (B:=8) (fun i hi=>by have hi:i=p:=hi;have:=H8.out;omega) HRE.out.1.eight) (Nat.le_refl 8)))
     go_wp2_with fail
     refine(mV HRR.out.2 H8.out HS4.out).mono ?_
     rw[HD4.out]
     rintro e w5 hr
     rcases hr.get with⟨n,hp,rfl,ho⟩|⟨x,l5,a5,hp,rfl,ho,hs,hd⟩
     ·have HR:=hid (show eU gW L= .error n from by
       rw[HST.out,hp]
       rfl)
      have HO:=hid (HO4.out.trans ho)
      clear hp ho hr
      go_wp2_with fail
      refine⟨rfl, ?_⟩
      have HN:=dW.no (V:=nP w.heap.size) (s:=s) HR.out HO.out
      first|exact HN|(rw[←HL.out];exact HN)
     have HNX:=hid (Many.next (x:=(x,l5)) hlt (show eU gW L=(eP gW (15-xs.length) false l5).map fun p=>((xs++[x])++p.1,p.2)from by
      rw[HST.out,hp]
      rfl))
     have HS5:=hid hs
     have HD5:=hid hd
     have HV5:=hid (ho.own HV4.out (fun j hj hjp=>by have h1:=dH HV4.out j hj;have h2:=HLT.out;have hjp:j=p:=hjp;omega))
     have HO5:=hid (HO4.out.trans ho)
     clear hr hp ho hs hd
     obtain⟨v1,v2,v3⟩:=x
     dsimp only at HNX
     have HSA:=hid (HS5.out.below ((Below.refl _ _).alloc (Nat.le_refl _) (.cells #[.int .u8 (v1:Int),.int .u32 (v2:Int),.int .u64 (v3:Int)] 37)))
     have HOA:=hid (HO5.out.alloc (.cells #[.int .u8 (v1:Int),.int .u32 (v2:Int),.int .u64 (v3:Int)] 37))
     have HVA:=hid (aI HV5.out ((Below.refl _ _).alloc (Nat.le_refl _) (.cells #[.int .u8 (v1:Int),.int .u32 (v2:Int),.int .u64 (v3:Int)] 37)))
     have HRA:=hid (show Reads (w5.alloc (.cells #[.int .u8 (v1:Int),.int .u32 (v2:Int),.int .u64 (v3:Int)] 37)) (w5.heap.size+1) 3 (some ⟨w5.heap.size,0,none⟩) ([⟨v1,v2,v3⟩]:List Qd).length (ng [⟨v1,v2,v3⟩])from dI w5 37 [.int .u8 (v1:Int),.int .u32 (v2:Int),.int .u64 (v3:Int)] 1 3 rfl)
     have HLN:=hid (show xs.length+([⟨v1,v2,v3⟩]:List Qd).length≤8796093022207 from by simp only[List.length_cons,List.length_nil];omega)
     have HBS:=hid (show w.heap.size≤(w5.alloc (.cells #[.int .u8 (v1:Int),.int .u32 (v2:Int),.int .u64 (v3:Int)] 37)).heap.size from HOA.out.size)
     go_wp2_with(at_builtin;refine Ai (.tmp 25) (.tmp 28) rfl rfl w.heap.size _ _ rfl HVA.out (w5.heap.size+1) _ 1 [⟨v1,v2,v3⟩] rfl HRA.out HLN.out HBS.out ?_;intro v6 w6 hown hgr hor;have HV6:=hid hown;have HO6:=hid ((HOA.out.mono (S':=fun i=>i=p∨w.heap.size≤i) (fun _ _ h=> .inl h)).grown hgr (fun g hg=> .inr (dH HVA.out g hg)));have HS6:=hid (HSA.out.off ((Off.refl (fun i=>(Value.slice A xs.length cap).ownBlock=some i) _).grown hgr (fun g hg=>hg)) (fun hp=>by have h1:=dH HVA.out p hp;have h2:=HLT.out;omega));clear hown hgr hor)
     have HLA:=hid (show(xs++([⟨v1,v2,v3⟩]:List Qd)).length=xs.length+1 from by simp)
     obtain⟨A6,c6,rfl,hc6,hm6⟩:=aJ HV6.out
     refine⟨⟨xs++[⟨v1,v2,v3⟩],l5,a5,by rw[HLA.out];omega,HV6.out,HS6.out,HD5.out,HNX.out,HO6.out.toR (Nat.le_refl _)⟩, ?_⟩
     simp[Jh]
     omega
end Go.Proofs.YtkblmloobkiloaaGreatDoor
