/-
  MUJ MUK: what the laws of package msg need of them.
-/
import Derived.Test.YtkblmloobkiloaaGreatDoorF00
import Derived.Test.YtkblmloobkiloaaGreatDoorF30
set_option maxRecDepth 100000
set_option maxHeartbeats 6400000
namespace Go.Proofs.YtkblmloobkiloaaGreatDoor
open Go.Lib (hid)
open Go.RowKit
theorem YA(l:List UInt8):Yi (.ok l) ⟨#[93]⟩=(l.head?==some 93):=by
 cases l with
 |nil=>rfl
 |cons c l=>show((93:UInt8)==c&&true)=(some c==some 93);rw[Bool.and_true,Bool.eq_iff_iff,beq_iff_eq,beq_iff_eq];constructor<;>(intro h;first|(rw[h])|(injection h with h;rw[h]))
def Yl{α:Type}(one:List UInt8→Except Nat (α×List UInt8))(r:Except Nat (List α×List UInt8))(k:Nat)(ns:List α)(sk:Except Nat (List UInt8)):Prop:=
 r=(sk >>= fun l=>(eP one (16-k) (k==0) l).map (fun p=>(ns++p.1,p.2)))
theorem aaj{β γ:Type}(st:Except Nat (List UInt8))(p:List UInt8→Except Nat γ)(f:γ→Except Nat β):(st >>= fun l=>p l >>= f)=((st >>= p) >>= f):=by cases st<;>rfl
theorem Yl.start{α:Type}(one:List UInt8→Except Nat (α×List UInt8))(st:Except Nat (List UInt8)):Yl one (st >>= eU one) 0 [] (Ye ⟨#[91]⟩ st):=by
 unfold Yl
 cases st with
 |error k=>rfl
 |ok l=>
  show eU one l=_
  unfold eU
  show(dQ [91] l >>= fun l=>eP one 16 true l)=(dQ [91] l >>= fun l=>(eP one 16 true l).map (fun p=>([]++p.1,p.2)))
  congr 1
  funext l
  cases eP one 16 true l<;>rfl
def Zr(k:Nat)(st:Except Nat (List UInt8)):Except Nat (List UInt8):=if k=0 then st else Ye ⟨#[32]⟩ st
theorem Yl.next{α:Type}{one:List UInt8→Except Nat (α×List UInt8)}{r:Except Nat (List α×List UInt8)}{k:Nat}{ns:List α}{l:List UInt8}{x:α}{s2:Except Nat (List UInt8)}(h:Yl one r k ns (.ok l))(hk:k<16)(hh:Yi (.ok l) ⟨#[93]⟩=false)(g:XZ (Zr k (.ok l) >>= one) x s2):Yl one r (k+1) (ns++[x]) s2:=by
 unfold Yl at*
 rw[h]
 rw[YA,beq_eq_false_iff_ne]at hh
 show(eP one (16-k) (k==0) l).map _=_
 have e:eP one (16-k) (k==0) l=(Zr k (.ok l) >>= fun l=>one l >>= fun p=>eP one (16-(k+1)) false p.2 >>= fun q=>pure (p.1::q.1,q.2)):=by
  rw[show 16-k=(16-(k+1))+1 by omega,eP,if_neg hh]
  cases k with
  |zero=>rfl
  |succ k=>rfl
 rw[e,aaj,g.then (fun x l=>eP one (16-(k+1)) false l >>= fun q=>pure (x::q.1,q.2))]
 cases s2 with
 |error k=>rfl
 |ok l2=>
  show(eP one (16-(k+1)) false l2 >>= fun q=>pure (x::q.1,q.2)).map _=(eP one (16-(k+1)) (k+1==0) l2).map _
  rw[show(k+1==0)=false from rfl]
  cases eP one (16-(k+1)) false l2 with
  |error k=>rfl
  |ok p=>show Except.ok _=Except.ok _;dsimp only;rw[List.append_assoc];rfl
theorem Yl.stop{α:Type}{one:List UInt8→Except Nat (α×List UInt8)}{r:Except Nat (List α×List UInt8)}{k:Nat}{ns:List α}{sk:Except Nat (List UInt8)}(h:Yl one r k ns sk)(hk:k=16∨Yi sk ⟨#[93]⟩=true∨∃n,sk= .error n):XZ r ns (Ye ⟨#[93]⟩ sk):=by
 unfold Yl at h
 rw[h]
 cases sk with
 |error n=>rfl
 |ok l=>
  show XZ ((eP one (16-k) (k==0) l).map _) ns _
  cases hh:Yi (.ok l) ⟨#[93]⟩with
  |true=>
   rw[Y3 hh]
   rw[YA,beq_iff_eq]at hh
   rw[eP.eq_def]
   simp only[hh,if_true]
   exact⟨(List.append_nil _).symm,rfl⟩
  |false=>
   have Y9:k=16:=by
    rcases hk with h|h|⟨n,h⟩
    ·exact h
    ·rw[hh]at h;cases h
    ·cases h
   rw[Zk hh]
   rw[YA,beq_eq_false_iff_ne]at hh
   subst Y9
   show XZ ((eP one 0 (16==0) l).map _) ns _
   rw[eP]
   rw[if_neg hh]
   rfl
theorem Zt{w:World}{p base:Nat}{vn vq vd:Value}{s:ByteArray}{st:Except Nat (List UInt8)}{m:Mg}(hbp:base≤p)(h:RwS w p s st)(ho:OL w base m vn vq vd)(hn:m.names=[]):
  Calls Tryz.prog 106 #[.pointer (some ⟨p,0,none⟩),iM m vn vq vd,.int .u8 78] w (Yr p base s m .names st w):=by
 have HPF:=hid (show(st >>= fun l=>pF m l .names)=(st >>= eU dJ).map (fun p=>({m with names:=p.1},p.2))from by rw[←Yc];rfl)
 have HM0:=hid (Yl.start dJ st)
 have HF0:=XV hbp h ho
 have HF:=hid HF0.1
 have HOL:=hid HF0.2
 have h1:=bG ho.n
 have h2:=bG ho.q
 have h3:=bG ho.d
 have HN:=hid hn
 clear hbp h ho HF0 hn
 generalize(st >>= eU dJ)=R at HPF HM0
 go_enter Tryz.func106,Tryz.ntmps106
 go_upto_region 1 with(fail)
 change Code.wp _ _ _ _ ((w.alloc (.cells (aF m vn vq vd).toArray 41)).alloc (.cells (mgN (head 0 0)).toArray 41))
 generalize((w.alloc (.cells (aF m vn vq vd).toArray 41)).alloc (.cells (mgN (head 0 0)).toArray 41))=w1 at HF HOL⊢
 generalize w.heap.size+1=q at HF⊢
 generalize w.heap.size=z at HF⊢
 go_wp2_with fail
 refine(acT ⟨#[91]⟩ (by decide) HF.out.ln).mono ?_
 rintro e w2 ⟨rfl,hs,hoo⟩
 have lN:=hid (HOL.out.rw_ HF.out.ln hoo)
 have HF2:=hid (HF.out.step hs hoo)
 clear hs hoo HF HOL
 generalize Ye ⟨#[91]⟩ st=sA at HM0 HF2
 go_wp2_with fail
 refine(Yh ⟨#[93]⟩ (by decide) HF2.out.ln).mono ?_
 rintro e w3 ⟨rfl,hb⟩
 have HF3:=hid (HF2.out.new hb)
 have tJ:=hid (lN.out.below hb)
 clear hb HF2 lN
 go_upto_region 4 with(fail)
 go_loopw [7,8] (fun en i wr=>∃(k:Nat) (ns:List ByteArray) (sk:Except Nat (List UInt8)) (v:Value),i= .int .i64 (k:Int)∧en= .bool (Yi sk ⟨#[93]⟩)∧k≤16∧ns.length=k∧GS w wr p z q base s sk {m with names:=ns} v vq vd∧OL wr base {m with names:=ns} v vq vd∧Yl dJ R k ns sk) (fun _ i _=>16-(intOf i).toNat)
 case atStart=>
  exact⟨0,[],sA,vn,rfl,rfl,by decide,rfl,(by rw[←HN.out];exact HF3.out),(by rw[←HN.out];exact tJ.out),HM0.out⟩
 case round=>
  obtain⟨k,ns,sk,v,rfl,rfl,hk,hns,hf,hol,hg⟩:=hrel
  have HFK:=hid hf
  have HOK:=hid hol
  have HGK:=hid hg
  have HNS:=hid hns
  clear hf hol hg hns
  obtain⟨a,b,hbl,hal,hzl,hst⟩:=id HFK.out.ln
  have kb:wr.cell? ⟨p,2,none⟩=some (.bool b):=hbl.cell 2
  have HST:=hid hst
  clear hbl hal hst
  obtain⟨go,hgo⟩:∃go,go=(decide ((k:Int)<16)&& !b&& !Yi sk ⟨#[93]⟩):=⟨_,rfl⟩
  have HGO:=hid hgo
  clear hgo
  go_upto_region 4 with(fail)
  go_cut [27] (fun x wx=>x= .bool go∧wx=wr)
  case first=>
   as_aux_lemma=>
   by_cases Y9:(k:Int)<16
   ·have HE:=hid (show go=(!b&& !Yi sk ⟨#[93]⟩)from by rw[HGO.out,decide_eq_true Y9,Bool.true_and])
    cases b
    ·go_wp2_with fail
     go_meet
     case rel=>exact⟨by rw[HE.out];rfl,rfl⟩
    ·go_wp2_with fail
     go_meet
     case rel=>exact⟨by rw[HE.out];rfl,rfl⟩
   ·have HE:=hid (show go=false from by rw[HGO.out,decide_eq_false Y9];rfl)
    go_wp2_with fail
    go_meet
    case rel=>exact⟨by rw[HE.out],rfl⟩
  obtain⟨rfl,rfl⟩:=hcut
  clear kb
  cases hgo:go with
  |true=>
   have aar:(k:Int)<16∧b=false∧Yi sk ⟨#[93]⟩=false:=by
    have h:=HGO.out
    rw[hgo]at h
    simpa [Bool.and_eq_true,Bool.not_eq_true',and_assoc]using h.symm
   obtain⟨Y9,rfl,hh⟩:=aar
   obtain⟨l,rfl⟩:∃l,sk= .ok l:=⟨_,HST.out⟩
   have HH:=hid hh
   clear hgo hh HGO HST
   rw[HH.out]
   go_upto_region 6 with(fail)
   go_cut [31] (fun x wx=>x= .bool (decide (0<k))∧wx=wc)
   case first=>
    as_aux_lemma=>
    go_wp2_with fail
    go_meet
    case rel=>exact⟨rfl,rfl⟩
   obtain⟨rfl,rfl⟩:=hcut
   go_upto_if 31 with(fail)
   go_cut [] (fun wx=>GS w wx p z q base s (Zr k (.ok l)) {m with names:=ns} v vq vd∧OL wx base {m with names:=ns} v vq vd)
   case first=>
    as_aux_lemma=>
    by_cases hk0:k=0
    ·have hd:decide (0<k)=false:=by rw[decide_eq_false_iff_not];omega
     rw[hd]
     have HGP:=hid (show Zr k (.ok l)= .ok l from if_pos hk0)
     clear hd hk0
     go_wp2_with fail
     go_meet
     case rel=>rw[HGP.out];exact⟨HFK.out,HOK.out⟩
    ·have hd:decide (0<k)=true:=by rw[decide_eq_true_eq];omega
     rw[hd]
     have HGP:=hid (show Zr k (.ok l)=Ye ⟨#[32]⟩ (.ok l)from if_neg hk0)
     clear hd hk0
     go_wp2_with fail
     refine(acT ⟨#[32]⟩ (by decide) HFK.out.ln).mono ?_
     rintro e w4 ⟨rfl,hs,hoo⟩
     have Y_:=hid (HOK.out.rw_ HFK.out.ln hoo)
     have HF4:=hid (HFK.out.step hs hoo)
     clear hs hoo
     go_wp2_with fail
     go_meet
     case rel=>rw[HGP.out];exact⟨HF4.out,Y_.out⟩
   obtain⟨hcg,hco⟩:=hcut
   replace HFK:=hid hcg
   replace HOK:=hid hco
   clear hcg hco
   go_wp2_with fail
   refine(XY HFK.out.ln).mono ?_
   rintro e w3 ⟨x,s2,rfl, -,hs,hg,hoo⟩
   have HG:=hid hg
   have HO3:=hid (HOK.out.rw_ HFK.out.ln hoo)
   have HF3:=hid (HFK.out.step hs hoo)
   clear hs hoo HFK HOK hg
   have hup:Below w3.heap.size w3 (w3.alloc (.cells #[.string x] 9)):=(Below.refl _ _).alloc (Nat.le_refl _) _
   have HF4:=hid (HF3.out.new hup)
   have HO4:=hid (HO3.out.below hup)
   have HRD:=hid (show Reads (w3.alloc (.cells #[.string x] 9)) (w3.heap.size+1) 1 (some ⟨w3.heap.size,0,none⟩) ([x]:List ByteArray).length (h_ [x])from dI w3 9 [.string x] 1 1 rfl)
   have HLN:=hid (show ns.length+([x]:List ByteArray).length≤8796093022207 from by rw[HNS.out];simp only[List.length_cons,List.length_nil];omega)
   have kz:w3.cell? ⟨z,11,none⟩=some v:=Blk.cell HF3.out.mb 11
   clear hup
   go_wp2_with(at_builtin;refine oQ (.tmp 39) (.tmp 41) rfl rfl base _ ns rfl HO4.out.n (w3.heap.size+1) _ 1 [x] rfl HRD.out HLN.out HF4.out.size ?_;intro v4 w4 hown hgr hor;generalize Nj:(ns++[x]).length=n4 at hown;have HL4:=hid Nj;clear Nj;obtain⟨A4,c4,rfl, -⟩:=aJ hown;have HV4:=hid hown;have HF5:=hid (HF4.out.app HO4.out.n (by decide) (by decide) hgr);have HQ5:=hid (HO4.out.q.kept hgr (fC HO4.out.q HO4.out.n (by decide)));have HD5:=hid (HO4.out.d.kept hgr (fC HO4.out.d HO4.out.n (by decide)));clear hown hgr hor kz;have kz:w4.cell? ⟨z,11,none⟩=some v:=Blk.cell HF5.out.mb 11;have fz:w4.frozen? ⟨z,11,none⟩=false:=Blk.frozen HF5.out.mb 11)
   have HF6:=hid (HF5.out.turn (aK.aW HF5.out.mb 11 (.slice A4 n4 c4) (sZ m (ns++[x]) v vq vd (.slice A4 n4 c4))) (bM ..))
   have HO6:=hid (show OL (w4.setCell ⟨z,11,none⟩ (.slice A4 n4 c4)) base {m with names:=ns++[x]} (.slice A4 n4 c4) vq vd from by have hl4:=HL4.out;subst hl4;exact OL.qp (m:= {m with names:=ns++[x]}) ⟨HV4.out,HQ5.out,HD5.out⟩ HF5.out.mb (bM ..))
   go_upto_region 13 with(fail)
   clear kz fz HF5 HV4 HQ5 HD5
   generalize w4.setCell ⟨z,11,none⟩ (.slice A4 n4 c4)=w6 at HF6 HO6⊢
   go_wp2_with fail
   refine(Yh ⟨#[93]⟩ (by decide) HF6.out.ln).mono ?_
   rintro e w7 ⟨rfl,hb⟩
   have HF7:=hid (HF6.out.new hb)
   have HO7:=hid (HO6.out.below hb)
   clear hb HF6 HO6
   go_wp2_with fail
   go_roundw
   case rel=>
    exact⟨k+1,ns++[x],s2,_,by go_num,rfl,by omega,by rw[List.length_append,HNS.out];rfl,HF7.out,HO7.out,HGK.out.next (by omega) HH.out HG.out⟩
   case measure=>first|(simp[intOf];done)|(simp[intOf];omega)
  |false=>
   have aas:=hid (HGK.out.stop (by
    have h:=HGO.out
    rw[hgo]at h
    by_cases h16:k=16
    ·exact .inl h16
    ·refine .inr ?_
     rw[decide_eq_true (show(k:Int)<16 by omega),Bool.true_and]at h
     cases b with
     |true=>exact .inr ⟨_,HST.out⟩
     |false=>
      refine .inl ?_
      simpa using h.symm))
   have h4:=bG HOK.out.n
   clear hgo HGO HST HGK
   go_wp2_with fail
   refine(acT ⟨#[93]⟩ (by decide) HFK.out.ln).mono ?_
   rintro e w4 ⟨rfl,hs,hoo⟩
   have HO4:=hid (HOK.out.rw_ HFK.out.ln hoo)
   have HF4:=hid (HFK.out.step hs hoo)
   clear hs hoo HFK HOK
   go_wp2_with(first|(refine wlw HF4.out.mb 0 (aF {m with names:=ns} v vq vd) rfl rfl _ _ rfl rfl _ Tryz.underlying41 rfl aB ?_)|(refine dA HF4.out.rb 0 (aF {m with names:=ns} v vq vd) _ (bW ..) (Nat.le_refl 36) (bT _ h4 h2 h3) rfl _ _ _ rfl rfl rfl aB ?_;intro wz hs ho;have HZF:=hid hs;have HOF:=hid (ho (fun i=>i=q) rfl _ (Off.refl _ _));clear hs ho))
   obtain⟨r1,r2,r3⟩:=HF4.out.end_ (HO4.out) HOF.out
   exact bodyPost_ret (bf (l:=aF {m with names:=ns} v vq vd) rfl Tryz.underlying41 rfl aB rfl HZF.out) rfl ⟨_,_,_,_,_,rfl,r1,⟨fun h=>absurd rfl h,fun _=>rfl,fun _=>rfl⟩,r2,r3,by rw[HPF.out];exact aas.out.map (fun x=> {m with names:=x})⟩
theorem ZM{w:World}{p base:Nat}{vn vq vd:Value}{s:ByteArray}{st:Except Nat (List UInt8)}{m:Mg}(hbp:base≤p)(h:RwS w p s st)(ho:OL w base m vn vq vd)(hn:m.aV=[]):
  Calls Tryz.prog 106 #[.pointer (some ⟨p,0,none⟩),iM m vn vq vd,.int .u8 81] w (Yr p base s m .aV st w):=by
 have HPF:=hid (show(st >>= fun l=>pF m l .aV)=(st >>= eU gW).map (fun p=>({m with aV:=p.1},p.2))from by rw[←Yc];rfl)
 have HM0:=hid (Yl.start gW st)
 have HF0:=XV hbp h ho
 have HF:=hid HF0.1
 have HOL:=hid HF0.2
 have h1:=bG ho.n
 have h2:=bG ho.q
 have h3:=bG ho.d
 have HN:=hid hn
 clear hbp h ho HF0 hn
 generalize(st >>= eU gW)=R at HPF HM0
 go_enter Tryz.func106,Tryz.ntmps106
 go_upto_region 1 with(fail)
 change Code.wp _ _ _ _ ((w.alloc (.cells (aF m vn vq vd).toArray 41)).alloc (.cells (mgN (head 0 0)).toArray 41))
 generalize((w.alloc (.cells (aF m vn vq vd).toArray 41)).alloc (.cells (mgN (head 0 0)).toArray 41))=w1 at HF HOL⊢
 generalize w.heap.size+1=q at HF⊢
 generalize w.heap.size=z at HF⊢
 go_wp2_with fail
 refine(acT ⟨#[91]⟩ (by decide) HF.out.ln).mono ?_
 rintro e w2 ⟨rfl,hs,hoo⟩
 have lN:=hid (HOL.out.rw_ HF.out.ln hoo)
 have HF2:=hid (HF.out.step hs hoo)
 clear hs hoo HF HOL
 generalize Ye ⟨#[91]⟩ st=sA at HM0 HF2
 go_wp2_with fail
 refine(Yh ⟨#[93]⟩ (by decide) HF2.out.ln).mono ?_
 rintro e w3 ⟨rfl,hb⟩
 have HF3:=hid (HF2.out.new hb)
 have tJ:=hid (lN.out.below hb)
 clear hb HF2 lN
 go_upto_region 4 with(fail)
 go_loopw [7,8] (fun en i wr=>∃(k:Nat) (ns:List Qd) (sk:Except Nat (List UInt8)) (v:Value),i= .int .i64 (k:Int)∧en= .bool (Yi sk ⟨#[93]⟩)∧k≤16∧ns.length=k∧GS w wr p z q base s sk {m with aV:=ns} vn v vd∧OL wr base {m with aV:=ns} vn v vd∧Yl gW R k ns sk) (fun _ i _=>16-(intOf i).toNat)
 case atStart=>
  exact⟨0,[],sA,vq,rfl,rfl,by decide,rfl,(by rw[←HN.out];exact HF3.out),(by rw[←HN.out];exact tJ.out),HM0.out⟩
 case round=>
  obtain⟨k,ns,sk,v,rfl,rfl,hk,hns,hf,hol,hg⟩:=hrel
  have HFK:=hid hf
  have HOK:=hid hol
  have HGK:=hid hg
  have HNS:=hid hns
  clear hf hol hg hns
  obtain⟨a,b,hbl,hal,hzl,hst⟩:=id HFK.out.ln
  have kb:wr.cell? ⟨p,2,none⟩=some (.bool b):=hbl.cell 2
  have HST:=hid hst
  clear hbl hal hst
  obtain⟨go,hgo⟩:∃go,go=(decide ((k:Int)<16)&& !b&& !Yi sk ⟨#[93]⟩):=⟨_,rfl⟩
  have HGO:=hid hgo
  clear hgo
  go_upto_region 4 with(fail)
  go_cut [27] (fun x wx=>x= .bool go∧wx=wr)
  case first=>
   as_aux_lemma=>
   by_cases Y9:(k:Int)<16
   ·have HE:=hid (show go=(!b&& !Yi sk ⟨#[93]⟩)from by rw[HGO.out,decide_eq_true Y9,Bool.true_and])
    cases b
    ·go_wp2_with fail
     go_meet
     case rel=>exact⟨by rw[HE.out];rfl,rfl⟩
    ·go_wp2_with fail
     go_meet
     case rel=>exact⟨by rw[HE.out];rfl,rfl⟩
   ·have HE:=hid (show go=false from by rw[HGO.out,decide_eq_false Y9];rfl)
    go_wp2_with fail
    go_meet
    case rel=>exact⟨by rw[HE.out],rfl⟩
  obtain⟨rfl,rfl⟩:=hcut
  clear kb
  cases hgo:go with
  |true=>
   have aar:(k:Int)<16∧b=false∧Yi sk ⟨#[93]⟩=false:=by
    have h:=HGO.out
    rw[hgo]at h
    simpa [Bool.and_eq_true,Bool.not_eq_true',and_assoc]using h.symm
   obtain⟨Y9,rfl,hh⟩:=aar
   obtain⟨l,rfl⟩:∃l,sk= .ok l:=⟨_,HST.out⟩
   have HH:=hid hh
   clear hgo hh HGO HST
   rw[HH.out]
   go_upto_region 6 with(fail)
   go_cut [31] (fun x wx=>x= .bool (decide (0<k))∧wx=wc)
   case first=>
    as_aux_lemma=>
    go_wp2_with fail
    go_meet
    case rel=>exact⟨rfl,rfl⟩
   obtain⟨rfl,rfl⟩:=hcut
   go_upto_if 31 with(fail)
   go_cut [] (fun wx=>GS w wx p z q base s (Zr k (.ok l)) {m with aV:=ns} vn v vd∧OL wx base {m with aV:=ns} vn v vd)
   case first=>
    as_aux_lemma=>
    by_cases hk0:k=0
    ·have hd:decide (0<k)=false:=by rw[decide_eq_false_iff_not];omega
     rw[hd]
     have HGP:=hid (show Zr k (.ok l)= .ok l from if_pos hk0)
     clear hd hk0
     go_wp2_with fail
     go_meet
     case rel=>rw[HGP.out];exact⟨HFK.out,HOK.out⟩
    ·have hd:decide (0<k)=true:=by rw[decide_eq_true_eq];omega
     rw[hd]
     have HGP:=hid (show Zr k (.ok l)=Ye ⟨#[32]⟩ (.ok l)from if_neg hk0)
     clear hd hk0
     go_wp2_with fail
     refine(acT ⟨#[32]⟩ (by decide) HFK.out.ln).mono ?_
     rintro e w4 ⟨rfl,hs,hoo⟩
     have Y_:=hid (HOK.out.rw_ HFK.out.ln hoo)
     have HF4:=hid (HFK.out.step hs hoo)
     clear hs hoo
     go_wp2_with fail
     go_meet
     case rel=>rw[HGP.out];exact⟨HF4.out,Y_.out⟩
   obtain⟨hcg,hco⟩:=hcut
   replace HFK:=hid hcg
   replace HOK:=hid hco
   clear hcg hco
   go_wp2_with fail
   refine(Ym HFK.out.ln).mono ?_
   rintro e w3 ⟨⟨v1,v2,v3⟩,s2,rfl, -,hs,hg,hoo⟩
   have HG:=hid hg
   have HO3:=hid (HOK.out.rw_ HFK.out.ln hoo)
   have HF3:=hid (HFK.out.step hs hoo)
   clear hs hoo HFK HOK hg
   unfold qdV
   go_upto_region 12 with(fail)
   have hup:Below w3.heap.size w3 (w3.alloc (.cells #[.int .u8 (v1:Int),.int .u32 (v2:Int),.int .u64 (v3:Int)] 37)):=(Below.refl _ _).alloc (Nat.le_refl _) _
   have HFa:=hid (HF3.out.new hup)
   have HOa:=hid (HO3.out.below hup)
   have HQa:=hid (Blk.new w3 37 #[.int .u8 (v1:Int),.int .u32 (v2:Int),.int .u64 (v3:Int)])
   clear hup HF3 HO3
   generalize w3.alloc (.cells #[.int .u8 (v1:Int),.int .u32 (v2:Int),.int .u64 (v3:Int)] 37)=wa at HFa HOa HQa⊢
   generalize w3.heap.size=c3 at HQa⊢
   have hup:Below wa.heap.size wa (wa.alloc (.cells #[.int .u8 (v1:Int),.int .u32 (v2:Int),.int .u64 (v3:Int)] 37)):=(Below.refl _ _).alloc (Nat.le_refl _) _
   have HF4:=hid (HFa.out.new hup)
   have HO4:=hid (HOa.out.below hup)
   have HRD:=hid (show Reads (wa.alloc (.cells #[.int .u8 (v1:Int),.int .u32 (v2:Int),.int .u64 (v3:Int)] 37)) (wa.heap.size+1) 3 (some ⟨wa.heap.size,0,none⟩) ([⟨v1,v2,v3⟩]:List Qd).length (ng [⟨v1,v2,v3⟩])from dI wa 37 [.int .u8 (v1:Int),.int .u32 (v2:Int),.int .u64 (v3:Int)] 1 3 rfl)
   have HLN:=hid (show ns.length+([⟨v1,v2,v3⟩]:List Qd).length≤8796093022207 from by rw[HNS.out];simp only[List.length_cons,List.length_nil];omega)
   have kz:wa.cell? ⟨z,12,none⟩=some v:=Blk.cell HFa.out.mb 12
   have k1:wa.cell? ⟨c3,0,none⟩=some (.int .u8 (v1:Int)):=Blk.cell HQa.out 0
   have k2:wa.cell? ⟨c3,1,none⟩=some (.int .u32 (v2:Int)):=Blk.cell HQa.out 1
   have k3:wa.cell? ⟨c3,2,none⟩=some (.int .u64 (v3:Int)):=Blk.cell HQa.out 2
   clear hup
   go_wp2_with(at_builtin;refine Ai (.tmp 47) (.tmp 49) rfl rfl base _ ns rfl HO4.out.q (wa.heap.size+1) _ 1 [⟨v1,v2,v3⟩] rfl HRD.out HLN.out HF4.out.size ?_;intro v4 w4 hown hgr hor;generalize Nj:(ns++[(⟨v1,v2,v3⟩:Qd)]).length=n4 at hown;have HL4:=hid Nj;clear Nj;obtain⟨A4,c4,rfl, -⟩:=aJ hown;have HV4:=hid hown;have HF5:=hid (HF4.out.app HO4.out.q (by decide) (by decide) hgr);have HQ5:=hid (HO4.out.n.kept hgr (fC HO4.out.n HO4.out.q (by decide)));have HD5:=hid (HO4.out.d.kept hgr (fC HO4.out.d HO4.out.q (by decide)));clear hown hgr hor kz k1 k2 k3;have kz:w4.cell? ⟨z,12,none⟩=some v:=Blk.cell HF5.out.mb 12;have fz:w4.frozen? ⟨z,12,none⟩=false:=Blk.frozen HF5.out.mb 12)
   have HF6:=hid (HF5.out.turn (aK.aW HF5.out.mb 12 (.slice A4 n4 c4) (xA m (ns++[⟨v1,v2,v3⟩]) vn v vd (.slice A4 n4 c4))) (bM ..))
   have HO6:=hid (show OL (w4.setCell ⟨z,12,none⟩ (.slice A4 n4 c4)) base {m with aV:=ns++[⟨v1,v2,v3⟩]} vn (.slice A4 n4 c4) vd from by have hl4:=HL4.out;subst hl4;exact OL.qp (m:= {m with aV:=ns++[⟨v1,v2,v3⟩]}) ⟨HQ5.out,HV4.out,HD5.out⟩ HF5.out.mb (bM ..))
   go_upto_region 13 with(fail)
   clear kz fz HF5 HV4 HQ5 HD5
   generalize w4.setCell ⟨z,12,none⟩ (.slice A4 n4 c4)=w6 at HF6 HO6⊢
   go_wp2_with fail
   refine(Yh ⟨#[93]⟩ (by decide) HF6.out.ln).mono ?_
   rintro e w7 ⟨rfl,hb⟩
   have HF7:=hid (HF6.out.new hb)
   have HO7:=hid (HO6.out.below hb)
   clear hb HF6 HO6
   go_wp2_with fail
   go_roundw
   case rel=>
    exact⟨k+1,ns++[⟨v1,v2,v3⟩],s2,_,by go_num,rfl,by omega,by rw[List.length_append,HNS.out];rfl,HF7.out,HO7.out,HGK.out.next (by omega) HH.out HG.out⟩
   case measure=>first|(simp[intOf];done)|(simp[intOf];omega)
  |false=>
   have aas:=hid (HGK.out.stop (by
    have h:=HGO.out
    rw[hgo]at h
    by_cases h16:k=16
    ·exact .inl h16
    ·refine .inr ?_
     rw[decide_eq_true (show(k:Int)<16 by omega),Bool.true_and]at h
     cases b with
     |true=>exact .inr ⟨_,HST.out⟩
     |false=>
      refine .inl ?_
      simpa using h.symm))
   have h4:=bG HOK.out.q
   clear hgo HGO HST HGK
   go_wp2_with fail
   refine(acT ⟨#[93]⟩ (by decide) HFK.out.ln).mono ?_
   rintro e w4 ⟨rfl,hs,hoo⟩
   have HO4:=hid (HOK.out.rw_ HFK.out.ln hoo)
   have HF4:=hid (HFK.out.step hs hoo)
   clear hs hoo HFK HOK
   go_wp2_with(first|(refine wlw HF4.out.mb 0 (aF {m with aV:=ns} vn v vd) rfl rfl _ _ rfl rfl _ Tryz.underlying41 rfl aB ?_)|(refine dA HF4.out.rb 0 (aF {m with aV:=ns} vn v vd) _ (bW ..) (Nat.le_refl 36) (bT _ h1 h4 h3) rfl _ _ _ rfl rfl rfl aB ?_;intro wz hs ho;have HZF:=hid hs;have HOF:=hid (ho (fun i=>i=q) rfl _ (Off.refl _ _));clear hs ho))
   obtain⟨r1,r2,r3⟩:=HF4.out.end_ (HO4.out) HOF.out
   exact bodyPost_ret (bf (l:=aF {m with aV:=ns} vn v vd) rfl Tryz.underlying41 rfl aB rfl HZF.out) rfl ⟨_,_,_,_,_,rfl,r1,⟨fun _=>rfl,fun h=>absurd rfl h,fun _=>rfl⟩,r2,r3,by rw[HPF.out];exact aas.out.map (fun x=> {m with aV:=x})⟩
theorem Za{w:World}{p base:Nat}{vn vq vd:Value}{s:ByteArray}{st:Except Nat (List UInt8)}{m:Mg}(hbp:base≤p)(h:RwS w p s st)(ho:OL w base m vn vq vd)(hn:m.names=[]):
  Calls Tryz.prog 55 #[.pointer (some ⟨p,0,none⟩),iM m vn vq vd,.int .u8 78] w (Yr p base s m .names st w):=by
 have HWC:=hid (fun w=>jL .names w)
 have HIT:=hid (fun w=>jV .names w)
 have HN:=hid hn
 clear hn
 have HF0:=XV hbp h ho
 have HF:=hid HF0.1
 have HOL:=hid HF0.2
 have h1:=bG ho.n
 have h2:=bG ho.q
 have h3:=bG ho.d
 clear hbp h ho HF0
 go_enter Tryz.func55,Tryz.ntmps55
 go_upto_region 2 with(fail)
 change Code.wp _ _ _ _ ((w.alloc (.cells (aF m vn vq vd).toArray 41)).alloc (.cells (mgN (head 0 0)).toArray 41))
 generalize((w.alloc (.cells (aF m vn vq vd).toArray 41)).alloc (.cells (mgN (head 0 0)).toArray 41))=w1 at HF HOL⊢
 generalize w.heap.size+1=q at HF⊢
 generalize w.heap.size=z at HF⊢
 go_wp2_with fail
 refine(HWC.out _).mono ?_
 rintro e w2 ⟨rfl,rfl⟩
 go_wp2_with fail
 refine(HIT.out _).mono ?_
 rintro e w2 ⟨rfl,rfl⟩
 go_wp2_with(refine wlw HF.out.mb 0 (aF m vn vq vd) rfl rfl _ _ rfl rfl _ Tryz.underlying41 rfl aB ?_)
 refine(Zt HF.out.bp HF.out.ln HOL.out HN.out).mono ?_
 rintro e w3 ⟨m',xn,xq,xd,s1,rfl,hol,hfo,hkp,hs,hg⟩
 have HG:=hid hg
 have HFO:=hid hfo
 have HO3:=hid hol
 have HF3:=hid (HF.out.kept hs hkp)
 have h4:=bG hol.n
 have h5:=bG hol.q
 have h6:=bG hol.d
 clear hs hkp hg hfo hol HF HOL h1 h2 h3
 go_wp2_with(refine dA HF3.out.rb 0 (aF m' xn xq xd) _ (bW ..) (Nat.le_refl 36) (bT _ h4 h5 h6) rfl _ _ _ rfl rfl rfl aB ?_;intro wz hs ho;have HZF:=hid hs;have HOF:=hid (ho (fun i=>i=q) rfl _ (Off.refl _ _));clear hs ho)
 obtain⟨r1,r2,r3⟩:=HF3.out.end_ (HO3.out) HOF.out
 exact bodyPost_ret (bf (l:=aF m' xn xq xd) rfl Tryz.underlying41 rfl aB rfl HZF.out) rfl ⟨_,_,_,_,_,rfl,r1,HFO.out,r2,r3,HG.out⟩
theorem Zu{w:World}{p base:Nat}{vn vq vd:Value}{s:ByteArray}{st:Except Nat (List UInt8)}{m:Mg}(hbp:base≤p)(h:RwS w p s st)(ho:OL w base m vn vq vd)(hn:m.aV=[]):
  Calls Tryz.prog 55 #[.pointer (some ⟨p,0,none⟩),iM m vn vq vd,.int .u8 81] w (Yr p base s m .aV st w):=by
 have HWC:=hid (fun w=>jL .aV w)
 have HIT:=hid (fun w=>jV .aV w)
 have HN:=hid hn
 clear hn
 have HF0:=XV hbp h ho
 have HF:=hid HF0.1
 have HOL:=hid HF0.2
 have h1:=bG ho.n
 have h2:=bG ho.q
 have h3:=bG ho.d
 clear hbp h ho HF0
 go_enter Tryz.func55,Tryz.ntmps55
 go_upto_region 2 with(fail)
 change Code.wp _ _ _ _ ((w.alloc (.cells (aF m vn vq vd).toArray 41)).alloc (.cells (mgN (head 0 0)).toArray 41))
 generalize((w.alloc (.cells (aF m vn vq vd).toArray 41)).alloc (.cells (mgN (head 0 0)).toArray 41))=w1 at HF HOL⊢
 generalize w.heap.size+1=q at HF⊢
 generalize w.heap.size=z at HF⊢
 go_wp2_with fail
 refine(HWC.out _).mono ?_
 rintro e w2 ⟨rfl,rfl⟩
 go_wp2_with fail
 refine(HIT.out _).mono ?_
 rintro e w2 ⟨rfl,rfl⟩
 go_wp2_with(refine wlw HF.out.mb 0 (aF m vn vq vd) rfl rfl _ _ rfl rfl _ Tryz.underlying41 rfl aB ?_)
 refine(ZM HF.out.bp HF.out.ln HOL.out HN.out).mono ?_
 rintro e w3 ⟨m',xn,xq,xd,s1,rfl,hol,hfo,hkp,hs,hg⟩
 have HG:=hid hg
 have HFO:=hid hfo
 have HO3:=hid hol
 have HF3:=hid (HF.out.kept hs hkp)
 have h4:=bG hol.n
 have h5:=bG hol.q
 have h6:=bG hol.d
 clear hs hkp hg hfo hol HF HOL h1 h2 h3
 go_wp2_with(refine dA HF3.out.rb 0 (aF m' xn xq xd) _ (bW ..) (Nat.le_refl 36) (bT _ h4 h5 h6) rfl _ _ _ rfl rfl rfl aB ?_;intro wz hs ho;have HZF:=hid hs;have HOF:=hid (ho (fun i=>i=q) rfl _ (Off.refl _ _));clear hs ho)
 obtain⟨r1,r2,r3⟩:=HF3.out.end_ (HO3.out) HOF.out
 exact bodyPost_ret (bf (l:=aF m' xn xq xd) rfl Tryz.underlying41 rfl aB rfl HZF.out) rfl ⟨_,_,_,_,_,rfl,r1,HFO.out,r2,r3,HG.out⟩
theorem Zb{w:World}{p base:Nat}{vn vq vd:Value}{s:ByteArray}{st:Except Nat (List UInt8)}{m:Mg}(hbp:base≤p)(h:RwS w p s st)(ho:OL w base m vn vq vd)(f:Fld)(h1:f= .names→m.names=[])(h2:f= .aV→m.aV=[]):
  Calls Tryz.prog 55 #[.pointer (some ⟨p,0,none⟩),iM m vn vq vd,.int .u8 (f.rX.toNat:Int)] w (Yr p base s m f st w):=by
 by_cases hw:0<f.width
 ·exact ZJ hbp h ho f hw
 by_cases ht:f.isText=true
 ·exact ZK hbp h ho f ht
 cases f<;>first|exact absurd (by decide) hw|exact absurd rfl ht|exact ZL hbp h ho|exact Zp hbp h ho|exact Zq hbp h ho|exact Za hbp h ho (h1 rfl)|exact Zu hbp h ho (h2 rfl)
def Zv:List UInt8:=[109,118,97,117,110,101,111,102,119,78,81,113,100,105,99,112,79,67,68,83]
def YT:List ByteArray:=[⟨#[109,115,105,122,101]⟩,⟨#[118,101,114,115,105,111,110]⟩,⟨#[97,102,105,100]⟩,⟨#[117,110,97,109,101]⟩,⟨#[97,110,97,109,101]⟩,⟨#[101,110,97,109,101]⟩,⟨#[111,108,100,116,97,103]⟩,⟨#[102,105,100]⟩,⟨#[110,101,119,102,105,100]⟩,⟨#[110,97,109,101,115]⟩,⟨#[113,105,100,115]⟩,⟨#[113,105,100]⟩,⟨#[109,111,100,101]⟩,⟨#[105,111,117,110,105,116]⟩,⟨#[110,97,109,101]⟩,⟨#[112,101,114,109]⟩,⟨#[111,102,102,115,101,116]⟩,⟨#[99,111,117,110,116]⟩,⟨#[100,97,116,97]⟩,⟨#[115,116,97,116]⟩]
theorem ZP(f:Fld):Zv[f.ix]? =some f.rX∧YT[f.ix]? =some (ofL f.word)∧f.ix<20:=by cases f<;>exact⟨rfl,rfl,by decide⟩
theorem Zw(f:Fld):∀j,j<f.ix→∃c,Zv[j]? =some c∧((c.toNat:Int)==(f.rX.toNat:Int))=false:=by
 intro j hj
 have aat:j<20:=Nat.lt_trans hj (ZP f).2.2
 have h:∀i,i<f.ix→(Zv.getD i 0 != f.rX)=true:=by cases f<;>decide
 refine⟨Zv[j]'aat,List.getElem?_eq_getElem _, ?_⟩
 have h1:=h j hj
 rw[List.getD_eq_getElem?_getD,List.getElem?_eq_getElem (show j<Zv.length from aat),Option.getD_some,bne_iff_ne]at h1
 rw[beq_eq_false_iff_ne]
 intro e
 exact h1 (UInt8.toNat_inj.1 (by omega))
theorem Zx(f:Fld)(w:World):Calls Tryz.prog 54 #[.int .u8 (f.rX.toNat:Int)] w fun e w'=>e= .returned (.string (ofL f.word))∧Below w.heap.size w w':=by
 obtain⟨hl,hwd,h20⟩:=ZP f
 have HB:=hid (Zw f)
 have HL:=hid hl
 have HW:=hid hwd
 clear hl hwd
 have hup:Below w.heap.size w (w.alloc (.cells (h_ YT).toArray 9)):=(Below.refl _ _).alloc (Nat.le_refl _) _
 have HUP:=hid hup
 have HN:=hid (Blk.new w 9 (h_ YT).toArray)
 clear hup
 generalize f.rX=lc at HB HL⊢
 generalize f.ix=ix at HB HL HW h20
 generalize ofL f.word=wd at HW⊢
 go_enter Tryz.func54,Tryz.ntmps54
 go_upto_region 3 with(fail)
 change Code.wp _ _ _ _ (w.alloc (.cells (h_ YT).toArray 9))
 generalize w.alloc (.cells (h_ YT).toArray 9)=w1 at HUP HN⊢
 generalize hz:w.heap.size=z at HN⊢
 have HZ:=hid hz
 clear hz
 obtain⟨LT,hLT⟩:∃LT,LT=(⟨Zv.toArray⟩:ByteArray):=⟨_,rfl⟩
 rw[show(⟨#[109,118,97,117,110,101,111,102,119,78,81,113,100,105,99,112,79,67,68,83]⟩:ByteArray)=LT from hLT.symm]
 have hLS:LT.size=20:=by rw[hLT];rfl
 have HLL:=hid (show LT.data.toList=Zv from by rw[hLT])
 clear hLT
 go_upto_region 4 with(fail)
 go_loop [5] (fun i=>∃j:Nat,i= .int .i64 (j:Int)∧j≤ix) (fun i=>ix+1-(intOf i).toNat)
 case atStart=>exact⟨0,rfl,Nat.zero_le _⟩
 case round=>
  obtain⟨j,rfl,hj⟩:=hrel
  have hjs:j<LT.size:=by omega
  have aat:(j:Int)<20:=by omega
  obtain⟨c,hc⟩:∃c,c=LT[j]'hjs:=⟨_,rfl⟩
  have HCA:=hid (show Zv[j]? =some c from by rw[←HLL.out,hc];exact byte_at LT j hjs)
  have hidx:LT[j]'hjs=c:=hc.symm
  clear hc
  by_cases he:j=ix
  ·have hcl:c=lc:=by
    have h:=HL.out
    rw[←he,HCA.out]at h
    injection h
   subst hcl
   have hb:((c.toNat:Int)==(c.toNat:Int))=true:=beq_self_eq_true _
   have kx:w1.cell? ⟨z,j,none⟩=some (.string wd):=(Blk.cell HN.out j).trans (by rw[List.getElem?_toArray,h_,List.getElem?_map,he,HW.out];rfl)
   clear he
   go_wp2_with fail
   exact bodyPost_ret (v:= .string wd) (by simp[results,Tryz.results54]) rfl ⟨rfl,HUP.out⟩
  ·have hb:((c.toNat:Int)==(lc.toNat:Int))=false:=by
    obtain⟨c',h1,h2⟩:=HB.out j (by omega)
    rw[HCA.out]at h1
    injection h1 with h1
    rw[h1]
    exact h2
   go_wp2_with fail
   go_round
   case rel=>exact⟨j+1,by go_num,by omega⟩
   case measure=>first|(simp[intOf];done)|(simp[intOf];omega)
theorem YB(f:Fld)(hf:f.isText=true)(m:Mg)(vn vq vd:Value)(w:World):Calls Tryz.prog 108 #[iM m vn vq vd,.int .u8 (f.rX.toNat:Int)] w fun e w'=>e= .returned (.string (m.txt f))∧Below w.heap.size w w':=by
 have hup:Below w.heap.size w (w.alloc (.cells (aF m vn vq vd).toArray 41)):=(Below.refl _ _).alloc (Nat.le_refl _) _
 have HU:=hid hup
 have HM:=hid (show aK (w.alloc (.cells (aF m vn vq vd).toArray 41)) w.heap.size m vn vq vd from Blk.new w _ _)
 clear hup
 cases f<;>try exact absurd hf (by decide)
 ·as_aux_lemma=>
  change Calls Tryz.prog 108 #[iM m vn vq vd,.int .u8 118] w _
  go_enter Tryz.func108,Tryz.ntmps108
  go_upto_region 1 with(fail)
  change Code.wp _ _ _ _ (w.alloc (.cells (aF m vn vq vd).toArray 41))
  generalize w.alloc (.cells (aF m vn vq vd).toArray 41)=w1 at HU HM⊢
  generalize hz:w.heap.size=z at HM⊢
  have HZZ:=hid hz;clear hz
  have k1:w1.cell? ⟨z,3,none⟩=some (.string m.version):=Blk.cell HM.out 3
  go_wp2_with fail
  exact bodyPost_ret (v:= .string m.version) (by simp[results,Tryz.results108]) rfl ⟨rfl,HU.out⟩
 ·as_aux_lemma=>
  change Calls Tryz.prog 108 #[iM m vn vq vd,.int .u8 117] w _
  go_enter Tryz.func108,Tryz.ntmps108
  go_upto_region 1 with(fail)
  change Code.wp _ _ _ _ (w.alloc (.cells (aF m vn vq vd).toArray 41))
  generalize w.alloc (.cells (aF m vn vq vd).toArray 41)=w1 at HU HM⊢
  generalize hz:w.heap.size=z at HM⊢
  have HZZ:=hid hz;clear hz
  have k1:w1.cell? ⟨z,5,none⟩=some (.string m.uname):=Blk.cell HM.out 5
  go_wp2_with fail
  exact bodyPost_ret (v:= .string m.uname) (by simp[results,Tryz.results108]) rfl ⟨rfl,HU.out⟩
 ·as_aux_lemma=>
  change Calls Tryz.prog 108 #[iM m vn vq vd,.int .u8 110] w _
  go_enter Tryz.func108,Tryz.ntmps108
  go_upto_region 1 with(fail)
  change Code.wp _ _ _ _ (w.alloc (.cells (aF m vn vq vd).toArray 41))
  generalize w.alloc (.cells (aF m vn vq vd).toArray 41)=w1 at HU HM⊢
  generalize hz:w.heap.size=z at HM⊢
  have HZZ:=hid hz;clear hz
  have k1:w1.cell? ⟨z,6,none⟩=some (.string m.bF):=Blk.cell HM.out 6
  go_wp2_with fail
  exact bodyPost_ret (v:= .string m.bF) (by simp[results,Tryz.results108]) rfl ⟨rfl,HU.out⟩
 ·as_aux_lemma=>
  change Calls Tryz.prog 108 #[iM m vn vq vd,.int .u8 101] w _
  go_enter Tryz.func108,Tryz.ntmps108
  go_upto_region 1 with(fail)
  change Code.wp _ _ _ _ (w.alloc (.cells (aF m vn vq vd).toArray 41))
  generalize w.alloc (.cells (aF m vn vq vd).toArray 41)=w1 at HU HM⊢
  generalize hz:w.heap.size=z at HM⊢
  have HZZ:=hid hz;clear hz
  have k1:w1.cell? ⟨z,7,none⟩=some (.string m.bH):=Blk.cell HM.out 7
  go_wp2_with fail
  exact bodyPost_ret (v:= .string m.bH) (by simp[results,Tryz.results108]) rfl ⟨rfl,HU.out⟩
 ·as_aux_lemma=>
  change Calls Tryz.prog 108 #[iM m vn vq vd,.int .u8 99] w _
  go_enter Tryz.func108,Tryz.ntmps108
  go_upto_region 1 with(fail)
  change Code.wp _ _ _ _ (w.alloc (.cells (aF m vn vq vd).toArray 41))
  generalize w.alloc (.cells (aF m vn vq vd).toArray 41)=w1 at HU HM⊢
  generalize hz:w.heap.size=z at HM⊢
  have HZZ:=hid hz;clear hz
  have k1:w1.cell? ⟨z,18,none⟩=some (.string m.name):=Blk.cell HM.out 18
  go_wp2_with fail
  exact bodyPost_ret (v:= .string m.name) (by simp[results,Tryz.results108]) rfl ⟨rfl,HU.out⟩
theorem Zc(s:Sta)(hs:dY s≤16777216)(w:World):Calls Tryz.prog 186 #[stV s] w fun e w'=>e= .returned (.int .i64 (dY s:Int))∧Below w.heap.size w w':=by
 have hup:Below w.heap.size w (w.alloc (.cells (stL s).toArray 39)):=(Below.refl _ _).alloc (Nat.le_refl _) _
 have HU:=hid hup
 have HM:=hid (Blk.new w 39 (stL s).toArray)
 have HE:=hid (show((49:Int)+(s.name.size:Int)+(s.uid.size:Int)+(s.gid.size:Int)+(s.fE.size:Int))=(dY s:Int)from by unfold dY;omega)
 unfold dY at hs
 clear hup
 go_enter Tryz.func186,Tryz.ntmps186
 go_upto_region 1 with(fail)
 change Code.wp _ _ _ _ (w.alloc (.cells (stL s).toArray 39))
 generalize w.alloc (.cells (stL s).toArray 39)=w1 at HU HM⊢
 generalize hz:w.heap.size=z at HM⊢
 have HZZ:=hid hz;clear hz
 have k1:w1.cell? ⟨z,9,none⟩=some (.string s.name):=Blk.cell HM.out 9
 have k2:w1.cell? ⟨z,10,none⟩=some (.string s.uid):=Blk.cell HM.out 10
 have k3:w1.cell? ⟨z,11,none⟩=some (.string s.gid):=Blk.cell HM.out 11
 have k4:w1.cell? ⟨z,12,none⟩=some (.string s.fE):=Blk.cell HM.out 12
 go_wp2_with fail
 rw[HE.out]
 exact bodyPost_ret (v:= .int .i64 (dY s:Int)) (by simp[results,Tryz.results186]) rfl ⟨rfl,HU.out⟩
theorem Z8{f:Fld}(hf:0<f.width)(m:Mg):m.long f=f.width:=by cases f<;>first|rfl|exact absurd hf (by decide)
theorem YU{f:Fld}(hf:f.isText=true)(m:Mg):m.long f=2+(m.txt f).size:=by cases f<;>first|rfl|exact absurd hf (by decide)
theorem Zy{l:List ByteArray}{k:Nat}{x:ByteArray}(h:l[k]? =some x):((l.take (k+1)).map fun s=>2+s.size).sum=((l.take k).map fun s=>2+s.size).sum+(2+x.size):=by
 rw[List.take_add_one,h,Option.toList_some,List.map_append,List.sum_append]
 simp
theorem Zd:∀l:List ByteArray,2*l.length≤(l.map fun s=>2+s.size).sum
 | []=>Nat.le_refl _
 |x::l=>by
  have:=Zd l
  simp only[List.length_cons,List.map_cons,List.sum_cons]
  omega
theorem Zz(l:List ByteArray)(k:Nat):((l.take k).map fun s=>2+s.size).sum≤(l.map fun s=>2+s.size).sum:=by
 have h:(l.map fun s=>2+s.size).sum=((l.take k).map fun s=>2+s.size).sum+((l.drop k).map fun s=>2+s.size).sum:=by
  rw[←List.sum_append,←List.map_append,List.take_append_drop]
 omega
theorem Yj(f:Fld)(m:Mg)(vn vq vd:Value)(w:World)(hl:Lists w w.heap.size m vn vq vd)(hs:m.long f≤16777216):
  Calls Tryz.prog 109 #[iM m vn vq vd,.int .u8 (f.rX.toNat:Int)] w fun e w'=>e= .returned (.int .i64 (m.long f:Int))∧Below w.heap.size w w':=by
 have hup:Below w.heap.size w (w.alloc (.cells (aF m vn vq vd).toArray 41)):=(Below.refl _ _).alloc (Nat.le_refl _) _
 have HU:=hid hup
 have HM:=hid (show aK (w.alloc (.cells (aF m vn vq vd).toArray 41)) w.heap.size m vn vq vd from Blk.new w _ _)
 clear hup
 have HL:=hid hl
 clear hl
 have HWC:=hid (jL f)
 have HIT:=hid (jV f)
 by_cases hw:0<f.width
 ·have HE:=hid (show(f.width:Int)=(m.long f:Int)from by rw[Z8 hw])
  have hw1:(0:Int)<(f.width:Int):=by omega
  clear hw
  go_enter Tryz.func109,Tryz.ntmps109
  go_upto_region 1 with(fail)
  change Code.wp _ _ _ _ (w.alloc (.cells (aF m vn vq vd).toArray 41))
  generalize w.alloc (.cells (aF m vn vq vd).toArray 41)=w1 at HU HM⊢
  generalize hz:w.heap.size=z at HM⊢
  have HZZ:=hid hz;clear hz
  go_wp2_with fail
  refine(HWC.out _).mono ?_
  rintro e w2 ⟨rfl,rfl⟩
  go_wp2_with fail
  refine(HWC.out _).mono ?_
  rintro e w2 ⟨rfl,rfl⟩
  go_wp2_with fail
  exact bodyPost_ret (v:= .int .i64 (f.width:Int)) (by simp[results,Tryz.results109]) rfl ⟨by rw[HE.out],HU.out⟩
 have hw0:f.width=0:=by omega
 clear hw
 rw[hw0]at HWC
 by_cases ht:f.isText=true
 ·have HE:=hid (show(2:Int)+((m.txt f).size:Int)=(m.long f:Int)from by rw[YU ht];omega)
  have HTX:=hid (fun w=>YB f ht m vn vq vd w)
  rw[ht]at HIT
  rw[YU ht]at hs
  generalize m.txt f=T at HTX HE hs
  have hs':T.size≤16777216:=by omega
  clear hs ht
  go_enter Tryz.func109,Tryz.ntmps109
  go_upto_region 1 with(fail)
  change Code.wp _ _ _ _ (w.alloc (.cells (aF m vn vq vd).toArray 41))
  generalize w.alloc (.cells (aF m vn vq vd).toArray 41)=w1 at HU HM⊢
  generalize hz:w.heap.size=z at HM⊢
  have HZZ:=hid hz;clear hz
  go_wp2_with fail
  refine(HWC.out _).mono ?_
  rintro e w2 ⟨rfl,rfl⟩
  go_wp2_with fail
  refine(HIT.out _).mono ?_
  rintro e w2 ⟨rfl,rfl⟩
  go_wp2_with(refine wlw HM.out 0 (aF m vn vq vd) rfl rfl _ _ rfl rfl _ Tryz.underlying41 rfl aB ?_)
  refine(HTX.out _).mono ?_
  rintro e w2 ⟨rfl,hb⟩
  have HB2:=hid (HU.out.trans (hb.mono HU.out.size))
  clear hb
  go_wp2_with fail
  rw[HE.out]
  exact bodyPost_ret (v:= .int .i64 (m.long f:Int)) (by simp[results,Tryz.results109]) rfl ⟨rfl,HB2.out⟩
 rw[Bool.not_eq_true]at ht
 rw[ht]at HIT
 cases f<;>first|(exact absurd hw0 (by decide))|(exact absurd ht (by decide))|skip
 ·as_aux_lemma=>
  change Calls Tryz.prog 109 #[iM m vn vq vd,.int .u8 78] w _
  clear hw0 ht
  go_enter Tryz.func109,Tryz.ntmps109
  go_upto_region 1 with(fail)
  change Code.wp _ _ _ _ (w.alloc (.cells (aF m vn vq vd).toArray 41))
  generalize w.alloc (.cells (aF m vn vq vd).toArray 41)=w1 at HU HM⊢
  generalize hz:w.heap.size=z at HM⊢
  have HZZ:=hid hz;clear hz
  go_wp2_with fail
  refine(HWC.out _).mono ?_
  rintro e w2 ⟨rfl,rfl⟩
  go_wp2_with fail
  refine(HIT.out _).mono ?_
  rintro e w2 ⟨rfl,rfl⟩
  obtain⟨A,c,hv,hc,hm,hrd⟩:=HL.out.n
  subst hv
  have HNM:=hid (show iW w1 w.heap.size (.slice A m.names.length c) m.names from by exact HL.out.n.below HU.out)
  have hsum:2+(m.names.map fun s=>2+s.size).sum≤16777216:=hs
  have kn:w1.cell? ⟨z,11,none⟩=some (.slice A m.names.length c):=Blk.cell HM.out 11
  have hnl:m.names.length≤16777216:=by have:=Zd m.names;omega
  generalize hnm:m.names=nm at*
  have HNN:=hid hnm
  clear hnm hrd hc hm hs
  go_upto_region 8 with(fail)
  go_loop [5,6] (fun n i=>∃k sm:Nat,n= .int .i64 ((sm:Int)+2)∧i= .int .i64 (k:Int)∧k≤nm.length∧Hid (sm=((nm.take k).map fun s=>2+s.size).sum)) (fun _ i=>nm.length-(intOf i).toNat)
  case atStart=>exact⟨0,0,rfl,rfl,Nat.zero_le _,hid rfl⟩
  case round=>
   obtain⟨k,sm,rfl,rfl,hk,HSM⟩:=hrel
   by_cases hlt:k<nm.length
   ·obtain⟨x,hx⟩:∃x,nm[k]? =some x:=⟨nm[k],List.getElem?_eq_getElem _⟩
    obtain⟨ad,hA, -,kx⟩:=HNM.out.at_ hx
    subst hA
    have HST:=hid (Zy hx)
    have hle2:=Zz nm (k+1)
    rw[HST.out,←HSM.out]at hle2
    have hb2:sm+x.size≤16777216:=by omega
    have HLT:=hid hlt
    clear hx hle2
    go_wp2_with fail
    go_round
    case rel=>exact⟨k+1,sm+(2+x.size),by go_num,by go_num,HLT.out,hid (by rw[HST.out,←HSM.out])⟩
    case measure=>first|(simp[intOf];done)|(have:=HLT.out;simp[intOf];omega)
   ·have HE:=hid (show((sm:Int)+2)=(m.long .names:Int)from by
     have h:=HSM.out
     rw[List.take_of_length_le (by omega),←HNN.out]at h
     show _=((2+(m.names.map fun s=>2+s.size).sum:Nat):Int)
     omega)
    go_wp2_with fail
    exact bodyPost_ret (v:= .int .i64 ((sm:Int)+2)) (by simp[results,Tryz.results109]) rfl ⟨by rw[HE.out],HU.out⟩
 ·as_aux_lemma=>
  change Calls Tryz.prog 109 #[iM m vn vq vd,.int .u8 81] w _
  clear hw0 ht
  go_enter Tryz.func109,Tryz.ntmps109
  go_upto_region 1 with(fail)
  change Code.wp _ _ _ _ (w.alloc (.cells (aF m vn vq vd).toArray 41))
  generalize w.alloc (.cells (aF m vn vq vd).toArray 41)=w1 at HU HM⊢
  generalize hz:w.heap.size=z at HM⊢
  have HZZ:=hid hz;clear hz
  go_wp2_with fail
  refine(HWC.out _).mono ?_
  rintro e w2 ⟨rfl,rfl⟩
  go_wp2_with fail
  refine(HIT.out _).mono ?_
  rintro e w2 ⟨rfl,rfl⟩
  obtain⟨A,c,hv,hc,hm,hrd⟩:=HL.out.q
  subst hv
  have hsum:2+13*m.aV.length≤16777216:=hs
  have kn:w1.cell? ⟨z,12,none⟩=some (.slice A m.aV.length c):=Blk.cell HM.out 12
  have HE:=hid (show((2:Int)+13*(m.aV.length:Int))=(m.long .aV:Int)from by show _=((2+13*m.aV.length:Nat):Int);omega)
  clear hrd hs
  go_wp2_with fail
  rw[HE.out]
  exact bodyPost_ret (v:= .int .i64 (m.long .aV:Int)) (by simp[results,Tryz.results109]) rfl ⟨rfl,HU.out⟩
 ·as_aux_lemma=>
  change Calls Tryz.prog 109 #[iM m vn vq vd,.int .u8 113] w _
  clear hw0 ht
  go_enter Tryz.func109,Tryz.ntmps109
  go_upto_region 1 with(fail)
  change Code.wp _ _ _ _ (w.alloc (.cells (aF m vn vq vd).toArray 41))
  generalize w.alloc (.cells (aF m vn vq vd).toArray 41)=w1 at HU HM⊢
  generalize hz:w.heap.size=z at HM⊢
  have HZZ:=hid hz;clear hz
  go_wp2_with fail
  refine(HWC.out _).mono ?_
  rintro e w2 ⟨rfl,rfl⟩
  go_wp2_with fail
  refine(HIT.out _).mono ?_
  rintro e w2 ⟨rfl,rfl⟩
  go_wp2_with fail
  exact bodyPost_ret (v:= .int .i64 13) (by simp[results,Tryz.results109]) rfl ⟨rfl,HU.out⟩
 ·as_aux_lemma=>
  change Calls Tryz.prog 109 #[iM m vn vq vd,.int .u8 68] w _
  clear hw0 ht
  go_enter Tryz.func109,Tryz.ntmps109
  go_upto_region 1 with(fail)
  change Code.wp _ _ _ _ (w.alloc (.cells (aF m vn vq vd).toArray 41))
  generalize w.alloc (.cells (aF m vn vq vd).toArray 41)=w1 at HU HM⊢
  generalize hz:w.heap.size=z at HM⊢
  have HZZ:=hid hz;clear hz
  go_wp2_with fail
  refine(HWC.out _).mono ?_
  rintro e w2 ⟨rfl,rfl⟩
  go_wp2_with fail
  refine(HIT.out _).mono ?_
  rintro e w2 ⟨rfl,rfl⟩
  obtain⟨A,c,hv,hc,hm,hrd⟩:=HL.out.d
  subst hv
  have hsum:4+m.data.length≤16777216:=hs
  have kn:w1.cell? ⟨z,22,none⟩=some (.slice A m.data.length c):=Blk.cell HM.out 22
  have HE:=hid (show((4:Int)+(m.data.length:Int))=(m.long .data:Int)from by show _=((4+m.data.length:Nat):Int);omega)
  clear hrd hs
  go_wp2_with fail
  rw[HE.out]
  exact bodyPost_ret (v:= .int .i64 (m.long .data:Int)) (by simp[results,Tryz.results109]) rfl ⟨rfl,HU.out⟩
 ·as_aux_lemma=>
  change Calls Tryz.prog 109 #[iM m vn vq vd,.int .u8 83] w _
  clear hw0 ht
  go_enter Tryz.func109,Tryz.ntmps109
  go_upto_region 1 with(fail)
  change Code.wp _ _ _ _ (w.alloc (.cells (aF m vn vq vd).toArray 41))
  generalize w.alloc (.cells (aF m vn vq vd).toArray 41)=w1 at HU HM⊢
  generalize hz:w.heap.size=z at HM⊢
  have HZZ:=hid hz;clear hz
  go_wp2_with fail
  refine(HWC.out _).mono ?_
  rintro e w2 ⟨rfl,rfl⟩
  go_wp2_with fail
  refine(HIT.out _).mono ?_
  rintro e w2 ⟨rfl,rfl⟩
  have hsum:2+dY m.stat≤16777216:=hs
  have HE:=hid (show((2:Int)+(dY m.stat:Int))=(m.long .stat:Int)from by show _=((2+dY m.stat:Nat):Int);omega)
  have HSZ:=hid (fun w=>Zc m.stat (by omega) w)
  clear hs
  go_wp2_with(refine wlw HM.out 23 (stL m.stat) rfl rfl _ _ rfl rfl _ Tryz.underlying39 rfl bP ?_)
  refine(HSZ.out _).mono ?_
  rintro e w2 ⟨rfl,hb⟩
  have HB2:=hid (HU.out.trans (hb.mono HU.out.size))
  clear hb
  generalize dY m.stat=sz at hsum HE⊢
  go_wp2_with fail
  rw[HE.out]
  exact bodyPost_ret (v:= .int .i64 (m.long .stat:Int)) (by simp[results,Tryz.results109]) rfl ⟨rfl,HB2.out⟩
end Go.Proofs.YtkblmloobkiloaaGreatDoor
