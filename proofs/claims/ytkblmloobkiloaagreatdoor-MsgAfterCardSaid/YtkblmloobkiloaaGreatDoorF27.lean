/-
  MUE MRZ MUF MSA: what the laws of package msg need of them.
-/
import Derived.Test.YtkblmloobkiloaaGreatDoorF00
import Derived.Test.YtkblmloobkiloaaGreatDoorF25
import Derived.Test.YtkblmloobkiloaaGreatDoorF26
import Derived.Test.YtkblmloobkiloaaGreatDoorF22
set_option maxRecDepth 100000
set_option maxHeartbeats 6400000
namespace Go.Proofs.YtkblmloobkiloaaGreatDoor
open Go.Lib (hid)
open Go.RowKit
theorem Yo:∀(n:Nat) (l:List UInt8),l.length≤n→(XT l).length≤l.length
 |0,l,h=>by rw[Yf (by omega)];exact Nat.zero_le _
 |n+1,l,h=>by
  rcases l with _|⟨c,l⟩
  ·exact Nat.le_refl _
  by_cases hs:l.length=0
  ·rw[Yf (by simp[hs])];exact Nat.zero_le _
  by_cases hc:c.toNat=92
  ·have hc:c=92:=UInt8.toNat_inj.1 hc
   subst hc
   rcases l with _|⟨d,l⟩
   ·exact absurd rfl hs
   by_cases hd:d.toNat=120
   ·have hd:d=120:=UInt8.toNat_inj.1 hd
    subst hd
    rcases l with _|⟨a,_|⟨b,l⟩⟩
    ·rw[(Yw 120 0).1];simp
    ·rw[(Yw 120 a).2];simp
    ·rw[YI]
     have ih:=Yo n l (by simp at h;omega)
     simp only[List.length_cons]at*
     omega
   ·rw[YJ hd]
    have ih:=Yo n l (by simp at h;omega)
    simp only[List.length_cons]at*
    omega
  ·rw[YH hc l (fun e=>hs (by rw[e];rfl))]
   have ih:=Yo n l (by simp at h;omega)
   simp only[List.length_cons]at*
   omega
theorem Y4(l:List UInt8):Yi (.ok l) ⟨#[34]⟩=(l.head?==some 34):=by
 cases l with
 |nil=>rfl
 |cons c l=>show((34:UInt8)==c&&true)=(some c==some 34);rw[Bool.and_true,Bool.eq_iff_iff,beq_iff_eq,beq_iff_eq];constructor<;>(intro h;first|(rw[h])|(injection h with h;rw[h]))
theorem Z4{l:List UInt8}(h:(l.head?==some 34)=false):YL l= .error l.length:=by
 cases l with
 |nil=>rfl
 |cons c l=>
  unfold YL
  dsimp only
  rw[if_pos]
  intro hc
  rw[show c=34 from UInt8.toNat_inj.1 hc]at h
  simp at h
theorem ZO(r:List UInt8):YL (34::r)=match XW r with|none=> .error (r.length+1)|some n=>if good (ofL (XT (r.take (n+1))))=true∧Ah (XT (r.take (n+1)))=34::r.take (n+1)then .ok (ofL (XT (r.take (n+1))),r.drop (n+1))else .error (r.length+1):=by
 unfold YL
 dsimp only
 rw[if_neg (by decide)]
 rfl
theorem YQ{r u:List UInt8}{k i:Nat}(h:XW r=(XW u).map (· +k)){v:List UInt8}(hu:XW u=(XW v).map (· +i)):XW r=(XW v).map (· +(k+i)):=by
 rw[h,hu,Option.map_map]
 congr 1
 funext x
 show x+i+k=x+(k+i)
 omega
theorem Z5(u:List UInt8):XW (92::u)=(XW (u.drop 1)).map (· +2):=by
 cases u with
 |nil=>rfl
 |cons c u=>exact Y5 c u
theorem XY{w:World}{p:Nat}{s:ByteArray}{st:Except Nat (List UInt8)}(h:RwS w p s st):
  Calls Tryz.prog 102 #[.pointer (some ⟨p,0,none⟩)] w (Yn p s (fun t:ByteArray=> .string t) (fun t=>t.size≤16777216) (st >>= dJ) (fun i=>i=p) w):=by
 have HH:=hid (Yh ⟨#[34]⟩ (by decide) h)
 obtain⟨a,b,hb,ha,hz,hst⟩:=h
 have HBK:=hid hb
 have HST:=hid hst
 clear hb hst
 go_enter Tryz.func102,Tryz.ntmps102
 go_wp2_with fail
 refine HH.out.mono ?_
 rintro e w1 ⟨rfl,hb⟩
 have HB1:=hid (Blk.below HBK.out hb (Blk.lt HBK.out))
 have HO:=hid (Off.of_below (S:=fun i=>i=p) hb)
 clear hb HBK HH
 have k0:w1.cell? ⟨p,0,none⟩=some (.string s):=HB1.out.cell 0
 have k1:w1.cell? ⟨p,1,none⟩=some (.int .i64 (a:Int)):=HB1.out.cell 1
 have k2:w1.cell? ⟨p,2,none⟩=some (.bool b):=HB1.out.cell 2
 have z2:w1.frozen? ⟨p,2,none⟩=false:=HB1.out.frozen 2
 have HBE:=hid (show∀st:Except Nat (ByteArray×List UInt8),XZ st e0 (.error (s.size-a))→Yn p s (fun t:ByteArray=> .string t) (fun t=>t.size≤16777216) st (fun i=>i=p) w (.returned (.string e0)) (w1.setCell ⟨p,2,none⟩ (.bool true))from fun st h=>⟨e0,_,rfl,by decide,RwS.bad HB1.out ha hz,h,HO.out.trans (Yk w1 p 2 (.bool true))⟩)
 have hq:Yi st ⟨#[34]⟩=true→b=false∧(s.data.toList.drop a).head?=some 34:=by
  rw[HST.out]
  cases b with
  |true=>intro h;cases h
  |false=>intro h;exact⟨rfl,beq_iff_eq.1 ((Y4 _).symm.trans h)⟩
 have hq':Yi st ⟨#[34]⟩=false→(st >>= dJ)= .error (s.size-a):=by
  rw[HST.out]
  cases b with
  |true=>intro h;rfl
  |false=>
   intro h
   show dJ (s.data.toList.drop a)=_
   rw[←Zi,Z4 ((Y4 _).symm.trans h),List.length_drop,Array.length_toList]
   rfl
 cases hh:Yi st ⟨#[34]⟩with
 |false=>
  have HG:=hid (hq' hh)
  clear hq hq' hh
  go_upto_region 3 with(fail)
  go_loop [4] (fun i=>i= .int .i64 ((a:Int)+1)) (fun _=>0)
  case atStart=>rfl
  case round=>
   subst hrel
   go_wp2_with fail
   exact bodyPost_ret (v:= .string e0) (by simp[results,Tryz.results102]) rfl (HBE.out _ (by rw[HG.out];rfl))
 |true=>
  obtain⟨rfl,hhd⟩:=hq hh
  obtain rfl:st= .ok (s.data.toList.drop a):=HST.out
  clear hq hq' hh HST
  have hal:a+1≤s.size:=by
   have h:0<(s.data.toList.drop a).length:=by
    cases hx:s.data.toList.drop a with
    |nil=>rw[hx]at hhd;cases hhd
    |cons c l=>exact Nat.succ_pos _
   rw[List.length_drop,Array.length_toList]at h
   have h:0<s.size-a:=h
   omega
  have HDL:=hid (show s.data.toList.drop a=34::s.data.toList.drop (a+1)from by
   have h:=hhd
   rw[List.head?_drop]at h
   exact drop_at _ _ _ h)
  have HRT:=hid (show(Except.ok (s.data.toList.drop a) >>= dJ)=YL (34::s.data.toList.drop (a+1))from by rw[←HDL.out,Zi];rfl)
  have HLN:=hid (show(s.data.toList.drop (a+1)).length+1=s.size-a from by
   rw[List.length_drop,Array.length_toList]
   show s.size-(a+1)+1=s.size-a
   omega)
  clear hhd
  go_upto_region 3 with(fail)
  go_loop [4] (fun i=>∃j:Nat,i= .int .i64 (j:Int)∧a+1≤j∧j≤s.size+1∧Hid (XW (s.data.toList.drop (a+1))=(XW (s.data.toList.drop j)).map (· +(j-(a+1))))) (fun i=>s.size+1-(intOf i).toNat)
  case atStart=>exact⟨a+1,by go_num,Nat.le_refl _,by omega,hid (by simp)⟩
  case round=>
   obtain⟨j,rfl,hj1,hj2,HS⟩:=hrel
   by_cases hlt:j<s.size
   ·obtain⟨c,hc⟩:∃c,c=s[j]'hlt:=⟨_,rfl⟩
    have HCA:=hid (show s.data.toList[j]? =some c from by rw[hc];exact byte_at s j hlt)
    have HCD:=hid (drop_at _ j c HCA.out)
    have hidx:s[j]'hlt=c:=hc.symm
    clear hc
    by_cases h34:c.toNat=34
    ·have b34:((c.toNat:Int) != 34)=false:=by rw[bne_eq_false_iff_eq];omega
     have HSN:=hid (show XW (s.data.toList.drop (a+1))=some (j-(a+1))from by
      rw[HS.out,HCD.out,XW.eq_def]
      dsimp only
      rw[if_pos h34]
      simp)
     clear h34
     have HLT:=hid hlt
     go_upto_region 10 with(fail)
     have HX:=hid (show(s.extract a (j+1)).data.toList=34::(s.data.toList.drop (a+1)).take (j-(a+1)+1)from by
      rw[show j+1=a+(j+1-a) by omega,YM,HDL.out,show j+1-a=(j-(a+1)+1)+1 by omega,List.take_succ_cons])
     have hXz:(s.extract a (j+1)).size≤16777216:=by
      rw[ByteArray.size_extract]
      omega
     have hX1:1≤(s.extract a (j+1)).size:=by
      rw[ByteArray.size_extract]
      omega
     have k1d:w1.drew.cell? ⟨p,1,none⟩=some (.int .i64 (a:Int)):=k1
     have k0d:w1.drew.cell? ⟨p,0,none⟩=some (.string s):=k0
     go_region
     have HBD:=hid (show Blk w1.drew p 106 #[.string s,.int .i64 (a:Int),.bool false]from HB1.out)
     have HOD:=hid (HO.out.drew)
     clear k0 k1 k2 z2 k1d k0d hidx HBE HO HB1
     generalize w1.drew=w2 at HBD HOD⊢
     obtain⟨X,hX⟩:∃X,X=s.extract a (j+1):=⟨_,rfl⟩
     rw[←hX]at HX hXz hX1⊢
     have HXE:=hid hX
     clear hX
     have HPL:=hid (Y7 X hX1 hXz w2)
     obtain⟨Y,hY⟩:∃Y,Y=XT ((s.data.toList.drop (a+1)).take (j-(a+1)+1)):=⟨_,rfl⟩
     rw[HX.out,List.drop_succ_cons,List.drop_zero,←hY]at HPL
     have hYl:Y.length≤16777216:=by
      rw[hY]
      refine Nat.le_trans (Yo _ _ (Nat.le_refl _)) ?_
      rw[List.length_take,List.length_drop,Array.length_toList]
      exact Nat.le_trans (Nat.min_le_right _ _) (by show s.size-(a+1)≤_;omega)
     have HRP:=hid (show(Except.ok (s.data.toList.drop a) >>= dJ)=if good (ofL Y)=true∧Ah Y=X.data.toList then .ok (ofL Y,(s.data.toList.drop a).drop (j-a+1))else .error (s.size-a)from by
      rw[HRT.out,ZO,HSN.out]
      dsimp only
      rw[←hY,HX.out,HLN.out,HDL.out,show j-a+1=(j-(a+1)+1)+1 by omega,List.drop_succ_cons])
     clear hY HX HS HCA HCD
     go_wp2_with fail
     refine HPL.out.mono ?_
     rintro e w3 ⟨rfl,hb⟩
     have HB3:=hid (Blk.below HBD.out hb (Blk.lt HBD.out))
     have HO3:=hid (HOD.out.trans (Off.of_below hb))
     clear hb HBD HOD HPL
     obtain⟨S,hS⟩:∃S,S=ofL Y:=⟨_,rfl⟩
     have hSz:S.size≤16777216:=by rw[hS,dU];exact hYl
     have HSL:=hid (show S.data.toList=Y from by rw[hS];simp[ofL])
     rw[←hS]at HRP⊢
     clear hS
     have hup:Below w3.heap.size w3 (al w3 (h_ [S]) 9):=(Below.refl _ _).alloc (Nat.le_refl _) _
     have HN3:=hid (show iW (al w3 (h_ [S]) 9) (al w3 (h_ [S]) 9).heap.size (.slice (some ⟨w3.heap.size,0,none⟩) 1 1) [S]from by rw[World.size_alloc];exact iW.new w3 _ [S] (show 1≤maxLen by decide))
     have HB4:=hid (Blk.below HB3.out hup (Blk.lt HB3.out))
     have HO4:=hid (HO3.out.trans (Off.of_below hup))
     clear hup
     go_wp2_with fail
     change Calls _ _ _ (al w3 (h_ [S]) 9) _
     refine(D5 _ [S] _ HN3.out (fun s hs=>by rw[List.mem_singleton]at hs;subst hs;exact hSz)).mono ?_
     rintro e w5 ⟨rfl,rfl⟩
     rw[show([S]:List ByteArray).all good=good S from by rw[List.all_cons,List.all_nil,Bool.and_true]]
     generalize(al w3 (h_ [S]) 9)=w4 at HB4 HO4⊢
     clear HN3 HB3 HO3
     have HBE:=hid (show∀wx,Below w4.heap.size w4 wx→Yn p s (fun t:ByteArray=> .string t) (fun t=>t.size≤16777216) (.error (s.size-a)) (fun i=>i=p) w (.returned (.string e0)) (wx.setCell ⟨p,2,none⟩ (.bool true))from fun wx h=>⟨e0,_,rfl,by decide,RwS.bad (Blk.below HB4.out h (Blk.lt HB4.out)) ha hz,rfl,(HO4.out.trans (Off.of_below h)).trans (Yk wx p 2 (.bool true))⟩)
     cases hg:good S with
     |false=>
      rw[hg,if_neg (fun h=>by cases h.1)]at HRP
      have k2:w4.cell? ⟨p,2,none⟩=some (.bool false):=HB4.out.cell 2
      have z2:w4.frozen? ⟨p,2,none⟩=false:=HB4.out.frozen 2
      clear hg
      go_wp2_with fail
      refine bodyPost_ret (v:= .string e0) (by simp[results,Tryz.results102]) rfl ?_
      show Yn _ _ _ _ (Except.ok (s.data.toList.drop a) >>= dJ) _ _ _ _
      rw[HRP.out]
      exact HBE.out _ (Below.refl _ _)
     |true=>
      have aaD:=hid (show(Except.ok (s.data.toList.drop a) >>= dJ)=if Ah Y=X.data.toList then .ok (S,(s.data.toList.drop a).drop (j-a+1))else .error (s.size-a)from by
       rw[HRP.out,hg]
       by_cases hq:Ah Y=X.data.toList
       ·rw[if_pos ⟨rfl,hq⟩,if_pos hq]
       ·rw[if_neg (fun h=>hq h.2),if_neg hq])
      clear hg HRP
      go_wp2_with fail
      refine(YZ S hSz w4).mono ?_
      rintro e w5 ⟨rfl,hb⟩
      rw[HSL.out]
      have HB5:=hid hb
      have Z7:=hid (Blk.below HB4.out hb (Blk.lt HB4.out))
      have HO5:=hid (HO4.out.trans (Off.of_below hb))
      have k1:w5.cell? ⟨p,1,none⟩=some (.int .i64 (a:Int)):=Z7.out.cell 1
      have k2:w5.cell? ⟨p,2,none⟩=some (.bool false):=Z7.out.cell 2
      have z1:w5.frozen? ⟨p,1,none⟩=false:=Z7.out.frozen 1
      have z2:w5.frozen? ⟨p,2,none⟩=false:=Z7.out.frozen 2
      clear hb
      obtain⟨V,hV⟩:∃V,V=ofL (Ah Y):=⟨_,rfl⟩
      rw[←hV]
      have HVL:=hid (show V.data.toList=Ah Y from by rw[hV];simp[ofL])
      clear hV
      by_cases hq:Ah Y=X.data.toList
      ·have HQ:=hid hq
       have hv:(V.toList==X.toList)=true:=by rw[ByteArray.toList_eq,ByteArray.toList_eq,HVL.out,hq];exact beq_self_eq_true _
       have HGO:=hid (show RwS (w5.setCell ⟨p,1,none⟩ (.int .i64 ((j:Int)+1))) p s (.ok ((s.data.toList.drop a).drop (j-a+1)))from by
        have h:=RwS.go (k:=j-a+1) Z7.out rfl (by have:=HLT.out;omega) hz
        rw[show(a:Int)+((j-a+1:Nat):Int)=(j:Int)+1 by omega]at h
        exact h)
       have HOG:=hid (HO5.out.trans (Yk w5 p 1 (.int .i64 ((j:Int)+1))))
       clear hq
       go_wp2_with fail
       exact bodyPost_ret (v:= .string S) (by simp[results,Tryz.results102]) rfl ⟨S,_,rfl,hSz,HGO.out,by show XZ (Except.ok (s.data.toList.drop a) >>= dJ) _ _;rw[aaD.out,if_pos HQ.out];exact⟨rfl,rfl⟩,HOG.out⟩
      ·have HQ:=hid hq
       have hv:(V.toList==X.toList)=false:=by rw[ByteArray.toList_eq,ByteArray.toList_eq,HVL.out];exact beq_eq_false_iff_ne.2 hq
       clear hq
       go_wp2_with fail
       refine bodyPost_ret (v:= .string e0) (by simp[results,Tryz.results102]) rfl ?_
       show Yn _ _ _ _ (Except.ok (s.data.toList.drop a) >>= dJ) _ _ _ _
       rw[aaD.out,if_neg HQ.out]
       exact HBE.out _ HB5.out
    ·have b34:((c.toNat:Int) != 34)=true:=by rw[bne_iff_ne];omega
     by_cases h92:c.toNat=92
     ·have b92:((c.toNat:Int)==92)=true:=by rw[beq_iff_eq];omega
      have HNX:=hid (YQ HS.out (v:=s.data.toList.drop (j+2)) (i:=2) (by rw[HCD.out,show c=92 from UInt8.toNat_inj.1 h92,Z5,List.drop_drop]))
      clear h34 h92
      go_wp2_with fail
      go_round
      case rel=>exact⟨j+2,by go_num,by omega,by omega,hid (by rw[HNX.out,show j-(a+1)+2=j+2-(a+1) by omega])⟩
      case measure=>first|(simp[intOf];done)|(simp[intOf];omega)
     ·have b92:((c.toNat:Int)==92)=false:=by rw[beq_eq_false_iff_ne];omega
      have HNX:=hid (YQ HS.out (v:=s.data.toList.drop (j+1)) (i:=1) (by rw[HCD.out,YF h34 h92]))
      clear h34 h92
      go_wp2_with fail
      go_round
      case rel=>exact⟨j+1,by go_num,by omega,by omega,hid (by rw[HNX.out,show j-(a+1)+1=j+1-(a+1) by omega])⟩
      case measure=>first|(simp[intOf];done)|(simp[intOf];omega)
   ·have HG:=hid (show(Except.ok (s.data.toList.drop a) >>= dJ)= .error (s.size-a)from by
     rw[HRT.out,ZO,HS.out,List.drop_eq_nil_of_le (by rw[Array.length_toList];exact(by show s.size≤j;omega))]
     show Except.error _=_
     rw[HLN.out])
    go_wp2_with fail
    exact bodyPost_ret (v:= .string e0) (by simp[results,Tryz.results102]) rfl (HBE.out _ (by show XZ (Except.ok (s.data.toList.drop a) >>= dJ) _ _;rw[HG.out];rfl))
theorem oI(st:Option (List UInt8))(k:Nat):st.bind (bU k)=(dn st k).2.map (fun r=>(aH (dn st k).1,r)):=by
 cases st with
 |none=>rfl
 |some l=>
  show bU k l=_
  by_cases h:k≤l.length
  ·rw[gU h]
   unfold bU
   rw[show gJ k l=some (l.take k,l.drop k)from if_pos h]
   rfl
  ·rw[jB (st:=some l) (n:=k) (fun q hq=>by injection hq with hq;subst hq;omega)]
   unfold bU
   rw[show gJ k l=none from if_neg h]
   rfl
theorem BdS.bad{w:World}{p:Nat}{hv:Value}{x:List UInt8}{st:Option (List UInt8)}(h:BdS w p hv x st):BdS (w.setCell ⟨p,2,none⟩ (.bool true)) p hv x none:=by
 obtain⟨a,b,hb,ha,hz, -⟩:=h
 exact⟨a,true,Blk.aW hb 2 (.bool true),ha,hz,rfl⟩
def Uj(p:Nat)(hv:Value)(x:List UInt8)(st:Option (List UInt8))(w:World)(e:Ending)(w':World):Prop:=
 ∃n:Nat,e= .returned (.int .i64 (n:Int))∧n≤16∧Off (fun i=>i=p) w w'∧match st.bind (bU 2)with
  |some (k,r)=>if k≤16 then n=k∧BdS w' p hv x (some r)else BdS w' p hv x none
  |none=>BdS w' p hv x none
theorem rY{w:World}{p B:Nat}{hv:Value}{x:List UInt8}{st:Option (List UInt8)}(hx:Bys w B hv x)(hpB:B≤p)(h:BdS w p hv x st):
  Calls Tryz.prog 96 #[.pointer (some ⟨p,0,none⟩)] w (Uj p hv x st w):=by
 have HN:=hid (iy 2 (by decide) hx hpB h)
 have HNL:=hid (show aH (dn st 2).1<65536 from Nat.lt_of_lt_of_le (dD _) (show 256^_≤256^2 from Nat.pow_le_pow_right (by decide) (jM st 2)))
 have HG:=hid (oI st 2)
 clear hx hpB h
 go_enter Tryz.func96,Tryz.ntmps96
 go_wp2_with fail
 refine HN.out.mono ?_
 rintro e w1 ⟨rfl,hs,ho⟩
 have HS:=hid hs
 have HO:=hid ho
 clear hs ho HN
 have hnl:=HNL.out
 generalize aH (dn st 2).1=n at*
 generalize(dn st 2).2=s2 at*
 by_cases h16:16<n
 ·obtain⟨a,b,hb,ha,hz,hst⟩:=HS.out
  have k2:w1.cell? ⟨p,2,none⟩=some (.bool b):=hb.cell 2
  have f2:w1.frozen? ⟨p,2,none⟩=false:=hb.frozen 2
  have H16:=hid h16
  clear hb ha hz hst
  go_wp2_with fail
  refine bodyPost_ret (v:= .int .i64 0) (by simp[results,Tryz.results96]) rfl ⟨0,rfl,by decide,HO.out.setCell (p:=⟨p,2,none⟩) rfl _, ?_⟩
  rw[HG.out]
  cases s2 with
  |none=>exact HS.out.bad
  |some r=>
   show if n≤16 then _ else _
   rw[if_neg (by have:=H16.out;omega)]
   exact HS.out.bad
 ·have hw:wrap64 (n:Int)=(n:Int):=IntWalk.wrap64_in _ (by omega)
  have H16:=hid h16
  go_wp2_with fail
  refine bodyPost_ret (v:= .int .i64 (n:Int)) (by simp[results,Tryz.results96]) rfl ⟨n,rfl,by have:=H16.out;omega,HO.out, ?_⟩
  rw[HG.out]
  have hs:=HS.out
  cases s2 with
  |none=>exact hs
  |some r=>
   show if n≤16 then _ else _
   rw[if_pos (by have:=H16.out;omega)]
   exact⟨rfl,hs⟩
def Uk(p:Nat)(hv:Value)(x:List UInt8)(st:Option (List UInt8))(w:World)(e:Ending)(w':World):Prop:=
 ∃q:Qd,e= .returned (.agg (nU q).toArray)∧q.ok∧Off (fun i=>i=p∨w.heap.size≤i) w w'∧match st.bind dR with
  |some (t,r)=>q=t∧BdS w' p hv x (some r)
  |none=>BdS w' p hv x none
theorem JC(st:Option (List UInt8)):match st.bind dR with
  |some (t,r)=>t=⟨aH (dn st 1).1,aH (dn (dn st 1).2 4).1,aH (dn (dn (dn st 1).2 4).2 8).1⟩∧(dn (dn (dn st 1).2 4).2 8).2=some r
  |none=>(dn (dn (dn st 1).2 4).2 8).2=none:=by
 cases st with
 |none=>rfl
 |some l=>
  show match dR l with|some (t,r)=>_|none=>_
  unfold dR
  by_cases h:13≤l.length
  ·rw[if_pos h,gU (n:=1) (by omega)]
   dsimp only
   rw[gU (n:=4) (by rw[List.length_drop];omega),List.drop_drop]
   dsimp only
   rw[gU (n:=8) (by rw[List.length_drop];omega),List.drop_drop]
   exact⟨rfl,rfl⟩
  ·rw[if_neg h]
   dsimp only
   by_cases h1:1≤l.length
   ·rw[gU h1]
    dsimp only
    by_cases h4:4≤(l.drop 1).length
    ·rw[gU h4,List.drop_drop]
     dsimp only
     rw[jB (fun q hq=>by injection hq with hq;subst hq;rw[List.length_drop];omega)]
    ·rw[jB (n:=4) (fun q hq=>by injection hq with hq;subst hq;omega)]
     rfl
   ·rw[jB (n:=1) (fun q hq=>by injection hq with hq;subst hq;omega)]
    rfl
theorem Off.bys{w w':World}{S:Nat→Prop}{B:Nat}{v:Value}{l:List UInt8}(h:Bys w B v l)(ho:Off S w w')(hB:B≤w.heap.size)(hS:∀i,S i→B≤i):Bys w' B v l:=
 h.keep fun q hq=>World.cell?_of_block (ho.block _ (Nat.lt_of_lt_of_le hq hB) (fun hi=>by have:=hS _ hi;omega))
theorem xX{w:World}{p B:Nat}{hv:Value}{x:List UInt8}{st:Option (List UInt8)}(hx:Bys w B hv x)(hpB:B≤p)(h:BdS w p hv x st):
  Calls Tryz.prog 97 #[.pointer (some ⟨p,0,none⟩)] w (Uk p hv x st w):=by
 have HP:=hid (JC st)
 have HPL:=hid (show p<w.heap.size from by obtain⟨a,b,hb, -⟩:=h;exact Blk.lt hb)
 have HPB:=hid hpB
 have hup:Below w.heap.size w (w.alloc (.cells #[.int .u8 0,.int .u32 0,.int .u64 0] 37)):=(Below.refl _ _).alloc (Nat.le_refl _) _
 have HZ0:=hid (Blk.new w 37 #[.int .u8 0,.int .u32 0,.int .u64 0])
 have HX0:=hid (hx.below (hup.mono (by have:=HPB.out;have:=HPL.out;omega)))
 have HS0:=hid (h.below hup)
 have HO0:=hid (Off.of_below (S:=fun i=>i=p∨w.heap.size≤i) hup)
 have HSZ:=hid (World.size_alloc w (.cells #[.int .u8 0,.int .u32 0,.int .u64 0] 37))
 have l1:aH (dn st 1).1<256:=Nat.lt_of_lt_of_le (dD _) (show 256^_≤256^1 from Nat.pow_le_pow_right (by decide) (jM st 1))
 have l4:aH (dn (dn st 1).2 4).1<4294967296:=Nat.lt_of_lt_of_le (dD _) (show 256^_≤256^4 from Nat.pow_le_pow_right (by decide) (jM _ 4))
 have l8:aH (dn (dn (dn st 1).2 4).2 8).1<18446744073709551616:=Nat.lt_of_lt_of_le (dD _) (show 256^_≤256^8 from Nat.pow_le_pow_right (by decide) (jM _ 8))
 clear hx hpB h hup
 go_enter Tryz.func97,Tryz.ntmps97
 go_upto_region 1 with(fail)
 generalize w.alloc (.cells #[.int .u8 0,.int .u32 0,.int .u64 0] 37)=w0 at HZ0 HX0 HS0 HO0 HSZ⊢
 have HN:=hid (iy 1 (by decide) HX0.out HPB.out HS0.out)
 go_wp2_with fail
 refine HN.out.mono ?_
 rintro e w1 ⟨rfl,hs,ho⟩
 have HS1:=hid hs
 have HX1:=hid (Off.bys HX0.out ho (by have:=HPB.out;have:=HPL.out;have:=HSZ.out;omega) (fun i hi=>by have hi:i=p:=hi;have:=HPB.out;omega))
 have HZ1:=hid (ho.blk HZ0.out (fun hi=>by have hi:w.heap.size=p:=hi;have:=HPL.out;omega))
 have HO1:=hid (HO0.out.trans (ho.mono fun _ _ hi=> .inl hi))
 have uF:=hid ho.size
 clear hs ho HN HS0 HX0 HZ0 HO0
 have HN:=hid (iy 4 (by decide) HX1.out HPB.out HS1.out)
 go_wp2_with fail
 refine HN.out.mono ?_
 rintro e w2 ⟨rfl,hs,ho⟩
 have HS2:=hid hs
 have HX2:=hid (Off.bys HX1.out ho (by have:=HPB.out;have:=HPL.out;have:=HSZ.out;have:=uF.out;omega) (fun i hi=>by have hi:i=p:=hi;have:=HPB.out;omega))
 have HZ2:=hid (ho.blk HZ1.out (fun hi=>by have hi:w.heap.size=p:=hi;have:=HPL.out;omega))
 have HO2:=hid (HO1.out.trans (ho.mono fun _ _ hi=> .inl hi))
 clear hs ho HN HS1 HX1 HZ1 HO1
 have HN:=hid (iy 8 (by decide) HX2.out HPB.out HS2.out)
 go_wp2_with fail
 refine HN.out.mono ?_
 rintro e w3 ⟨rfl,hs,ho⟩
 have HS3:=hid hs
 have HZ3:=hid (ho.blk HZ2.out (fun hi=>by have hi:w.heap.size=p:=hi;have:=HPL.out;omega))
 have HO3:=hid (HO2.out.trans (ho.mono fun _ _ hi=> .inl hi))
 clear hs ho HN HS2 HX2 HZ2 HO2
 generalize(dn (dn (dn st 1).2 4).2 8).2=s8 at*
 generalize aH (dn (dn (dn st 1).2 4).2 8).1=n8 at*
 generalize aH (dn (dn st 1).2 4).1=n4 at*
 generalize aH (dn st 1).1=n1 at*
 have hw1:IntKind.u8.wrap (n1:Int)=(n1:Int):=by rw[IntKind.wrap_u8];omega
 have hw4:IntKind.u32.wrap (n4:Int)=(n4:Int):=by rw[IntKind.wrap_u32];omega
 generalize hz:w.heap.size=z at HZ3 HPL⊢
 have HZZ:=hid hz
 clear hz
 have k0:w3.cell? ⟨z,0,none⟩=some (.int .u8 0):=HZ3.out.cell 0
 have k1:w3.cell? ⟨z,1,none⟩=some (.int .u32 0):=HZ3.out.cell 1
 have k2:w3.cell? ⟨z,2,none⟩=some (.int .u64 0):=HZ3.out.cell 2
 have f0:w3.frozen? ⟨z,0,none⟩=false:=HZ3.out.frozen 0
 have f1:w3.frozen? ⟨z,1,none⟩=false:=HZ3.out.frozen 1
 have f2:w3.frozen? ⟨z,2,none⟩=false:=HZ3.out.frozen 2
 have HBK:=hid (show Blk (((w3.setCell ⟨z,0,none⟩ (.int .u8 (n1:Int))).setCell ⟨z,1,none⟩ (.int .u32 (n4:Int))).setCell ⟨z,2,none⟩ (.int .u64 (n8:Int))) z 37 (nU ⟨n1,n4,n8⟩).toArray from Blk.aW (Blk.aW (Blk.aW HZ3.out 0 _) 1 _) 2 _)
 have HOW:=hid (show Off (fun i=>i=z) w3 (((w3.setCell ⟨z,0,none⟩ (.int .u8 (n1:Int))).setCell ⟨z,1,none⟩ (.int .u32 (n4:Int))).setCell ⟨z,2,none⟩ (.int .u64 (n8:Int)))from(((Off.refl (fun i=>i=z) w3).setCell (p:=⟨z,0,none⟩) rfl _).setCell (p:=⟨z,1,none⟩) rfl _).setCell (p:=⟨z,2,none⟩) rfl _)
 go_wp2_with fail
 generalize((w3.setCell ⟨z,0,none⟩ (.int .u8 (n1:Int))).setCell ⟨z,1,none⟩ (.int .u32 (n4:Int))).setCell ⟨z,2,none⟩ (.int .u64 (n8:Int))=w4 at HBK HOW⊢
 refine bodyPost_ret (bf (l:=nU ⟨n1,n4,n8⟩) rfl Tryz.underlying37 rfl tH rfl HBK.out) rfl ⟨⟨n1,n4,n8⟩,rfl,⟨l1,l4,l8⟩, ?_, ?_⟩
 ·rw[HZZ.out]
  exact(by have h:=HO3.out;rw[HZZ.out]at h;exact h:Off (fun i=>i=p∨z≤i) w w3).trans (HOW.out.mono fun i _ hi=> .inr (by have hi:i=z:=hi;omega))
 ·have hs:=HS3.out.off HOW.out (fun hi=>by have hi:p=z:=hi;have:=HPL.out;omega)
  have hp:=HP.out
  cases hq:st.bind dR with
  |none=>
   rw[hq]at hp
   dsimp only at hp
   rw[hp]at hs
   exact hs
  |some y=>
   obtain⟨t,r⟩:=y
   rw[hq]at hp
   dsimp only at hp
   rw[hp.2]at hs
   exact⟨hp.1.symm,hs⟩
theorem XZ.then{α β:Type}{o:Except Nat (α×List UInt8)}{x:α}{st1:Except Nat (List UInt8)}(h:XZ o x st1)(f:α→List UInt8→Except Nat β):(o >>= fun p=>f p.1 p.2)=(st1 >>= fun l=>f x l):=by
 unfold XZ at h
 cases o with
 |error k=>subst h;rfl
 |ok p=>obtain⟨h1,h2⟩:=h;subst h1 h2;rfl
theorem ZH{β:Type}(u:ByteArray)(st:Except Nat (List UInt8))(f:List UInt8→Except Nat β):(st >>= fun l=>dQ u.data.toList l >>= f)=(Ye u st >>= f):=by
 cases st<;>rfl
theorem XZ.last{α:Type}(x:α)(st:Except Nat (List UInt8)):XZ (st >>= fun l=> .ok (x,l)) x st:=by
 cases st with
 |error k=>rfl
 |ok l=>exact⟨rfl,rfl⟩
def aaI(p:Nat)(s:ByteArray)(r:Except Nat (List UInt8×List UInt8))(w:World)(e:Ending)(w':World):Prop:=
 ∃(x:List UInt8) (v:Value) (st':Except Nat (List UInt8)),e= .returned v∧x.length≤16777216∧w'.ownsRow w.heap.size 5 1 v x.length (aX x)∧RwS w' p s st'∧XZ r x st'∧Off (fun i=>i=p) w w'
theorem Zo{w:World}{p:Nat}{s:ByteArray}{st:Except Nat (List UInt8)}(h:RwS w p s st):
  Calls Tryz.prog 105 #[.pointer (some ⟨p,0,none⟩)] w (aaI p s (st >>= nG) w):=by
 have ZU:=hid (show Calls Tryz.prog 100 #[.pointer (some ⟨p,0,none⟩),.int .i64 16] w _ from YN true h)
 have hrl:=Zm true h
 obtain⟨a,b,hb,ha,hz,hst⟩:=h
 have HBK:=hid hb
 have HST:=hid hst
 clear hb hst
 obtain⟨d,hd⟩:∃d,d=Y6 true st:=⟨_,rfl⟩
 have HP:=hid (show(st >>= nG)=if d.length%2=1 then .error (s.size-a)else st.map (fun l=>(pairs d,l.drop d.length))from by
  rw[HST.out]at hd⊢
  cases b with
  |true=>subst hd;rfl
  |false=>
   show nG (s.data.toList.drop a)=_
   unfold nG
   rw[show List.takeWhile dG (s.data.toList.drop a)=d from hd.symm]
   dsimp only
   split
   ·rw[List.length_drop,Array.length_toList];rfl
   ·rfl)
 have HDA:=hid (show∀c∈d,dG c=true from by
  rw[hd,HST.out]
  cases b with
  |true=>intro c hc;cases hc
  |false=>exact(lI (p:=dG) (s.data.toList.drop a)).2.1)
 have HAD:=hid (show a+d.length≤s.size from by
  rw[hd,HST.out]
  cases b with
  |true=>exact ha
  |false=>
   have h:=(List.takeWhile_sublist (l:=s.data.toList.drop a) dG).length_le
   rw[List.length_drop,Array.length_toList]at h
   have h:((s.data.toList.drop a).takeWhile dG).length≤s.size-a:=h
   show a+((s.data.toList.drop a).takeWhile dG).length≤s.size
   omega)
 have HGS:=hid (show∀wx:World,Blk wx p 106 #[.string s,.int .i64 (a:Int),.bool b]→RwS (wx.setCell ⟨p,1,none⟩ (.int .i64 ((a:Int)+(d.length:Int)))) p s (st.map fun l=>l.drop d.length)from fun wx hx=>by
  rw[HST.out]at hd⊢
  cases b with
  |true=>
   subst hd
   refine⟨a,true, ?_,ha,hz,rfl⟩
   have h:=hx.aW 1 (.int .i64 (a:Int))
   rw[show(a:Int)+(((Y6 true (if true=true then .error (s.size-a)else .ok (s.data.toList.drop a))).length:Nat):Int)=(a:Int)from by show(a:Int)+((0:Nat):Int)=_;omega]
   exact h
  |false=>
   have h:=RwS.go (k:=d.length) hx rfl HAD.out hz
   exact h)
 rw[←hd]at hrl
 rw[←hd]at ZU
 clear hd
 go_enter Tryz.func105,Tryz.ntmps105
 go_wp2_with fail
 refine ZU.out.mono ?_
 rintro e w1 ⟨rfl,hb⟩
 have HB1:=hid (Blk.below HBK.out hb (Blk.lt HBK.out))
 have HO:=hid (Off.of_below (S:=fun i=>i=p) hb)
 have HSZ:=hid hb.size
 clear hb HBK ZU
 have k1:w1.cell? ⟨p,1,none⟩=some (.int .i64 (a:Int)):=HB1.out.cell 1
 have k2:w1.cell? ⟨p,2,none⟩=some (.bool b):=HB1.out.cell 2
 have z1:w1.frozen? ⟨p,1,none⟩=false:=HB1.out.frozen 1
 have z2:w1.frozen? ⟨p,2,none⟩=false:=HB1.out.frozen 2
 obtain⟨X,hX⟩:∃X,X=ofL d:=⟨_,rfl⟩
 rw[←hX]
 have HXS:=hid (show X.size=d.length from by rw[hX,dU])
 have HXL:=hid (show X.data.toList=d from by rw[hX];simp[ofL])
 have hxz:X.size≤16777216:=by rw[HXS.out];exact hrl
 clear hX hrl
 by_cases hodd:X.size%2=1
 ·have HPO:=hid (show(st >>= nG)= .error (s.size-a)from by rw[HP.out,if_pos (by rw[←HXS.out];exact hodd)])
  have hm:((X.size:Int)%2 != 0)=true:=by rw[bne_iff_ne];omega
  have HBAD:=hid (RwS.bad HB1.out ha hz)
  have HOB:=hid (HO.out.trans (Yk w1 p 2 (.bool true)))
  clear hodd
  go_wp2_with fail
  refine bodyPost_ret (v:= .slice none 0 0) (by simp[results,Tryz.results105]) rfl ⟨[],_,_,rfl,Nat.zero_le _,dS _ _ _ _,HBAD.out, ?_,HOB.out⟩
  rw[HPO.out]
  rfl
 ·have hm:((X.size:Int)%2 != 0)=false:=by rw[bne_eq_false_iff_eq];omega
  have HG1:=hid (HGS.out w1 HB1.out)
  have HO1:=hid (HO.out.trans (Yk w1 p 1 (.int .i64 ((a:Int)+(d.length:Int)))))
  have HPO:=hid (show(st >>= nG)=st.map (fun l=>(pairs d,l.drop d.length))from by rw[HP.out,if_neg (by rw[←HXS.out];exact hodd)])
  have HXI:=hid (show(X.size:Int)=(d.length:Int)from by rw[HXS.out])
  go_upto_region 8 with(fail)
  rw[HXI.out]
  clear k1 k2 z1 z2 HGS HP hm
  have QZ:=hid (show w1.heap.size≤(w1.setCell ⟨p,1,none⟩ (.int .i64 ((a:Int)+(d.length:Int)))).heap.size from(Yk w1 p 1 (.int .i64 ((a:Int)+(d.length:Int)))).size)
  have aaS:=hid (show p<w1.heap.size from Blk.lt HB1.out)
  generalize w1.setCell ⟨p,1,none⟩ (.int .i64 ((a:Int)+(d.length:Int)))=w2 at HG1 HO1 QZ⊢
  go_loopw [4,5] (fun b i wr=>∃(j:Nat) (B:List UInt8),i= .int .i64 (j:Int)∧j%2=0∧j≤X.size∧wr.ownsRow w2.heap.size 5 1 b B.length (aX B)∧Below w2.heap.size w2 wr∧Hid (pairs d=B++pairs (d.drop j))∧B.length≤j) (fun _ i _=>X.size-(intOf i).toNat)
  case atStart=>exact⟨0,[],rfl,rfl,Nat.zero_le _,dS _ _ _ _,Below.refl _ _,hid rfl,Nat.zero_le _⟩
  case round=>
   obtain⟨j,B,rfl,hj2,hj,ho,hb,HPL,hBl⟩:=hrel
   have HOW:=hid ho;clear ho
   have HBR:=hid hb;clear hb
   obtain⟨A0,cap,rfl,hc0,hm0⟩:=aJ HOW.out
   by_cases hlt:j<X.size
   ·have hj3:j+1<X.size:=by omega
    obtain⟨h,hh⟩:∃h,h=X[j]'hlt:=⟨_,rfl⟩
    obtain⟨k,hk⟩:∃k,k=X[j+1]'hj3:=⟨_,rfl⟩
    have HHA:=hid (show d[j]? =some h from by rw[←HXL.out,hh];exact byte_at X j hlt)
    have HKA:=hid (show d[j+1]? =some k from by rw[←HXL.out,hk];exact byte_at X (j+1) hj3)
    have hidx:X[j]'hlt=h:=hh.symm
    have hidx1:X[j+1]'hj3=k:=hk.symm
    clear hh hk
    have HNX:=hid (show pairs (d.drop j)=UInt8.ofNat (X_ h*16+X_ k)::pairs (d.drop (j+2))from by
     rw[YP HHA.out HKA.out,X_,X_,if_pos (HDA.out h (List.mem_of_getElem? HHA.out)),if_pos (HDA.out k (List.mem_of_getElem? HKA.out))]
     rfl)
    have g1:=Yy h
    have g2:=Yy k
    go_wp2_with fail
    refine(Yb h _).mono ?_
    rintro e w4 ⟨rfl,rfl⟩
    go_wp2_with fail
    refine(Yb k _).mono ?_
    rintro e w4 ⟨rfl,rfl⟩
    generalize X_ h=x at HNX g1⊢
    generalize X_ k=y at HNX g2⊢
    clear hidx hidx1 HHA HKA
    have HQ:=hid (show(x:Int)*16+(y:Int)=((UInt8.ofNat (x*16+y)).toNat:Int)from by rw[iK _ (by omega)];omega)
    obtain⟨q,hq⟩:∃q,q=UInt8.ofNat (x*16+y):=⟨_,rfl⟩
    rw[←hq]at HNX HQ
    clear hq
    have hup:Below wr.heap.size wr (wr.alloc (.cells #[.int .u8 ((x:Int)*16+(y:Int))] 5)):=(Below.refl _ _).alloc (Nat.le_refl _) _
    have HBA:=hid (HBR.out.trans (hup.mono HBR.out.size))
    have HOA:=hid (aI HOW.out hup)
    have HRA:=hid (show Reads (wr.alloc (.cells #[.int .u8 ((x:Int)*16+(y:Int))] 5)) (wr.heap.size+1) 1 (some ⟨wr.heap.size,0,none⟩) ([q]:List UInt8).length (aX [q])from by rw[HQ.out];exact Yd wr [q])
    have HLL:=hid (show B.length+([q]:List UInt8).length≤140737488355327 from by simp only[List.length_cons,List.length_nil];omega)
    clear hup
    go_wp2_with(at_builtin;refine kY (.tmp 50) (.tmp 55) rfl rfl w2.heap.size _ B rfl HOA.out (wr.heap.size+1) _ 1 [q] rfl HRA.out HLL.out HBA.out.size ?_;intro v2 w3 hown hgr hor;have HO2:=hid hown;have HB2:=hid (HBA.out.grown hgr HBA.out.size (fun g hg=>dH HOA.out g hg));clear hown hgr hor)
    go_roundw
    case rel=>
     refine⟨j+2,B++[q],by go_num,by omega,by omega,HO2.out,HB2.out,hid ?_, ?_⟩
     ·rw[HPL.out,HNX.out,List.append_assoc];rfl
     ·rw[List.length_append];simp only[List.length_cons,List.length_nil];omega
    case measure=>first|(simp[intOf];done)|(simp[intOf];omega)
   ·have HT:=hid (show pairs d=B from by rw[HPL.out,List.drop_eq_nil_of_le (by rw[←HXS.out];omega)];exact List.append_nil _)
    go_wp2_with fail
    refine bodyPost_ret (v:= .slice A0 B.length cap) (by simp[results,Tryz.results105]) rfl ⟨B,_,_,rfl,by omega,iw HOW.out (by have:=HSZ.out;have:=QZ.out;omega),HG1.out.off (Off.of_below (S:=fun _=>False) HBR.out) (fun h=>h), ?_,HO1.out.trans (Off.of_below HBR.out)⟩
    rw[HPO.out]
    cases st with
    |error k=>rfl
    |ok l=>exact⟨HT.out.symm,rfl⟩
theorem iC{w:World}{B:Nat}{hv:Value}{x:List UInt8}(a k:Nat)(hk:k≤8)(hx:Bys w B hv x)(hak:a+k≤x.length)(hz:x.length≤16777216):
  Calls Tryz.prog 180 #[hv,.int .i64 (a:Int),.int .i64 (k:Int)] w fun e w'=>e= .returned (.int .u64 (aH ((x.drop a).take k):Int))∧w=w':=by
 have HV:=hid hx
 obtain⟨A,c,rfl, -⟩:=hx
 obtain⟨l,hl⟩:∃l,l=(x.drop a).take k:=⟨_,rfl⟩
 rw[←hl]
 have hll:l.length=k:=by rw[hl,List.length_take,List.length_drop];omega
 have HAT:=hid (show∀(j:Nat) (b:UInt8),l[j]? =some b→x[a+j]? =some b from fun j b h=>by
  have hj:=(List.getElem?_eq_some_iff.1 h).1
  rw[hl,List.getElem?_take_of_lt (by omega),List.getElem?_drop]at h
  exact h)
 clear hl
 go_enter Tryz.func180,Tryz.ntmps180
 go_upto_region 3 with(fail)
 go_loopw [7,8] (fun n i wr=>wr=w∧∃j:Nat,j≤k∧i= .int .i64 ((j:Int)-1)∧n= .int .u64 (aH (l.drop j):Int)) (fun _ i _=>(intOf i+1).toNat)
 case atStart=>exact⟨rfl,k,Nat.le_refl _,by go_num,by rw[←hll,List.drop_length];rfl⟩
 case round=>
  obtain⟨rfl,j,hj,rfl,rfl⟩:=hrel
  cases j with
  |zero=>
   go_wp2_with fail
   refine bodyPost_ret (v:= .int .u64 (aH (l.drop 0):Int)) (by simp[results,Tryz.results180]) rfl ⟨rfl,rfl⟩
  |succ j=>
   obtain⟨b,hb⟩:∃b,l[j]? =some b:=⟨l[j],List.getElem?_eq_getElem _⟩
   obtain⟨ad,rfl, -,kx⟩:=HV.out.at2 (HAT.out j b hb)
   have HD:=hid (zN hb)
   have hb8:b.toNat<256:=b.toNat_lt
   have hlt:aH (l.drop (j+1))<72057594037927936:=Nat.lt_of_lt_of_le (dD _) (show 256^_≤256^7 from Nat.pow_le_pow_right (by decide) (by rw[List.length_drop];omega))
   clear hb
   generalize hT:aH (l.drop (j+1))=T at*
   clear hT
   go_wp2_with fail
   go_roundw
   case rel=>
    refine⟨by trivial,j,by omega,by go_num, ?_⟩
    rw[HD.out]
    show Value.int _ _=Value.int _ _
    congr 1
   case measure=>first|(simp[intOf];done)|(simp[intOf];omega)
theorem fM{α:Type}(one:List UInt8→Option (α×List UInt8))(k:Nat){l r:List UInt8}{s:α}(h:one l=some (s,r)):getMany one (k+1) l=(getMany one k r).map (fun p=>(s::p.1,p.2)):=by
 rw[getMany,h]
 dsimp only
 cases getMany one k r with
 |none=>rfl
 |some p=>rfl
theorem gX{α:Type}(one:List UInt8→Option (α×List UInt8))(k:Nat){l:List UInt8}(h:one l=none):getMany one (k+1) l=none:=by
 rw[getMany,h]
theorem rZ{x:List UInt8}{a:Nat}(h:x.length<a+2):aN (x.drop a)=none:=by
 unfold aN bU
 rw[show gJ 2 (x.drop a)=none from if_neg (by rw[List.length_drop];omega)]
 rfl
theorem F5{x:List UInt8}{a:Nat}(h:x.length<a+2+aH ((x.drop a).take 2)):aN (x.drop a)=none:=by
 by_cases h2:x.length<a+2
 ·exact rZ h2
 unfold aN bU
 rw[show gJ 2 (x.drop a)=some ((x.drop a).take 2,(x.drop a).drop 2)from if_pos (by rw[List.length_drop];omega)]
 rw[Option.map_some]
 dsimp only
 rw[show gJ (aH ((x.drop a).take 2)) ((x.drop a).drop 2)=none from if_neg (by rw[List.length_drop,List.length_drop];omega)]
theorem JD{x:List UInt8}{a:Nat}(h:a+2+aH ((x.drop a).take 2)≤x.length):aN (x.drop a)=if good (ofL ((x.drop (a+2)).take (aH ((x.drop a).take 2))))=true then some (ofL ((x.drop (a+2)).take (aH ((x.drop a).take 2))),x.drop (a+2+aH ((x.drop a).take 2)))else none:=by
 unfold aN bU
 rw[show gJ 2 (x.drop a)=some ((x.drop a).take 2,(x.drop a).drop 2)from if_pos (by rw[List.length_drop];omega)]
 rw[Option.map_some]
 dsimp only
 rw[show gJ (aH ((x.drop a).take 2)) ((x.drop a).drop 2)=some (((x.drop a).drop 2).take (aH ((x.drop a).take 2)),((x.drop a).drop 2).drop (aH ((x.drop a).take 2)))from if_pos (by rw[List.length_drop,List.length_drop];omega)]
 dsimp only
 rw[List.drop_drop,List.drop_drop]
def Wp(x:List UInt8)(a:Nat)(w:World)(e:Ending)(w':World):Prop:=
 Below w.heap.size w w'∧∃v n,e= .returned (.tuple #[v,n])∧match getMany aN 4 (x.drop a)with
  |some (l,r)=>w'.ownsRow w.heap.size 9 1 v 4 (h_ l)∧l.length=4∧∃b:Nat,b≤x.length∧r=x.drop b∧n= .int .i64 (b:Int)
  |none=>v= .slice none 0 0∧n= .int .i64 (-1)
theorem BI{w:World}{hv:Value}{x:List UInt8}(a:Nat)(hx:Bys w w.heap.size hv x)(ha:a≤x.length)(hz:x.length≤16777216):
  Calls Tryz.prog 181 #[hv,.int .i64 (a:Int)] w (Wp x a w):=by
 have HV:=hid hx
 have hcc:=hx
 obtain⟨A,c,rfl,hc,hm, -⟩:=hcc
 have HM:=hid hm
 clear hx hm
 go_enter Tryz.func181,Tryz.ntmps181
 go_upto_region 3 with(fail)
 go_loopw [1,6,7] (fun b v i wr=>∃(k b':Nat) (ns:List ByteArray),k≤4∧ns.length=k∧b'≤x.length∧b= .int .i64 (b':Int)∧i= .int .i64 (k:Int)∧wr.ownsRow w.heap.size 9 1 v ns.length (h_ ns)∧Below w.heap.size w wr∧getMany aN 4 (x.drop a)=(getMany aN (4-k) (x.drop b')).map (fun p=>(ns++p.1,p.2))) (fun _ _ i _=>4-(intOf i).toNat)
 case atStart=>
  refine⟨0,a,[],Nat.zero_le _,rfl,ha,rfl,rfl,dS _ _ _ _,Below.refl _ _, ?_⟩
  cases getMany aN 4 (x.drop a)<;>rfl
 case round=>
  obtain⟨k,b,ns,hk,hns,hb,rfl,rfl,hv,hbel,hgm⟩:=hrel
  have HNS:=hid hns
  have HO:=hid hv
  have HB:=hid hbel
  have HG:=hid hgm
  have HX:=hid (HV.out.below hbel)
  clear hns hv hbel hgm
  by_cases hk4:k<4
  ·obtain⟨q,hq⟩:∃q,4-k=q+1:=⟨3-k,by omega⟩
   by_cases h2:b+2≤x.length
   ·have Wq:=hid (iC b 2 (by decide) HX.out h2 hz)
    have HNL:=hid (show aH ((x.drop b).take 2)<65536 from Nat.lt_of_lt_of_le (dD _) (show 256^_≤256^2 from Nat.pow_le_pow_right (by decide) (by rw[List.length_take];omega)))
    have HSC:=hid (@F5 x b)
    have HSA:=hid (@JD x b)
    have HQ:=hid hq
    clear hq
    go_upto_region 5 with(fail)
    go_upto_region 7 with(fail)
    go_wp2_with fail
    refine Wq.out.mono ?_
    rintro e w1 ⟨rfl,rfl⟩
    generalize hN:aH ((x.drop b).take 2)=N at*
    have hn8:=HNL.out
    have hw:wrap64 (N:Int)=(N:Int):=IntWalk.wrap64_in _ (by omega)
    have hcx:=HX.out
    go_upto_region 8 with(fail)
    go_upto_region 9 with(fail)
    obtain⟨d,hd⟩:∃d,d=b+2:=⟨_,rfl⟩
    have HDE:=hid hd
    rw[show((b:Int)+2)=(d:Int)from by omega]
    clear hd hcx
    have hdx:d≤x.length:=by have:=HDE.out;omega
    have hwd:wrap64 ((d:Int)+(N:Int))=(d:Int)+(N:Int):=IntWalk.wrap64_in _ (by omega)
    by_cases h3:d+N≤x.length
    ·have h3c:d+N≤c:=by omega
     have HVV:=hid (Bys.sub d N c HX.out h3 h3c (Nat.le_refl _))
     have Ul:=hid (HSA.out (by have:=HDE.out;omega))
     clear h2 hn8 HSA HSC
     go_upto_region 11 with(fail)
     obtain⟨S,hS⟩:∃S,S=ofL ((x.drop d).take N):=⟨_,rfl⟩
     have HCV:=hid (show(convert 22 9 (AY A d N c)).run Tryz.prog wr= .ok (.string S) wr from by rw[hS];exact jH HVV.out)
     have HSS:=hid (show S.size≤65535 from by rw[hS,dU,List.length_take];have:=HNL.out;omega)
     have HSE:=hid hS
     have HRS:=hid (show aN (x.drop b)=if good S=true then some (S,x.drop (d+N))else none from by rw[Ul.out,hS,HDE.out])
     clear hS HVV Ul
     refine(show∀P:Prop,(d≠c→P)→(d=c→P)→P from fun P h1 h2=>(Classical.em (d=c)).elim h2 h1) _ (fun hcd=> ?_) (fun hcd=> ?_)
     ·have hcv:=HCV.out
      unfold AY at hcv
      rw[if_neg (fun h=>hcd h.symm)]at hcv
      go_wp2_with fail
      refine(qM S wr (by have:=HSS.out;omega)).mono ?_
      rintro e w1 ⟨rfl,rfl⟩
      cases hg:good S with
      |false=>
       rw[hg,if_neg (by decide)]at HRS
       clear hg hcv
       go_wp2_with fail
       refine bodyPost_ret (v:= .tuple #[.slice none 0 0,.int .i64 (-1)]) (by simp[results,Tryz.results181]) rfl ⟨HB.out,_,_,rfl, ?_⟩
       rw[HG.out,HQ.out,gX aN q HRS.out]
       exact⟨rfl,rfl⟩
      |true=>
       rw[hg,if_pos rfl]at HRS
       clear hg hcv
       obtain⟨A0,cap,rfl, -⟩:=aJ HO.out
       have Nb:=hid (HB.out.alloc HB.out.size (.cells #[.string S] 9))
       have HO3:=hid (aI HO.out ((Below.refl _ _).alloc (Nat.le_refl _) (.cells #[.string S] 9)))
       have w_:=hid (show Reads (wr.alloc (.cells #[.string S] 9)) (wr.heap.size+1) 1 (some ⟨wr.heap.size,0,none⟩) ([S]:List ByteArray).length (h_ [S])from dI wr 9 [.string S] 1 1 rfl)
       have HLN:=hid (show ns.length+([S]:List ByteArray).length≤8796093022207 from by rw[HNS.out];simp only[List.length_cons,List.length_nil];omega)
       have HBS:=hid (show w.heap.size≤(wr.alloc (.cells #[.string S] 9)).heap.size from Nb.out.size)
       go_wp2_with(at_builtin;refine oQ (.tmp 43) (.tmp 45) rfl rfl w.heap.size _ _ rfl HO3.out (wr.heap.size+1) _ 1 [S] rfl w_.out HLN.out HBS.out ?_;intro v4 w4 hown hgr hor;have HO4:=hid hown;have HB4:=hid (((Off.of_below (S:=fun i=>w.heap.size≤i) Nb.out).grown hgr (fun g hg=>dH HO3.out g hg)).below (B:=w.heap.size) (fun i hi=>hi));clear hown hgr hor)
       go_roundw
       case rel=>
        refine⟨k+1,d+N,ns++[S],by omega,by rw[List.length_append,HNS.out];rfl,h3,by go_num,by go_num,HO4.out,HB4.out (Nat.le_refl _), ?_⟩
        rw[HG.out,HQ.out,fM aN q HRS.out,show 4-(k+1)=q from by have:=HQ.out;omega]
        cases getMany aN q (x.drop (d+N))with
        |none=>rfl
        |some p=>simp only[Option.map_some,List.append_assoc,List.cons_append,List.nil_append]
       case measure=>simp[intOf];omega
     ·have hcv:=HCV.out
      subst hcd
      have hN0:N=0:=by omega
      unfold AY at hcv
      rw[if_pos rfl,Nat.sub_self,hN0]at hcv
      have HN0:=hid hN0
      go_wp2_with fail
      refine(qM S wr (by have:=HSS.out;omega)).mono ?_
      rintro e w1 ⟨rfl,rfl⟩
      cases hg:good S with
      |false=>
       rw[hg,if_neg (by decide)]at HRS
       clear hg hcv
       go_wp2_with fail
       refine bodyPost_ret (v:= .tuple #[.slice none 0 0,.int .i64 (-1)]) (by simp[results,Tryz.results181]) rfl ⟨HB.out,_,_,rfl, ?_⟩
       rw[HG.out,HQ.out,gX aN q HRS.out]
       exact⟨rfl,rfl⟩
      |true=>
       rw[hg,if_pos rfl]at HRS
       clear hg hcv
       obtain⟨A0,cap,rfl, -⟩:=aJ HO.out
       have Nb:=hid (HB.out.alloc HB.out.size (.cells #[.string S] 9))
       have HO3:=hid (aI HO.out ((Below.refl _ _).alloc (Nat.le_refl _) (.cells #[.string S] 9)))
       have w_:=hid (show Reads (wr.alloc (.cells #[.string S] 9)) (wr.heap.size+1) 1 (some ⟨wr.heap.size,0,none⟩) ([S]:List ByteArray).length (h_ [S])from dI wr 9 [.string S] 1 1 rfl)
       have HLN:=hid (show ns.length+([S]:List ByteArray).length≤8796093022207 from by rw[HNS.out];simp only[List.length_cons,List.length_nil];omega)
       have HBS:=hid (show w.heap.size≤(wr.alloc (.cells #[.string S] 9)).heap.size from Nb.out.size)
       go_wp2_with(at_builtin;refine oQ (.tmp 43) (.tmp 45) rfl rfl w.heap.size _ _ rfl HO3.out (wr.heap.size+1) _ 1 [S] rfl w_.out HLN.out HBS.out ?_;intro v4 w4 hown hgr hor;have HO4:=hid hown;have HB4:=hid (((Off.of_below (S:=fun i=>w.heap.size≤i) Nb.out).grown hgr (fun g hg=>dH HO3.out g hg)).below (B:=w.heap.size) (fun i hi=>hi));clear hown hgr hor)
       go_roundw
       case rel=>
        refine⟨k+1,d+N,ns++[S],by omega,by rw[List.length_append,HNS.out];rfl,h3,by go_num,by go_num,HO4.out,HB4.out (Nat.le_refl _), ?_⟩
        rw[HG.out,HQ.out,fM aN q HRS.out,show 4-(k+1)=q from by have:=HQ.out;omega]
        cases getMany aN q (x.drop (d+N))with
        |none=>rfl
        |some p=>simp only[Option.map_some,List.append_assoc,List.cons_append,List.nil_append]
       case measure=>simp[intOf];omega
    ·have HRS:=hid (HSC.out (by have:=HDE.out;omega))
     clear HSA HSC
     go_wp2_with fail
     refine bodyPost_ret (v:= .tuple #[.slice none 0 0,.int .i64 (-1)]) (by simp[results,Tryz.results181]) rfl ⟨HB.out,_,_,rfl, ?_⟩
     rw[HG.out,HQ.out,gX aN q HRS.out]
     exact⟨rfl,rfl⟩
   ·have HRS:=hid (rZ (x:=x) (a:=b) (by omega))
    have HQ:=hid hq
    clear hq
    go_wp2_with fail
    refine bodyPost_ret (v:= .tuple #[.slice none 0 0,.int .i64 (-1)]) (by simp[results,Tryz.results181]) rfl ⟨HB.out,_,_,rfl, ?_⟩
    rw[HG.out,HQ.out,gX aN q HRS.out]
    exact⟨rfl,rfl⟩
  ·have hk4:k=4:=by omega
   subst hk4
   obtain⟨A0,cap,rfl, -⟩:=aJ HO.out
   have hN4:=HNS.out
   go_wp2_with fail
   refine bodyPost_ret (v:= .tuple #[.slice A0 ns.length cap,.int .i64 (b:Int)]) (by simp[results,Tryz.results181]) rfl ⟨HB.out,_,_,rfl, ?_⟩
   rw[HG.out]
   refine⟨?_, ?_,b,hb,rfl,rfl⟩
   ·have ho:=HO.out
    rw[HNS.out]at ho
    dsimp only
    rw[List.append_nil,HNS.out]
    exact ho
   ·show(ns++[]).length=4
    rw[List.append_nil]
    exact HNS.out
end Go.Proofs.YtkblmloobkiloaaGreatDoor
