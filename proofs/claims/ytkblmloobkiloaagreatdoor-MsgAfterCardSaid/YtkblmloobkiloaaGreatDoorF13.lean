/-
  MRB MC MC2 MT7: what the laws of package msg need of them.
-/
import Derived.Test.YtkblmloobkiloaaGreatDoorF00
import Derived.Test.YtkblmloobkiloaaGreatDoorF12
import Derived.Test.YtkblmloobkiloaaGreatDoorF07
import Derived.Deep.RegionHeld3
import Derived.WalkSpells
set_option maxRecDepth 100000
namespace Go.Proofs.YtkblmloobkiloaaGreatDoor
open Go.Lib (hid)
open Go.RowKit
def lK(w:World)(lo hi:Nat)(v:Value)(fs:List Fld):Prop:=∃A c,v= .slice A fs.length c∧fs.length≤c∧c≤maxLen∧∀k f,fs[k]? =some f→∃ad,A=some ad∧lo≤ad.block∧ad.block<hi∧w.cell? (ad.add k)=some (.int .u8 (f.ix:Int))
theorem qg(a:Addr)(k:Nat):(a.add k).block=a.block:=by
 unfold Addr.add
 split<;>rfl
theorem lK.keep{w w':World}{lo hi:Nat}{v:Value}{fs:List Fld}(h:lK w lo hi v fs)(hk:∀i,lo≤i→i<hi→w'.heap[i]? =w.heap[i]?):lK w' lo hi v fs:=by
 obtain⟨A,c,e,h1,h2,h3⟩:=h
 refine⟨A,c,e,h1,h2,fun k f hf=> ?_⟩
 obtain⟨ad,rfl,hl,hh,hc⟩:=h3 k f hf
 refine⟨ad,rfl,hl,hh, ?_⟩
 rw[←hc]
 exact World.cell?_of_block (hk _ (by rw[qg];exact hl) (by rw[qg];exact hh))
theorem lK.at_{w:World}{lo hi n c:Nat}{A:Option Addr}{fs:List Fld}(h:lK w lo hi (.slice A n c) fs){k:Nat}{f:Fld}(hf:fs[k]? =some f):∃ad,A=some ad∧w.cell? (ad.add k)=some (.int .u8 (f.ix:Int)):=by
 obtain⟨A',c',e, -, -,h3⟩:=h
 injection e with e1 e2 e3
 subst e1
 obtain⟨ad,h1, -, -,h4⟩:=h3 k f hf
 exact⟨ad,h1,h4⟩
theorem Fa(r n:Nat)(hr:r<27):mP n r= .slice none 0 0∨∃j c,mP n r= .slice (some ⟨n+j,0,none⟩) c c:=by
 match r,hr with
 |0,_=>exact .inr ⟨0,_,rfl⟩
 |1,_=>exact .inr ⟨1,_,rfl⟩
 |2,_=>exact .inr ⟨2,_,rfl⟩
 |3,_=>exact .inr ⟨3,_,rfl⟩
 |4,_=>exact .inr ⟨4,_,rfl⟩
 |5,_=>exact .inr ⟨5,_,rfl⟩
 |6,_=>exact .inr ⟨6,_,rfl⟩
 |7,_=>exact .inr ⟨7,_,rfl⟩
 |8,_=>exact .inl rfl
 |9,_=>exact .inr ⟨8,_,rfl⟩
 |10,_=>exact .inr ⟨9,_,rfl⟩
 |11,_=>exact .inr ⟨10,_,rfl⟩
 |12,_=>exact .inr ⟨11,_,rfl⟩
 |13,_=>exact .inr ⟨12,_,rfl⟩
 |14,_=>exact .inr ⟨13,_,rfl⟩
 |15,_=>exact .inr ⟨14,_,rfl⟩
 |16,_=>exact .inr ⟨15,_,rfl⟩
 |17,_=>exact .inr ⟨16,_,rfl⟩
 |18,_=>exact .inr ⟨17,_,rfl⟩
 |19,_=>exact .inr ⟨18,_,rfl⟩
 |20,_=>exact .inl rfl
 |21,_=>exact .inr ⟨19,_,rfl⟩
 |22,_=>exact .inl rfl
 |23,_=>exact .inr ⟨20,_,rfl⟩
 |24,_=>exact .inr ⟨21,_,rfl⟩
 |25,_=>exact .inr ⟨22,_,rfl⟩
 |26,_=>exact .inl rfl
 |r+27,h=>exact absurd h (by omega)
theorem lK.of{w:World}{lo B:Nat}{v:Value}{fs:List Fld}(h:jq w B v fs)(hv:v= .slice none 0 0∨∃j c,v= .slice (some ⟨lo+j,0,none⟩) c c):lK w lo B v fs:=by
 have h0:=h
 obtain⟨A,c,rfl,h1,h2, -⟩:=h
 refine⟨A,c,rfl,h1,h2,fun k f hf=> ?_⟩
 obtain⟨ad,rfl,hb,hc⟩:=h0.at_ hf
 rcases hv with hv|⟨j,c',hv⟩
 ·cases hv
 ·injection hv with hv
  injection hv with hv
  subst hv
  exact⟨_,rfl,Nat.le_add_right _ _,hb,hc⟩
def I9(k:Nat)(w:World)(e:Ending)(w':World):Prop:=match bQ k with
 |some fs=>∃v,e= .returned (.tuple #[.agg #[.int .u8 (k:Int),.string (ofL (fO k)),v],.bool true])∧lK w' w.heap.size w'.heap.size v fs
 |none=>e= .returned (.tuple #[.agg #[.int .u8 0,.string ⟨#[]⟩,.slice none 0 0],.bool false])
theorem lK.wide{w:World}{lo lo' hi hi':Nat}{v:Value}{fs:List Fld}(h:lK w lo hi v fs)(h1:lo'≤lo)(h2:hi≤hi'):lK w lo' hi' v fs:=by
 obtain⟨A,c,e,h3,h4,h5⟩:=h
 refine⟨A,c,e,h3,h4,fun k f hf=> ?_⟩
 obtain⟨ad,rfl,hl,hh,hc⟩:=h5 k f hf
 exact⟨ad,rfl,Nat.le_trans h1 hl,Nat.lt_of_lt_of_le hh h2,hc⟩
theorem xC(k:Nat)(w:World):Calls Tryz.prog 43 #[.int .u8 (k:Int)] w fun e w'=>Below w.heap.size w w'∧I9 k w e w':=by
 refine(ug (k:Int) w).mono ?_
 rintro e w' ⟨hb,n,hn1,hn2,hk,⟨hi,rfl⟩|⟨hi,rfl⟩⟩
 ·refine⟨hb, ?_⟩
  obtain⟨fs,h1,h2,h3⟩:=uU _ hi
  rw[o9 _ hi]at h1 h2
  unfold I9
  rw[show((k:Int)).toNat=k from rfl]at h1 h2
  rw[h1]
  exact⟨_,by rw[o9 _ hi,h2],(lK.of ((h3 w' n hk).more hn2) (Fa _ n hi)).wide hn1 (Nat.le_refl _)⟩
 ·refine⟨hb, ?_⟩
  unfold I9
  cases hf:bQ k with
  |none=>rfl
  |some fs=>
   obtain⟨-, -,h1,h2⟩:=iP hf
   have:=wL (k-100) (by omega) (by rw[show 100+(k-100)=k by omega,hf];simp)
   rw[show 100+(k-100)=k by omega,hi]at this
   exact absurd this (by decide)
abbrev mgN(m:Mg):List Value:=aF m (.slice none 0 0) (.slice none 0 0) (.slice none 0 0)
theorem bW(m:Mg)(k t:Nat)(vn vq vd:Value):over (mgN (head k t)).toArray 0 (aF m vn vq vd)=(aF m vn vq vd).toArray:=by kernel_rfl
theorem bT(m:Mg){vn vq vd:Value}(h1:vn.oneCell'=true)(h2:vq.oneCell'=true)(h3:vd.oneCell'=true):(aF m vn vq vd).toArray.all (·.oneCell')=true:=by
 simp only[List.all_toArray,List.all_cons,h1,h2,h3]
 rfl
theorem OL.nil_(w:World)(base:Nat)(k t:Nat):OL w base (head k t) (.slice none 0 0) (.slice none 0 0) (.slice none 0 0):=⟨dS _ _ _ _,dS _ _ _ _,dS _ _ _ _⟩
theorem bG{w:World}{base n size:Nat}{e:TypeId}{v:Value}{xs:List Value}(h:w.ownsRow base e size v n xs):v.oneCell'=true:=by
 obtain⟨A,c,rfl, -⟩:=aJ h
 rfl
def TI(r:Mg×Nat)(w:World)(e:Ending)(w':World):Prop:=
 (∃vn vq vd,e= .returned (.tuple #[iM r.1 vn vq vd,.int .i64 (r.2:Int)])∧OL w' w.heap.size r.1 vn vq vd)∧Below w.heap.size w w'
theorem fK{fn:Func}{tmps:Array Value}{w:World}{q i j:Nat}{m:Mg}{vn vq vd:Value}{er:Int}(hr:fn.results= #[.cell i 41,.tmp j])(h2:tmps.getD i undef= .pointer (some ⟨q,0,none⟩))(h3:tmps.getD j undef= .int .i64 er)(hk:aK w q m vn vq vd):
  (results fn tmps).run Tryz.prog w= .ok (.tuple #[iM m vn vq vd,.int .i64 er]) w:=by
 have h2':tmps[i]?.getD undef= .pointer (some ⟨q,0,none⟩):=by simpa using h2
 have h3':tmps[j]?.getD undef= .int .i64 er:=by simpa using h3
 have hl7:(loadVar 41 ⟨q,0,none⟩).run Tryz.prog w= .ok (iM m vn vq vd) w:=
  run_loadVar_mid w q 0 41 (aF m vn vq vd) _ (Blk.range hk 0 _ (by simp)) Tryz.underlying41 rfl aB
 simp[results,hr,h2',h3',asAddr,hl7]
theorem xE(x:List UInt8)(n k:Nat)(h:n+k≤x.length):dF k (some (x.drop n))=(aH ((x.drop n).take k),some (x.drop (n+k))):=by
 rw[lT (by rw[List.length_drop];omega),List.drop_drop]
set_option maxHeartbeats 6400000 in
theorem rV(hv:Value)(x:List UInt8)(w:World)(hx:Bys w w.heap.size hv x)(hr:Ready w)(hbig:x.length≤16777216):
  Calls Tryz.prog 13 #[hv] w (TI (dec x) w):=by
 have hup:Below w.heap.size w (w.alloc (.cells (mgN (head 0 0)).toArray 41)):=(Below.refl _ _).alloc (Nat.le_refl _) _
 have HZ:=hid (show aK (w.alloc (.cells (mgN (head 0 0)).toArray 41)) w.heap.size (head 0 0) (.slice none 0 0) (.slice none 0 0) (.slice none 0 0)from Blk.new w _ _)
 have HB:=hid hup
 have hsz:(w.alloc (.cells (mgN (head 0 0)).toArray 41)).heap.size=w.heap.size+1:=World.size_alloc _ _
 have HX:=hid ((hx.below hup).more (show w.heap.size≤(w.alloc (.cells (mgN (head 0 0)).toArray 41)).heap.size from by omega))
 have HRD:=hid (hr.below hup (Nat.le_refl _))
 have H8:=hid hr.eight
 have HD:=hid (Oh x)
 have Em:=hid hbig
 obtain⟨A,cap,rfl,hc,hm, -⟩:=hx
 clear hr hup hbig
 go_enter Tryz.func13,Tryz.ntmps13
 go_upto_region 1 with(fail)
 change Code.wp _ _ _ _ (w.alloc (.cells (mgN (head 0 0)).toArray 41))
 generalize w.alloc (.cells (mgN (head 0 0)).toArray 41)=w0 at HZ HB hsz HX HRD⊢
 generalize hz:w.heap.size=z at HZ HB hsz H8⊢
 have HZZ:=hid hz;clear hz
 by_cases hlen:x.length<7∨65536<x.length
 ·have HE:=hid (show dec x=(head 0 0,31)from by rw[HD.out,if_pos hlen])
  have HL:=hid hlen
  rcases hlen with hlen|hlen
  all_goals(
   go_wp2_with(refine dA HZ.out 0 (mgN (head 0 0)) _ (bW ..) (Nat.le_refl 36) (bT _ rfl rfl rfl) rfl _ _ _ rfl rfl rfl aB ?_;intro wz hs ho;have HZF:=hid hs;have HOF:=hid (ho (fun i=>z≤i) (Nat.le_refl _) w0 (Off.refl _ _));clear hs ho)
   refine bodyPost_ret (fK (m:=head 0 0) (er:=31) rfl rfl rfl HZF.out) rfl ?_
   rw[HE.out]
   have hz:=HZZ.out
   exact⟨⟨_,_,_,rfl,OL.nil_ ..⟩,by rw[hz];exact HB.out.trans (HOF.out.below (fun i hi=>hi) (by omega))⟩)
 ·have h7:7≤x.length:=by omega
  have h6:x.length≤65536:=by omega
  go_wp2_with fail
  refine(uO _ x HX.out Em.out).mono ?_
  rintro e w1 ⟨p,bv,rfl,hp,hs,hb⟩
  have HS1:=hid hs
  have HP:=hid (show z<p from by omega)
  have HZ1:=hid (Blk.below HZ.out hb (Blk.lt HZ.out))
  have HB1:=hid (HB.out.trans (hb.mono (by omega)))
  have Lr:=hid (HRD.out.below hb (Nat.le_refl _))
  clear hs hb hp HZ HB HRD HX
  go_wp2_with fail
  refine(iZ HS1.out).mono ?_
  have e4:=xE x 0 4 (by omega)
  rw[List.drop_zero,Nat.zero_add]at e4
  rw[e4]
  rintro e w2 ⟨rfl,hs,hb⟩
  have HS2:=hid hs
  have HZ2:=hid (hb.blk HZ1.out (by have:=HP.out;omega))
  have HO2:=hid (show Off (fun i=>z≤i) w1 w2 from hb.mono fun k _ hk=>by have:=HP.out;have hk:k=p:=hk;omega)
  clear hs hb e4
  have hn4:aH (x.take 4)<4294967296:=Nat.lt_of_lt_of_le (dD _) (show 256^_≤256^4 from Nat.pow_le_pow_right (by decide) (by rw[List.length_take];omega))
  have hw4:wrap64 (aH (x.take 4):Int)=(aH (x.take 4):Int):=IntWalk.wrap64_in _ (by omega)
  by_cases hsame:aH (x.take 4)=x.length
  ·have hne:((aH (x.take 4):Int) != (x.length:Int))=false:=by rw[hsame];simp
   have HD2:=hid (HD.out.trans ((if_neg hlen).trans (if_neg (by omega))))
   clear HD
   go_wp2_with fail
   refine(qU HS2.out).mono ?_
   rw[xE x 4 1 (by omega)]
   rintro e w3 ⟨rfl,hs,hb⟩
   have HS3:=hid hs
   have HZ3:=hid (hb.blk HZ2.out (by have:=HP.out;omega))
   have HO3:=hid (HO2.out.trans (hb.mono fun k _ hk=>by have:=HP.out;have hk:k=p:=hk;omega))
   clear hs hb HS2 HZ2 HO2
   go_wp2_with fail
   refine(kE HS3.out).mono ?_
   rw[xE x 5 2 (by omega)]
   rintro e w4 ⟨rfl,hs,hb⟩
   have HS4:=hid hs
   have HZ4:=hid (hb.blk HZ3.out (by have:=HP.out;omega))
   have HO4:=hid (HO3.out.trans (hb.mono fun k _ hk=>by have:=HP.out;have hk:k=p:=hk;omega))
   clear hs hb HS3 HZ3 HO3
   have hkl:aH ((x.drop 4).take 1)<256:=Nat.lt_of_lt_of_le (dD _) (show 256^_≤256^1 from Nat.pow_le_pow_right (by decide) (by rw[List.length_take];omega))
   dsimp only at HS4⊢
   generalize aH ((x.drop 4).take 1)=kd at*
   generalize aH ((x.drop 5).take 2)=tg at*
   have H0:=hid (show z<w4.heap.size from by have:=Blk.lt HZ4.out;omega)
   have HPL:=hid (show p<w4.heap.size from HS4.out.lt)
   have HAL:=hid (World.size_alloc w4 (.cells (mgN (head 0 0)).toArray 41))
   go_wp2_with(change wpList _ _ _ _ _ (w4.alloc (.cells (mgN (head 0 0)).toArray 41));have HH5:=hid (show aK (w4.alloc (.cells (mgN (head 0 0)).toArray 41)) w4.heap.size (head 0 0) (.slice none 0 0) (.slice none 0 0) (.slice none 0 0)from Blk.new w4 _ _);have HS5:=hid (HS4.out.below ((Below.refl _ _).alloc (Nat.le_refl _) (.cells (mgN (head 0 0)).toArray 41)));have HZ5:=hid (Blk.alloc HZ4.out (.cells (mgN (head 0 0)).toArray 41));have HO5:=hid (HO4.out.alloc (.cells (mgN (head 0 0)).toArray 41));generalize w4.alloc (.cells (mgN (head 0 0)).toArray 41)=w5 at HH5 HS5 HZ5 HO5 HAL⊢;generalize w4.heap.size=h at HH5 H0 HPL HAL⊢;refine dA HH5.out 0 (mgN (head kd tg)) _ (bW ..) (Nat.le_refl 36) (bT _ rfl rfl rfl) rfl _ _ _ rfl rfl rfl aB ?_;intro w6 hs ho;have HH6:=hid (show aK w6 h (head kd tg) (.slice none 0 0) (.slice none 0 0) (.slice none 0 0)from hs);have kh:w6.cell? ⟨h,0,none⟩=some (.int .u8 (kd:Int)):=Blk.cell hs 0;have HS6:=hid (HS5.out.off (ho (fun i=>i=h) rfl w5 (Off.refl _ _)) (by have:=HPL.out;omega) (dZ HH5.out (by decide)));have HZ6:=hid ((ho (fun i=>i=h) rfl w5 (Off.refl _ _)).blk HZ5.out (by have:=H0.out;omega));have HO6:=hid (ho (fun i=>z≤i) (by have:=H0.out;omega) w1 HO5.out);have HHL:=hid (show h<w6.heap.size from Blk.lt hs);clear hs ho HS4 HZ4 HO4 HH5 HS5 HZ5 HO5)
   refine(xC kd w6).mono ?_
   rintro e w7 ⟨hb,hrow⟩
   unfold I9 at hrow
   have HH7:=hid (Blk.below HH6.out hb (Blk.lt HH6.out))
   have HZ7:=hid (Blk.below HZ6.out hb (Blk.lt HZ6.out))
   have HS7:=hid (HS6.out.below hb)
   have HO7:=hid (HO6.out.trans (Off.of_below hb))
   have QB:=hid hb.size
   clear hb kh HH6 HZ6 HS6 HO6
   cases hk:bQ kd with
   |none=>
    rw[hk]at hrow HD2
    subst hrow
    have HE:=hid HD2.out
    clear HD2 hk
    have HH8:=hid (show aK (w7.alloc (.cells #[.int .u8 0,.string ⟨#[]⟩,.slice none 0 0] 79)) h (head kd tg) (.slice none 0 0) (.slice none 0 0) (.slice none 0 0)from Blk.alloc HH7.out _)
    have HZ8:=hid (show aK (w7.alloc (.cells #[.int .u8 0,.string ⟨#[]⟩,.slice none 0 0] 79)) z (head 0 0) (.slice none 0 0) (.slice none 0 0) (.slice none 0 0)from Blk.alloc HZ7.out _)
    have HO8:=hid (HO7.out.alloc (.cells #[.int .u8 0,.string ⟨#[]⟩,.slice none 0 0] 79))
    go_upto_region 8 with(fail)
    generalize w7.alloc (.cells #[.int .u8 0,.string ⟨#[]⟩,.slice none 0 0] 79)=w8 at HH8 HZ8 HO8⊢
    go_wp2_with(first|(refine wlw HH8.out 0 (mgN (head kd tg)) rfl rfl _ _ rfl rfl _ Tryz.underlying41 rfl aB ?_)|(refine dA HZ8.out 0 (mgN (head kd tg)) _ (bW ..) (Nat.le_refl 36) (bT _ rfl rfl rfl) rfl _ _ _ rfl rfl rfl aB ?_;intro wz hs ho;have HZF:=hid hs;have HOF:=hid (ho (fun i=>z≤i) (Nat.le_refl _) w1 HO8.out);clear hs ho))
    refine bodyPost_ret (fK (m:=head kd tg) (er:=32) rfl rfl rfl HZF.out) rfl ?_
    rw[HE.out]
    have hz:=HZZ.out
    exact⟨⟨_,_,_,rfl,OL.nil_ ..⟩,by rw[hz];exact HB1.out.trans (HOF.out.below (fun i hi=>hi) (by have:=Blk.lt HZ1.out;omega))⟩
   |some fs=>
    rw[hk]at hrow HD2
    obtain⟨fvl,rfl,hfl⟩:=hrow
    have HK:=hid hk
    have HF7:=hid hfl
    obtain⟨fA,fc,rfl,hfc,hfm, -⟩:=hfl
    have GN:fs.length≤20:=by
     have hh:=HK.out
     unfold bQ at hh
     split at hh<;>first|(obtain rfl:=Option.some.inj hh;decide)|(exact absurd hh (by simp))
    clear hk
    have hup:Below w7.heap.size w7 (w7.alloc (.cells #[.int .u8 (kd:Int),.string (ofL (fO kd)),.slice fA fs.length fc] 79)):=(Below.refl _ _).alloc (Nat.le_refl _) _
    have HR8:=hid (Blk.new w7 79 #[.int .u8 (kd:Int),.string (ofL (fO kd)),.slice fA fs.length fc])
    have HH8:=hid (Blk.below HH7.out hup (Blk.lt HH7.out))
    have HZ8:=hid (Blk.below HZ7.out hup (Blk.lt HZ7.out))
    have HS8:=hid (HS7.out.below hup)
    have HO8:=hid (HO7.out.trans (Off.of_below hup))
    have HF8:=hid (HF7.out.keep fun i _ hi=>hup.block i hi)
    have QC:=hid (World.size_alloc w7 (.cells #[.int .u8 (kd:Int),.string (ofL (fO kd)),.slice fA fs.length fc] 79))
    clear hup HH7 HZ7 HS7 HO7 HF7
    go_upto_region 8 with(fail)
    generalize w7.alloc (.cells #[.int .u8 (kd:Int),.string (ofL (fO kd)),.slice fA fs.length fc] 79)=w8 at HR8 HH8 HZ8 HS8 HO8 HF8 QC⊢
    generalize w7.heap.size=rb at HR8 HF8 QB QC⊢
    have uS:=hid (show h<rb∧rb<w8.heap.size from by have:=HHL.out;have:=QB.out;have:=QC.out;omega)
    have Fb:=hid (show z<rb∧p<rb∧p<w6.heap.size from by have:=HHL.out;have:=QB.out;have:=HPL.out;have:=H0.out;omega)
    go_upto_region 11 with(first|(refine wlw HH8.out 0 (mgN (head kd tg)) rfl rfl _ _ rfl rfl _ Tryz.underlying41 rfl aB ?_)|(change wpList _ _ _ _ _ (w8.alloc (.cells (mgN (head 0 0)).toArray 41));have HG9:=hid (show aK (w8.alloc (.cells (mgN (head 0 0)).toArray 41)) w8.heap.size (head 0 0) (.slice none 0 0) (.slice none 0 0) (.slice none 0 0)from Blk.new w8 _ _);have HS9:=hid (HS8.out.below ((Below.refl _ _).alloc (Nat.le_refl _) (.cells (mgN (head 0 0)).toArray 41)));have HZ9:=hid (Blk.alloc HZ8.out (.cells (mgN (head 0 0)).toArray 41));have HH9:=hid (Blk.alloc HH8.out (.cells (mgN (head 0 0)).toArray 41));have HR9:=hid (Blk.alloc HR8.out (.cells (mgN (head 0 0)).toArray 41));have HF9:=hid (HF8.out.keep fun i _ hi=>Below.heap_alloc w8 (.cells (mgN (head 0 0)).toArray 41) i (by have:=uS.out;omega));have HO9:=hid (HO8.out.alloc (.cells (mgN (head 0 0)).toArray 41));generalize w8.alloc (.cells (mgN (head 0 0)).toArray 41)=w9 at HG9 HS9 HZ9 HH9 HR9 HF9 HO9⊢;generalize w8.heap.size=g at HG9 uS⊢;refine dA HG9.out 0 (mgN (head kd tg)) _ (bW ..) (Nat.le_refl 36) (bT _ rfl rfl rfl) rfl _ _ _ rfl rfl rfl aB ?_;intro wa hs ho;have HGA:=hid (show aK wa g (head kd tg) (.slice none 0 0) (.slice none 0 0) (.slice none 0 0)from hs);have HSA:=hid (HS9.out.off (ho (fun i=>i=g) rfl w9 (Off.refl _ _)) (by have:=uS.out;have:=Fb.out;omega) (dZ HG9.out (by decide)));have HZA:=hid ((ho (fun i=>i=g) rfl w9 (Off.refl _ _)).blk HZ9.out (by have:=uS.out;have:=Fb.out;omega));have HHA:=hid ((ho (fun i=>i=g) rfl w9 (Off.refl _ _)).blk HH9.out (by have:=uS.out;omega));have HRA:=hid ((ho (fun i=>i=g) rfl w9 (Off.refl _ _)).blk HR9.out (by have:=uS.out;omega));have HFA:=hid (HF9.out.keep fun i _ hi=>(ho (fun i=>i=g) rfl w9 (Off.refl _ _)).block i (by have:=Blk.lt HR9.out;omega) (by have:=uS.out;omega));have HOA:=hid (ho (fun i=>z≤i) (by have:=uS.out;have:=Fb.out;omega) w1 HO9.out);clear hs ho HS8 HZ8 HH8 HR8 HF8 HO8 HG9 HS9 HZ9 HH9 HR9 HF9 HO9))
    have k2:wa.cell? ⟨rb,2,none⟩=some (.slice fA fs.length fc):=Blk.cell HRA.out 2
    have HZL:=hid (Blk.lt HZA.out)
    go_upto_region 12 with(fail)
    clear k2
    have HNE:=hid (show p≠g∧z≠p∧z≠g∧rb≠p∧rb≠g∧h≠g∧h≠p from by have:=uS.out;have:=Fb.out;have:=HP.out;have:=HPL.out;have:=H0.out;omega)
    go_loopw [10,49] (fun _ i wr=>∃k:Nat,k≤fs.length∧i= .int .i64 k∧gY p g z bv x (iE (fs.take k) (head kd tg) (some (x.drop 7))).1 (iE (fs.take k) (head kd tg) (some (x.drop 7))).2 wa wr) (fun _ i _=>fs.length-(intOf i).toNat)
    case atStart=>
     exact⟨0,by omega,rfl,HSA.out,⟨_,_,_,HGA.out,OL.nil_ ..⟩,Off.refl _ _⟩
    case round=>
     obtain⟨k,hk,rfl,hs,⟨vn,vq,vd,hmb,hol⟩,ho⟩:=hrel
     have HSR:=hid hs
     have HMR:=hid hmb
     have HOL:=hid hol
     have HOR:=hid ho
     clear hs hmb hol ho
     by_cases hlt:k<fs.length
     ·obtain⟨f,hf⟩:∃f,fs[k]? =some f:=⟨fs[k],List.getElem?_eq_getElem _⟩
      obtain⟨ad,rfl,kx⟩:=(HFA.out.keep fun i hlo hi=>HOR.out.block i (by have:=Blk.lt HRA.out;omega) (by have:=Fb.out;have:=uS.out;omega)).at_ hf
      have HFF:=hid (show iE (fs.take (k+1)) (head kd tg) (some (x.drop 7))=fJ (iE (fs.take k) (head kd tg) (some (x.drop 7))).1 (iE (fs.take k) (head kd tg) (some (x.drop 7))).2 f from by
       rw[List.take_add_one,hf,Option.toList_some,rP])
      generalize iE (fs.take k) (head kd tg) (some (x.drop 7))=T at HSR HMR HOL HFF⊢
      clear hf
      go_wp2_with fail
      refine(jY f wr).mono ?_
      rintro e w11 ⟨rfl,hb,hcap⟩
      have hent:=IE f
      have hfd:=fun a b c d e f' g w=>(EI a b c d e f' g w).2.2.2.1
      have HTK:=hid (Dv f (Lr.out.low (show Below 8 w1 w11 from(HOA.out.below (fun i hi=>by have:=H8.out;omega) (by have:=Lr.out.eight;omega)).trans ((HOR.out.below (fun i hi=>by have:=HP.out;have:=H8.out;have:=uS.out;have:=Fb.out;omega) (by have:=HZL.out;have:=H8.out;omega)).trans (hb.mono (by have:=HOR.out.size;have:=HZL.out;have:=H8.out;omega)))) (Nat.le_refl 8)) (by have:=HP.out;have:=H8.out;omega) (Blk.below HMR.out hb (Blk.lt HMR.out)) (HOL.out.below hb) (by have:=HOR.out.size;have:=HZL.out;have:=hb.size;omega) hcap (HSR.out.below hb))
      have A_:=hid (HOR.out.trans (Off.of_below hb))
      clear hb hcap kx HSR HMR HOL
      go_wp2_with fail
      refine HTK.out.mono ?_
      rintro e w12 ⟨rfl,hs,hmm,ho⟩
      have wU:=hid hs
      have Ls:=hid hmm
      have wV:=hid (A_.out.trans ho)
      clear hs hmm ho hent hfd
      go_wp2_with fail
      go_roundw
      case rel=>
       refine⟨k+1,by omega,by go_num, ?_, ?_,wV.out⟩
       ·rw[HFF.out]
        exact wU.out
       ·rw[HFF.out]
        exact Ls.out
      case measure=>simp[intOf];omega
     ·have hkl:k=fs.length:=by omega
      subst hkl
      rw[List.take_length]at HSR HMR HOL
      generalize iE fs (head kd tg) (some (x.drop 7))=T at HSR HMR HOL HD2
      have HHR:=hid (HOR.out.blk HHA.out (by have:=HNE.out;omega))
      have HZR:=hid (HOR.out.blk HZA.out (by have:=HNE.out;omega))
      have HOZ:=hid (HOA.out.trans (HOR.out.mono fun i _ hi=>by have:=HP.out;have:=uS.out;have:=Fb.out;omega))
      clear HHA HZA HRA HFA HOR HOA
      go_wp2_with fail
      refine(zo HSR.out).mono ?_
      rintro e w12 ⟨rfl,hs,hb⟩
      have wU:=hid hs
      have Ls:=hid (hb.blk HMR.out (by have:=HNE.out;omega))
      have TJ:=hid (HOL.out.rd HSR.out hb)
      have QD:=hid (hb.blk HHR.out (by have:=HNE.out;omega))
      have QE:=hid (hb.blk HZR.out (by have:=HNE.out;omega))
      have wV:=hid (HOZ.out.trans (hb.mono fun i _ hi=>by have:=HP.out;have hi:i=p:=hi;omega))
      clear hs hb HSR HMR HOL HHR HZR HOZ
      go_wp2_with fail
      refine(sS wU.out).mono ?_
      rintro e w13 ⟨⟨er,wh,rfl,he⟩,hs,hb⟩
      have Vx:=hid (Blk.below Ls.out hb (Blk.lt Ls.out))
      have Oo:=hid (TJ.out.below hb)
      have Vy:=hid (Blk.below QD.out hb (Blk.lt QD.out))
      have QF:=hid (Blk.below QE.out hb (Blk.lt QE.out))
      have yL:=hid (wV.out.trans (Off.of_below hb))
      clear hs hb wU Ls TJ QD QE wV
      unfold EN at HD2
      cases hE:AX T.2 with
      |none=>
       rw[hE]at he HD2
       have hne0:er≠0:=fun h0=>by have h1:=he.1 h0;cases h1
       have hne:((er:Int) != 0)=true:=by rw[bne_iff_ne];omega
       clear he hE hne0
       go_wp2_with(first|(refine wlw Vy.out 0 (mgN (head kd tg)) rfl rfl _ _ rfl rfl _ Tryz.underlying41 rfl aB ?_)|(refine dA QF.out 0 (mgN (head kd tg)) _ (bW ..) (Nat.le_refl 36) (bT _ rfl rfl rfl) rfl _ _ _ rfl rfl rfl aB ?_;intro wz hs ho;have HZF:=hid hs;have HOF:=hid (ho (fun i=>z≤i) (Nat.le_refl _) w1 yL.out);clear hs ho))
       refine bodyPost_ret (fK (m:=head kd tg) (er:=33) rfl rfl rfl HZF.out) rfl ?_
       rw[HD2.out]
       have hz:=HZZ.out
       exact⟨⟨_,_,_,rfl,OL.nil_ ..⟩,by rw[hz];exact HB1.out.trans (HOF.out.below (fun i hi=>hi) (by have:=Blk.lt HZ1.out;omega))⟩
      |some y=>
       rw[hE]at he HD2
       have hne:((er:Int) != 0)=false:=by rw[he.2 rfl];rfl
       have HON:=hid (And.intro (bG Oo.out.n) (And.intro (bG Oo.out.q) (bG Oo.out.d)))
       clear he hE
       go_wp2_with(first|(refine wlw Vx.out 0 (aF T.1 vn vq vd) rfl rfl _ _ rfl rfl _ Tryz.underlying41 rfl aB ?_)|(refine dA QF.out 0 (aF T.1 vn vq vd) _ (bW ..) (Nat.le_refl 36) (bT _ HON.out.1 HON.out.2.1 HON.out.2.2) rfl _ _ _ rfl rfl rfl aB ?_;intro wz hs ho;have HZF:=hid hs;have HOF:=hid (ho (fun i=>z≤i) (Nat.le_refl _) w1 yL.out);have HLF:=hid (Oo.out.qp QF.out (ho (fun i=>i=z) rfl w13 (Off.refl _ _)));clear hs ho))
       refine bodyPost_ret (fK (m:=T.1) (er:=0) rfl rfl rfl HZF.out) rfl ?_
       rw[HD2.out]
       have hz:=HZZ.out
       exact⟨⟨_,_,_,rfl,by rw[hz];exact HLF.out⟩,by rw[hz];exact HB1.out.trans (HOF.out.below (fun i hi=>hi) (by have:=Blk.lt HZ1.out;omega))⟩
  ·have hne:((aH (x.take 4):Int) != (x.length:Int))=true:=by rw[bne_iff_ne];omega
   have HE:=hid (show dec x=(head 0 0,31)from by rw[HD.out,if_neg hlen,if_pos hsame])
   clear HD
   go_wp2_with(refine dA HZ2.out 0 (mgN (head 0 0)) _ (bW ..) (Nat.le_refl 36) (bT _ rfl rfl rfl) rfl _ _ _ rfl rfl rfl aB ?_;intro wz hs ho;have HZF:=hid hs;have HOF:=hid (ho (fun i=>z≤i) (Nat.le_refl _) w1 HO2.out);clear hs ho)
   refine bodyPost_ret (fK (m:=head 0 0) (er:=31) rfl rfl rfl HZF.out) rfl ?_
   rw[HE.out]
   have hz:=HZZ.out
   exact⟨⟨_,_,_,rfl,OL.nil_ ..⟩,by rw[hz];exact HB1.out.trans (HOF.out.below (fun i hi=>hi) (by have:=Blk.lt HZ1.out;omega))⟩
theorem cell_far(w:World){b o c i:Nat}(h:b≠c)(v:Value):(w.setCell ⟨c,i,none⟩ v).cell? ⟨b,o,none⟩=w.cell? ⟨b,o,none⟩:=
 World.cell?_of_block (Below.heap_setCell _ _ _ _ h)
def Pq(c base:Nat)(k:Mg)(w w':World):Prop:=(∃xn xq xd,aK w' c k xn xq xd∧OL w' base k xn xq xd)∧Off (fun i=>i=c) w w'
theorem Pq.end_{w w1 w':World}{c base:Nat}{k k':Mg}{xn xq xd yn yq yd:Value}(hk:aK w1 c k xn xq xd)(ho:OL w1 base k' yn yq yd)(h1:Below w.heap.size w w1)(hb:aK w' c k' yn yq yd)(hoff:Off (fun i=>i=c) w1 w'):Pq c base k' w w':=
 ⟨⟨_,_,_,hb,ho.qp hk hoff⟩,(Off.of_below h1).trans hoff⟩
theorem Oq(l:List ByteArray):l.length≤(l.map fun s=>2+s.size).sum:=by
 induction l with
 |nil=>exact Nat.le_refl _
 |cons x l ih=>
  simp only[List.length_cons,List.map_cons,List.sum_cons]
  omega
theorem Mg.small.names{m:Mg}(h:m.small):m.names.length≤16777216:=by
 have h1:2+(m.names.map fun s=>2+s.size).sum≤16777216:=h .names
 have:=Oq m.names
 omega
theorem Mg.small.aV{m:Mg}(h:m.small):m.aV.length≤16777216:=by
 have h1:2+13*m.aV.length≤16777216:=h .aV
 omega
theorem Mg.small.data{m:Mg}(h:m.small):m.data.length≤16777216:=by
 have h1:4+m.data.length≤16777216:=h .data
 omega
theorem xG(m:Mg)(vn vq vd:Value)(w:World)(ho:m.ok)(hl:Lists w w.heap.size m vn vq vd)(hr:Ready w)(hz:m.small):
  Calls Tryz.prog 31 #[iM m vn vq vd] w fun e w'=>e= .returned (.int .i64 ((enc m).1.length:Int))∧Below w.heap.size w w':=by
 obtain⟨wq,hwq⟩:∃wq,wq=(al w (aF m vn vq vd) 41):=⟨_,rfl⟩
 have oz:Below w.heap.size w wq:=by rw[hwq];exact(Below.refl _ _).alloc (Nat.le_refl _) _
 have HQ:=hid (show aK wq w.heap.size m vn vq vd from by rw[hwq];exact Blk.new w _ _)
 have HE:=hid (oh m vn vq vd wq ho ((hl.below oz).more oz.size) (hr.below oz (Nat.le_refl _)) hz)
 have HB:=hid oz
 clear ho hl hr hz oz
 unfold iM
 go_enter Tryz.func31,Tryz.ntmps31
 go_upto_region 1 with(fail)
 change Code.wp _ _ _ _ (al w (aF m vn vq vd) 41)
 rw[←hwq]
 clear hwq
 generalize hq:w.heap.size=q at HQ HB⊢
 have HQQ:=hid hq;clear hq
 go_wp2_with(refine wlw HQ.out 0 (aF m vn vq vd) rfl rfl _ _ rfl rfl _ Tryz.underlying41 rfl aB ?_)
 refine HE.out.mono ?_
 rintro e w1 ⟨⟨v,rfl,hv⟩,hb⟩
 have HB1:=hid (HB.out.trans (hb.mono (by have:=HB.out.size;have:=HQQ.out;omega)))
 obtain⟨A,c,rfl, -⟩:=aJ hv
 have hq:=HQQ.out
 clear hb hv
 rw[←hq]at HB1
 clear hq HB HQQ
 go_wp2_with fail
 go_ret
 exact⟨rfl,HB1.out⟩
open Go.Lib (decDigits)
theorem Mg.small.Pv{m:Mg}(h:m.small):∀x∈m.names,x.size≤16777216:=by
 intro x hx
 have h1:2+(m.names.map fun s=>2+s.size).sum≤16777216:=h .names
 have h2:∀l:List ByteArray,x∈l→x.size≤(l.map fun s=>2+s.size).sum:=by
  intro l
  induction l with
  |nil=>intro h;cases h
  |cons y l ih=>
   intro h
   rw[List.map_cons,List.sum_cons]
   rcases List.mem_cons.1 h with rfl|h
   ·omega
   ·have:=ih h;omega
 have:=h2 _ hx
 omega
theorem Mg.small.TK{m:Mg}(h:m.small):m.stat.name.size≤16777216∧m.stat.uid.size≤16777216∧m.stat.gid.size≤16777216∧m.stat.fE.size≤16777216:=by
 have h1:2+(49+m.stat.name.size+m.stat.uid.size+m.stat.gid.size+m.stat.fE.size)≤16777216:=h .stat
 omega
theorem Qd.ok.wide{q:Qd}(h:q.ok):q.kind<18446744073709551616∧q.vers<18446744073709551616∧q.path<18446744073709551616:=by
 obtain⟨h1,h2,h3⟩:=h
 omega
theorem Mg.prt{m:Mg}(ho:m.ok)(hg:m.good .stat=true)(hz:m.small):m.stat.prt:=by
 obtain⟨n1,n2,hq,n4,n5,n6,n7⟩:=ho.stat
 have hg:(Go.Proofs.YtkblmloobkiloaaGreatDoor.good m.stat.name&&Go.Proofs.YtkblmloobkiloaaGreatDoor.good m.stat.uid&&Go.Proofs.YtkblmloobkiloaaGreatDoor.good m.stat.gid&&Go.Proofs.YtkblmloobkiloaaGreatDoor.good m.stat.fE)=true:=hg
 simp only[Bool.and_eq_true]at hg
 obtain⟨⟨⟨g1,g2⟩,g3⟩,g4⟩:=hg
 obtain⟨z1,z2,z3,z4⟩:=hz.TK
 exact⟨by omega,by omega,hq.wide,by omega,by omega,by omega,by omega,⟨g1,z1⟩,⟨g2,z2⟩,⟨g3,z3⟩,⟨g4,z4⟩⟩
theorem jf{w:World}{q b o K n:Nat}(hn:n<18446744073709551616)(hent:∀args w,Sem.run Tryz.prog (callFunc K args) w= .ok (.enter K args) w)(hat:∀w,Calls Tryz.prog K #[.pointer (some ⟨q,0,none⟩)] w fun e w'=>e= .returned (.pointer (some ⟨q,o,none⟩))∧w=w')(hc:Blk w b 135 #[fv K #[]])(ks:w.cell? ⟨q,o,none⟩=some (.int .u32 (n:Int)))(ht:TP w):
  Calls Tryz.prog 130 #[.pointer (some ⟨q,0,none⟩),.pointer (some ⟨b,0,none⟩)] w fun e w'=>e= .returned (.string (ofL (decDigits n)))∧Below w.heap.size w w':=by
 have HAT:=hid (hat w)
 have HD:=hid (dN n hn w ht)
 have hw:=eH hn
 have kb:w.cell? ⟨b,0,none⟩=_:=hc.cell 0
 clear hat hc hn ht
 go_enter Tryz.func130,Tryz.ntmps130
 go_wp2_with fail
 refine HAT.out.mono ?_
 rintro e w' ⟨rfl,rfl⟩
 go_wp2_with fail
 refine HD.out.mono ?_
 rintro e w1 ⟨rfl,hb⟩
 have HB:=hid hb
 clear hb
 go_wp2_with fail
 go_ret
 exact⟨rfl,HB.out⟩
theorem abW{w:World}{q:Nat}{m:Mg}{vn vq vd:Value}(hm:aK w q m vn vq vd)(hl:Lists w w.heap.size m vn vq vd)(ht:TP w)(h8:8≤w.heap.size)(ho:m.ok)(hg:m.good .names=true)(hz:m.small)(hq:∀x∈m.names,abZ x):
  Calls Tryz.prog 216 #[.pointer (some ⟨q,0,none⟩)] w fun e w'=>e= .returned (.string (ofL (m.val .names)))∧Below w.heap.size w w':=by
 have hnm:m.names.length≤16∧∀x∈m.names,good x=true:=by
  have h:(decide (m.names.length≤16)&&m.names.all good)=true:=hg
  rw[Bool.and_eq_true]at h
  exact⟨of_decide_eq_true h.1,List.all_eq_true.1 h.2⟩
 have k0:w.cell? ⟨q,11,none⟩=some vn:=Blk.cell hm 11
 have HD:=hid (abV vn m.names w hl.n hnm.1 (fun x hx=>⟨hz.Pv x hx,hq x hx⟩))
 clear hm hl ht h8 ho hg hz
 go_enter Tryz.func216,Tryz.ntmps216
 go_wp2_with fail
 refine HD.out.mono ?_
 rintro e w1 ⟨rfl,hb⟩
 have HB:=hid hb
 clear hb
 go_wp2_with fail
 go_ret
 exact⟨rfl,HB.out⟩
abbrev P6(m:Mg)(f:Fld):Prop:=∀(w:World) (q:Nat) (vn vq vd:Value),aK w q m vn vq vd→Lists w w.heap.size m vn vq vd→TP w→8≤w.heap.size→m.ok→∀b:Nat,yC w f b→m.good f=true→m.small→Calls Tryz.prog f.kr (#[.pointer (some ⟨q,0,none⟩)]++f.cap b) w fun e w'=>e= .returned (.string (ofL (m.val f)))∧Below w.heap.size w w'
theorem P8{m:Mg}{f:Fld}(hq:∀x∈m.names,abZ x)(h:f= .fid∨f= .aU∨f= .names):P6 m f:=by
 intro w q vn vq vd hm hl ht h8 ho b hc hg hz
 rcases h with rfl|rfl|rfl
 ·exact jf (n:=m.fid) (by have:=ho.fid;omega) (aS .fid rfl) (aZ .fid rfl q) (hc.2 rfl rfl) (Blk.cell hm 9) ht
 ·exact jf (n:=m.aU) (by have:=ho.aU;omega) (aS .aU rfl) (aZ .aU rfl q) (hc.2 rfl rfl) (Blk.cell hm 10) ht
 ·exact abW hm hl ht h8 ho hg hz hq
theorem Ot(m:Mg)(f:Fld)(ho:m.ok)(hg:m.good f=true)(hz:m.small):(m.val f).length≤2147483648:=by
 have hd:∀n,n<18446744073709551616→(decDigits n).length≤20:=fun n hn=>by have:=jD n hn;rw[dU]at this;exact this
 have hq:=fun s=>kT s
 cases f
 case bI=>show(decDigits m.bI).length≤_;have:=hd m.bI (by have:=ho.bI;omega);omega
 case version=>show(bD m.version).length≤_;have:=hq m.version;have h:2+m.version.size≤16777216:=hz .version;omega
 case dB=>show(decDigits m.dB).length≤_;have:=hd m.dB (by have:=ho.dB;omega);omega
 case uname=>show(bD m.uname).length≤_;have:=hq m.uname;have h:2+m.uname.size≤16777216:=hz .uname;omega
 case bF=>show(bD m.bF).length≤_;have:=hq m.bF;have h:2+m.bF.size≤16777216:=hz .bF;omega
 case bH=>show(bD m.bH).length≤_;have:=hq m.bH;have h:2+m.bH.size≤16777216:=hz .bH;omega
 case aT=>show(decDigits m.aT).length≤_;have:=hd m.aT (by have:=ho.aT;omega);omega
 case fid=>show(decDigits m.fid).length≤_;have:=hd m.fid (by have:=ho.fid;omega);omega
 case aU=>show(decDigits m.aU).length≤_;have:=hd m.aU (by have:=ho.aU;omega);omega
 case mode=>show(decDigits m.mode).length≤_;have:=hd m.mode (by have:=ho.mode;omega);omega
 case aQ=>show(decDigits m.aQ).length≤_;have:=hd m.aQ (by have:=ho.aQ;omega);omega
 case name=>show(bD m.name).length≤_;have:=hq m.name;have h:2+m.name.size≤16777216:=hz .name;omega
 case perm=>show(decDigits m.perm).length≤_;have:=hd m.perm (by have:=ho.perm;omega);omega
 case offset=>show(decDigits m.offset).length≤_;have:=hd m.offset (by have:=ho.offset;omega);omega
 case count=>show(decDigits m.count).length≤_;have:=hd m.count (by have:=ho.count;omega);omega
 case qid=>show(iG m.qid).length≤_;have:=pI m.qid ho.qid.wide;omega
 case data=>show(m.data.flatMap jW).length≤_;rw[GI];have:=hz.data;omega
 case names=>
  show(91::(iJ (m.names.map bD)++[93])).length≤_
  have h:(decide (m.names.length≤16)&&m.names.all good)=true:=hg
  rw[Bool.and_eq_true]at h
  have h1:=of_decide_eq_true h.1
  have h2:=nN (m.names.map bD) 67108866 (by
   intro x hx
   obtain⟨y,hy,rfl⟩:=List.mem_map.1 hx
   have:=hq y
   have:=hz.Pv y hy
   omega)
  rw[List.length_map]at h2
  have h3:m.names.length*(67108866+1)≤16*(67108866+1):=Nat.mul_le_mul_right _ h1
  rw[List.length_cons,List.length_append,List.length_cons,List.length_nil]
  omega
 case aV=>
  show(91::(iJ (m.aV.map iG)++[93])).length≤_
  have h1:m.aV.length≤16:=of_decide_eq_true hg
  have h2:=nN (m.aV.map iG) 62 (by
   intro x hx
   obtain⟨y,hy,rfl⟩:=List.mem_map.1 hx
   exact pI y (ho.aV y hy).wide)
  rw[List.length_map]at h2
  have h3:m.aV.length*(62+1)≤16*(62+1):=Nat.mul_le_mul_right _ h1
  rw[List.length_cons,List.length_append,List.length_cons,List.length_nil]
  omega
 case stat=>
  show(rD m.stat).length≤_
  have hp:=Mg.prt ho hg hz
  have a0:=hd _ hp.type
  have a1:=hd _ hp.dev
  have a2:=pI _ hp.qid
  have a3:=hd _ hp.mode
  have a4:=hd _ hp.atime
  have a5:=hd _ hp.mtime
  have a6:=hd _ hp.length
  have a7:=hq m.stat.name
  have a8:=hq m.stat.uid
  have a9:=hq m.stat.gid
  have b0:=hq m.stat.fE
  have b7:=hp.name.2
  have b8:=hp.uid.2
  have b9:=hp.gid.2
  have c0:=hp.fE.2
  unfold rD
  simp only[List.length_append,List.length_cons,List.length_nil]
  omega
end Go.Proofs.YtkblmloobkiloaaGreatDoor
