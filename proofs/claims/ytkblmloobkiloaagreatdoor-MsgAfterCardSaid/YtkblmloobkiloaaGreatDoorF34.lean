/-
  MSF: what the laws of package msg need of them.
-/
import Derived.Test.YtkblmloobkiloaaGreatDoorF00
import Derived.Test.YtkblmloobkiloaaGreatDoorF33
namespace Go.Proofs.YtkblmloobkiloaaGreatDoor
open Go.Lib (hid)
open Go.RowKit
theorem kQ(m m':Mg)(an aq ad vn vq vd:Value):over (aF m an aq ad).toArray 0 (aF m' vn vq vd)=(aF m' vn vq vd).toArray:=by kernel_rfl
theorem WA{w:World}{q:Nat}{t:TypeId}{cs:Array Value}{op:Oper}{a:Act}{K:Act→World→Prop}{Q:Exit→Act→World→Prop}(hk:Blk w q t cs)(o:Nat)(l:List Value)(cs':Array Value)(hcs:over cs o l=cs')(hb:o+l.length≤cs.size)(h1:l.toArray.all (·.oneCell')=true)(ty:TypeId)(x y:Operand)(ho:op.op= .store ty x y)(hx:a.eval x= .pointer (some ⟨q,o,none⟩))(hy:a.eval y= .agg l.toArray)
  (hi:(Tryz.prog.info? ty).map (·.size)=some l.length)
  (h:∀w':World,Blk w' q t cs'→(∀S:Nat→Prop,S q→∀v,Off S v w→Off S v w')→K (a.put op.dst undef) w'):op.wp Tryz.prog a w K Q:=
 wp_store_mid ty x y ho q o l.toArray hx hy (fun j hj=>by
  have hj':j<l.length:=by simpa using hj
  refine⟨?_,Blk.frozen hk _⟩
  rw[Blk.cell hk,Array.getElem?_eq_getElem (by omega)]
  rfl) (by simpa using hi) h1 (h _ (by rw[←hcs];exact Blk.sN _ _ hk) (fun S hS v hv=>og hv hS _ o))
structure DS(w0 w:World)(r p:Nat)(hv:Value)(x:List UInt8)(st:Option (List UInt8)):Prop where
 s:BdS w p hv x st
 x:Bys w w0.heap.size hv x
 res:aK w r (head 0 0) (.slice none 0 0) (.slice none 0 0) (.slice none 0 0)
 br:w0.heap.size≤r
 bp:w0.heap.size≤p
 b:Below w0.heap.size w0 w
section
variable {w w' w0:World} {p r:Nat} {hv:Value} {x:List UInt8} {st st':Option (List UInt8)}
theorem DS.step(h:DS w0 w r p hv x st)(hs:BdS w' p hv x st')(ho:Off (fun i=>i=p) w w'):DS w0 w' r p hv x st':=
 ⟨hs,Off.bys h.x ho h.b.size (fun i hi=>by have hi:i=p:=hi;have:=h.bp;omega),ho.blk h.res (fun e=>h.s.noT (by decide) r _ _ e h.res),h.br,h.bp,h.b.trans (ho.below (fun i hi=>by have hi:i=p:=hi;have:=h.bp;omega) h.b.size)⟩
theorem DS.new(h:DS w0 w r p hv x st)(hb:Below w.heap.size w w'):DS w0 w' r p hv x st:=
 ⟨h.s.below hb,h.x.below (hb.mono h.b.size),Blk.below h.res hb (Blk.lt h.res),h.br,h.bp,h.b.trans (hb.mono h.b.size)⟩
theorem DS.keep(h:DS w0 w r p hv x st)(hs:BdS w' p hv x st')(hk:Nh w0.heap.size w w'):DS w0 w' r p hv x st':=
 ⟨hs,h.x.below hk.1,hk.2 _ _ h.res,h.br,h.bp,h.b.trans hk.1⟩
theorem DS.msg{g:Nat}{cs:Array Value}(h:DS w0 w r p hv x st)(hg:Blk w g 41 cs)(hl:w0.heap.size≤g)(hr:r≠g)(ho:Off (fun i=>i=g) w w'):DS w0 w' r p hv x st:=
 ⟨h.s.off ho (fun e=>h.s.noT (by decide) g _ _ e.symm hg),Off.bys h.x ho h.b.size (fun i hi=>by have hi:i=g:=hi;omega),ho.blk h.res hr,h.br,h.bp,h.b.trans (ho.below (fun i hi=>by have hi:i=g:=hi;omega) h.b.size)⟩
theorem DS.fin{m:Mg}{vn vq vd:Value}(h:DS w0 w r p hv x st)(hl:OL w w0.heap.size m vn vq vd)(ho:Off (fun i=>i=r) w w'):OL w' w0.heap.size m vn vq vd∧Below w0.heap.size w0 w':=
 ⟨hl.qp h.res ho,h.b.trans (ho.below (fun i hi=>by have hi:i=r:=hi;have:=h.br;omega) h.b.size)⟩
end
theorem Rt{k i:Nat}{fs:List Fld}{f:Fld}(hk:bQ k=some fs)(hf:fs[i]? =some f):∃h:i<(iQ k).size,f.rX=(iQ k)[i]'h:=by
 have e:(iQ k).data.toList=fs.map Fld.rX:=by
  unfold iQ
  rw[hk]
  rfl
 have hi:=(List.getElem?_eq_some_iff.1 hf).1
 have hs:(iQ k).data.toList.length=(iQ k).size:=Array.length_toList ..
 have hl:i<(iQ k).size:=by rw[←hs,e,List.length_map];exact hi
 refine⟨hl, ?_⟩
 have h2:=byte_at (iQ k) i hl
 rw[e,List.getElem?_map,hf]at h2
 exact Option.some.inj h2
theorem lay_size{k:Nat}{fs:List Fld}(hk:bQ k=some fs):(iQ k).size=fs.length:=by
 have hs:(iQ k).data.toList.length=(iQ k).size:=Array.length_toList ..
 rw[←hs]
 unfold iQ
 rw[hk]
 show(fs.map Fld.rX).length=_
 rw[List.length_map]
theorem Gg(x:List UInt8)(n k:Nat)(h:n+k≤x.length):dn (some (x.drop n)) k=((x.drop n).take k,some (x.drop (n+k))):=by
 rw[gU (by rw[List.length_drop];omega),List.drop_drop]
set_option maxRecDepth 100000 in
set_option maxHeartbeats 6400000 in
theorem Gh(hv:Value)(x:List UInt8)(w:World)(hx:Bys w w.heap.size hv x)(hz:x.length≤16777216):
  Calls Tryz.prog 14 #[hv] w (TI (dec x) w):=by
 obtain⟨hup,h1,h2⟩:=uZ w (head 0 0) (.slice none 0 0) (.slice none 0 0) (.slice none 0 0)
 have HR:=hid (show aK ((w.alloc (.cells (mgN (head 0 0)).toArray 41)).alloc (.cells (mgN (head 0 0)).toArray 41)) w.heap.size (head 0 0) (.slice none 0 0) (.slice none 0 0) (.slice none 0 0)from h1)
 have HN:=hid (show aK ((w.alloc (.cells (mgN (head 0 0)).toArray 41)).alloc (.cells (mgN (head 0 0)).toArray 41)) (w.heap.size+1) (head 0 0) (.slice none 0 0) (.slice none 0 0) (.slice none 0 0)from h2)
 have HB:=hid (show Below w.heap.size w ((w.alloc (.cells (mgN (head 0 0)).toArray 41)).alloc (.cells (mgN (head 0 0)).toArray 41))from hup)
 have HX:=hid (show Bys ((w.alloc (.cells (mgN (head 0 0)).toArray 41)).alloc (.cells (mgN (head 0 0)).toArray 41)) w.heap.size hv x from hx.below hup)
 clear h1 h2 hup
 have hcc:=hx
 obtain⟨A,c,rfl, -⟩:=hcc
 clear hx
 go_enter Tryz.func14,Tryz.ntmps14
 go_upto_region 2 with(fail)
 change Code.wp _ _ _ _ ((w.alloc (.cells (mgN (head 0 0)).toArray 41)).alloc (.cells (mgN (head 0 0)).toArray 41))
 generalize hw1:(w.alloc (.cells (mgN (head 0 0)).toArray 41)).alloc (.cells (mgN (head 0 0)).toArray 41)=w1 at HR HN HB HX⊢
 have uF:=hid (show w1.heap.size=w.heap.size+2 from by rw[←hw1,World.size_alloc,World.size_alloc])
 clear hw1
 generalize hr:w.heap.size=r at HR HN HB HX uF⊢
 have HRR:=hid hr
 clear hr
 generalize hq:r+1=q at HN⊢
 have HQ:=hid hq
 clear hq
 by_cases hlen:x.length<7∨65536<x.length
 ·have HE:=hid (show dec x=(head 0 0,31)from by unfold dec;rw[if_pos hlen])
  rcases hlen with hlen|hlen
  all_goals(
   go_wp2_with(first|(refine wlw HN.out 0 (aF (head 0 0) (.slice none 0 0) (.slice none 0 0) (.slice none 0 0)) rfl rfl _ _ rfl rfl _ Tryz.underlying41 rfl aB ?_)|(refine dA HR.out 0 (aF (head 0 0) (.slice none 0 0) (.slice none 0 0) (.slice none 0 0)) _ (kQ ..) (Nat.le_refl 36) (bT _ rfl rfl rfl) rfl _ _ _ rfl rfl rfl aB ?_;intro wz hs ho;have HZF:=hid hs;have HOF:=hid (ho (fun i=>r≤i) (Nat.le_refl _) w1 (Off.refl _ _));clear hs ho))
   refine bodyPost_ret (fK (m:=head 0 0) (er:=31) rfl rfl rfl HZF.out) rfl ?_
   rw[HE.out]
   exact⟨⟨_,_,_,rfl,OL.nil_ ..⟩,by have hz:=HRR.out;rw[hz];exact HB.out.trans (HOF.out.below (fun i hi=>hi) (by have:=uF.out;omega))⟩)
 ·have HL:=hid hlen
  have h7:7≤x.length:=by omega
  have h6:x.length≤65536:=by omega
  clear hlen
  have HQL:=hid (show q<w1.heap.size from by have:=uF.out;have:=HQ.out;omega)
  have hup:Below w1.heap.size w1 (w1.alloc (.cells #[.slice A x.length c,.int .i64 0,.bool false] 97)):=(Below.refl _ _).alloc (Nat.le_refl _) _
  have HD2:=hid (show DS w (w1.alloc (.cells #[.slice A x.length c,.int .i64 0,.bool false] 97)) r w1.heap.size (.slice A x.length c) x (some (x.drop 0))from⟨⟨0,false,Blk.new w1 _ _,Nat.zero_le _,hz,rfl⟩,by rw[HRR.out];exact HX.out.below (hup.mono (by have:=uF.out;omega)),Blk.below HR.out hup (Blk.lt HR.out),Nat.le_of_eq HRR.out,(by have:=uF.out;have:=HRR.out;omega),by rw[HRR.out];exact HB.out.trans (hup.mono (by have:=uF.out;omega))⟩)
  have HN2:=hid (Blk.below HN.out hup (Blk.lt HN.out))
  clear hup HB HX HN HR
  go_upto_region 5 with(fail)
  generalize w1.alloc (.cells #[.slice A x.length c,.int .i64 0,.bool false] 97)=w2 at HD2 HN2⊢
  generalize hp:w1.heap.size=p at HD2 HQL uF⊢
  have HP:=hid hp
  clear hp
  go_wp2_with fail
  refine(iy 4 (by decide) HD2.out.x HD2.out.bp HD2.out.s).mono ?_
  rw[Gg x 0 4 (by omega),List.drop_zero]
  rintro e w3 ⟨rfl,hs,ho⟩
  have HD3:=hid (HD2.out.step hs ho)
  have HN3:=hid (ho.blk HN2.out (fun e=>by have e:q=p:=e;have:=HQL.out;omega))
  clear hs ho HD2 HN2
  have hn4:aH (x.take 4)<4294967296:=Nat.lt_of_lt_of_le (dD _) (show 256^_≤256^4 from Nat.pow_le_pow_right (by decide) (by rw[List.length_take];omega))
  have hwl:IntKind.u64.wrap (x.length:Int)=(x.length:Int):=by rw[IntKind.wrap_u64];omega
  by_cases hsame:aH (x.take 4)=x.length
  ·have HDR:=hid (Rq HL.out hsame)
   rw[hsame]
   clear hn4
   go_wp2_with fail
   refine(iy 1 (by decide) HD3.out.x HD3.out.bp HD3.out.s).mono ?_
   rw[Gg x (0+4) 1 (by omega)]
   rintro e w4 ⟨rfl,hs,ho⟩
   have HD4:=hid (HD3.out.step hs ho)
   clear hs ho HD3 HN3
   go_wp2_with fail
   refine(iy 2 (by decide) HD4.out.x HD4.out.bp HD4.out.s).mono ?_
   rw[Gg x (0+4+1) 2 (by omega)]
   rintro e w5 ⟨rfl,hs,ho⟩
   have HD5:=hid (HD4.out.step hs ho)
   clear hs ho HD4
   have hkl:aH ((x.drop 4).take 1)<256:=Nat.lt_of_lt_of_le (dD _) (show 256^_≤256^1 from Nat.pow_le_pow_right (by decide) (by rw[List.length_take];omega))
   have htl:aH ((x.drop 5).take 2)<65536:=Nat.lt_of_lt_of_le (dD _) (show 256^_≤256^2 from Nat.pow_le_pow_right (by decide) (by rw[List.length_take];omega))
   dsimp only[Nat.zero_add,Nat.reduceAdd]at HD5⊢
   generalize aH ((x.drop 4).take 1)=kd at*
   generalize aH ((x.drop 5).take 2)=tg at*
   have hw1:IntKind.u8.wrap (kd:Int)=(kd:Int):=by rw[IntKind.wrap_u8];omega
   have hw2:IntKind.u16.wrap (tg:Int)=(tg:Int):=by rw[IntKind.wrap_u16];omega
   go_upto_region 11 with(change wpList _ _ _ _ _ (w5.alloc (.cells (mgN (head 0 0)).toArray 41));have HH6:=hid (show aK (w5.alloc (.cells (mgN (head 0 0)).toArray 41)) w5.heap.size (head 0 0) (.slice none 0 0) (.slice none 0 0) (.slice none 0 0)from Blk.new w5 _ _);have HD6:=hid (HD5.out.new ((Below.refl _ _).alloc (Nat.le_refl _) (.cells (mgN (head 0 0)).toArray 41)));have HZR:=hid (show r<w5.heap.size from Blk.lt HD5.out.res);have HZW:=hid (HD5.out.b.size);clear HD5;generalize w5.alloc (.cells (mgN (head 0 0)).toArray 41)=w6 at HH6 HD6⊢;generalize w5.heap.size=z at HH6 HZR HZW⊢;refine dA HH6.out 0 (mgN (head kd tg)) _ (kQ ..) (Nat.le_refl 36) (bT _ rfl rfl rfl) rfl _ _ _ rfl rfl rfl aB ?_;intro w7 hs ho;have HM7:=hid (show aK w7 z (head kd tg) (.slice none 0 0) (.slice none 0 0) (.slice none 0 0)from hs);have HD7:=hid (HD6.out.msg HH6.out HZW.out (by have:=HZR.out;omega) (ho (fun i=>i=z) rfl _ (Off.refl _ _)));clear hs ho HH6 HD6)
   go_upto_region 12 with(first|(refine wlw HM7.out 0 (mgN (head kd tg)) rfl rfl _ _ rfl rfl _ Tryz.underlying41 rfl aB ?_)|(change wpList _ _ _ _ _ (w7.alloc (.cells (mgN (head 0 0)).toArray 41));have HH8:=hid (show aK (w7.alloc (.cells (mgN (head 0 0)).toArray 41)) w7.heap.size (head 0 0) (.slice none 0 0) (.slice none 0 0) (.slice none 0 0)from Blk.new w7 _ _);have HD8:=hid (HD7.out.new ((Below.refl _ _).alloc (Nat.le_refl _) (.cells (mgN (head 0 0)).toArray 41)));have HM8:=hid (Blk.alloc HM7.out (.cells (mgN (head 0 0)).toArray 41));have HYR:=hid (show r<w7.heap.size from Blk.lt HD7.out.res);have HYZ:=hid (show z<w7.heap.size from Blk.lt HM7.out);have HYW:=hid (HD7.out.b.size);clear HD7 HM7;generalize w7.alloc (.cells (mgN (head 0 0)).toArray 41)=w8 at HH8 HD8 HM8⊢;generalize w7.heap.size=y at HH8 HYR HYW HYZ⊢;refine dA HH8.out 0 (mgN (head kd tg)) _ (kQ ..) (Nat.le_refl 36) (bT _ rfl rfl rfl) rfl _ _ _ rfl rfl rfl aB ?_;intro w9 hs ho;have HY9:=hid (show aK w9 y (head kd tg) (.slice none 0 0) (.slice none 0 0) (.slice none 0 0)from hs);have HM9:=hid (show aK w9 z (head kd tg) (.slice none 0 0) (.slice none 0 0) (.slice none 0 0)from(ho (fun i=>i=y) rfl _ (Off.refl _ _)).blk HM8.out (fun e=>by have e:z=y:=e;have:=HYZ.out;omega));have HD9:=hid (HD8.out.msg HH8.out HYW.out (by have:=HYR.out;omega) (ho (fun i=>i=y) rfl _ (Off.refl _ _)));clear hs ho HH8 HD8 HM8))
   have k0:w9.cell? ⟨z,0,none⟩=some (.int .u8 (kd:Int)):=Blk.cell HM9.out 0
   have Us:=hid (And.intro HZR.out HZW.out)
   clear hw1 hw2 HZR HZW
   go_wp2_with fail
   refine(Bv kd hkl w9).mono ?_
   rintro e w' ⟨rfl,rfl⟩
   clear k0
   cases hk:bQ kd with
   |none=>
    have HE:=hid (show dec x=(head kd tg,32)from by rw[HDR.out,hk])
    rw[show(none:Option (List Fld)).isSome=false from rfl]
    clear hk HDR
    go_wp2_with(first|(refine wlw HY9.out 0 (aF (head kd tg) (.slice none 0 0) (.slice none 0 0) (.slice none 0 0)) rfl rfl _ _ rfl rfl _ Tryz.underlying41 rfl aB ?_)|(refine dA HD9.out.res 0 (aF (head kd tg) (.slice none 0 0) (.slice none 0 0) (.slice none 0 0)) _ (kQ ..) (Nat.le_refl 36) (bT _ rfl rfl rfl) rfl _ _ _ rfl rfl rfl aB ?_;intro wz hs ho;have HZF:=hid hs;have HOF:=hid (ho (fun i=>i=r) rfl _ (Off.refl _ _));clear hs ho))
    obtain⟨r1,r2⟩:=HD9.out.fin (OL.nil_ ..) HOF.out
    refine bodyPost_ret (fK (m:=head kd tg) (er:=32) rfl rfl rfl HZF.out) rfl ?_
    rw[HE.out]
    exact⟨⟨_,_,_,rfl,r1⟩,r2⟩
   |some fs=>
    have HDE:=hid (show dec x=match fin (mX fs (head kd tg) (x.drop 7))with|some m=>(m,0)|none=>(head kd tg,33)from by rw[HDR.out,hk];rfl)
    rw[show(some fs).isSome=true from rfl]
    have HLA:=hid (@Rt kd · fs · hk)
    have HND:=hid (Gf hk)
    have hls:=lay_size hk
    have GN:fs.length≤20:=by
     have hh:=hk
     unfold bQ at hh
     split at hh<;>first|(obtain rfl:=Option.some.inj hh;decide)|(exact absurd hh (by simp))
    clear hk HDR
    generalize iQ kd=S at*
    go_upto_region 16 with(fail)
    go_loopw [13] (fun i wr=>∃(k:Nat) (m:Mg) (vn vq vd:Value) (sk:Option (List UInt8)),k≤fs.length∧i= .int .i64 (k:Int)∧DS w wr r p (.slice A x.length c) x sk∧aK wr z m vn vq vd∧aK wr y (head kd tg) (.slice none 0 0) (.slice none 0 0) (.slice none 0 0)∧OL wr w.heap.size m vn vq vd∧zT (fs.drop k) m∧mX fs (head kd tg) (x.drop 7)=sk.bind (mX (fs.drop k) m)) (fun i _=>fs.length-(intOf i).toNat)
    case atStart=>
     exact⟨0,_,_,_,_,_,Nat.zero_le _,rfl,HD9.out,HM9.out,HY9.out,OL.nil_ ..,⟨fun _=>rfl,fun _=>rfl,fun _=>rfl⟩,rfl⟩
    case round=>
     obtain⟨k,m,vn,vq,vd,sk,hk,rfl,hd,hm,hy,hol,hfr,hall⟩:=hrel
     have HDK:=hid hd
     have HMK:=hid hm
     have HYK:=hid hy
     have HOK:=hid hol
     have HFR:=hid hfr
     have HAL:=hid hall
     have h1:=bG hol.n
     have h2:=bG hol.q
     have h3:=bG hol.d
     clear hd hm hy hol hfr hall HM9 HY9 HD9
     by_cases hlt:k<fs.length
     ·obtain⟨f,hf⟩:∃f,fs[k]? =some f:=⟨fs[k],List.getElem?_eq_getElem hlt⟩
      have hdr:fs.drop k=f::fs.drop (k+1):=by rw[List.drop_eq_getElem_cons hlt,(List.getElem?_eq_some_iff.1 hf).2]
      obtain⟨hks,hc⟩:=HLA.out _ _ hf
      have HC:=hid hc
      have Ut:=hid (show zT (f::fs.drop (k+1)) m from by rw[←hdr];exact HFR.out)
      have HNX:=hid (show(f::fs.drop (k+1)).Nodup from by rw[←hdr];exact HND.out.sublist (List.drop_sublist _ _))
      have WB:=hid (show mX fs (head kd tg) (x.drop 7)=sk.bind (mX (f::fs.drop (k+1)) m)from by rw[←hdr];exact HAL.out)
      clear hf hdr hc HFR HAL
      go_upto_region 18 with(fail)
      try simp only[Act.put]
      have HDD:=hid (HDK.out.new (aC wr))
      have HMD:=hid (show aK wr.drew z m vn vq vd from HMK.out)
      have HYD:=hid (show aK wr.drew y (head kd tg) (.slice none 0 0) (.slice none 0 0) (.slice none 0 0)from HYK.out)
      have HOD:=hid (HOK.out.below (aC wr))
      clear HDK HMK HYK HOK
      refine wp_region_held_drew (S:=fun _=>True) (by kernel_rfl) trivial (fun hHeld=> ?_)
      generalize wr.drew=wd at HDD HMD HYD HOD⊢
      refine tk 59 0 (.pointer (some ⟨p,0,none⟩)) ?_
      refine tk 61 2 (.string S) ?_
      refine tk 62 3 (.int .i64 (k:Int)) ?_
      refine tk2 63 4 (.int .u8 (f.rX.toNat:Int)) rfl (fun wq hSw=>by have hc:=HC.out;go_simp) ?_
      refine wpAnyH_ready (rs:=[1]) (by kernel_rfl) (by simp) ?_
      refine AllReadyH.cons rfl (fun K hK=> ?_) AllReadyH.nil
      rw[if_pos (by rfl)]
      refine wp_load_mid _ _ rfl _ _ rfl (aF m vn vq vd) _ (Blk.range HMD.out 0 _ rfl) Tryz.underlying41 rfl aB ?_
      refine hK.out _ _ hHeld (fun hHeld=> ?_)
      clear hK
      try simp only[ah]
      refine wpAnyH_ready (rs:=[5]) (by kernel_rfl) (by simp) ?_
      refine AllReadyH.cons rfl (fun K hK=> ?_) AllReadyH.nil
      rw[if_pos (by rfl)]
      go_simp
      refine(BL HDD.out.x HDD.out.bp HDD.out.s HOD.out HDD.out.b.size f _ Ut.out).mono ?_
      rintro e wf ⟨m',un,uq,ud,rfl,hol,hfo,hkm,hres⟩
      dsimp only
      obtain⟨st',hs,HST⟩:∃st',BdS wf p (.slice A x.length c) x st'∧Hid (match sk.bind (fun l=>rfF m l f)with|some (t,r)=>m'=t∧st'=some r|none=>st'=none):=by
       cases hg:sk.bind (fun l=>rfF m l f)with
       |none=>rw[hg]at hres;exact⟨none,hres,hid rfl⟩
       |some y=>rw[hg]at hres;exact⟨some y.2,hres.2,hid ⟨hres.1,rfl⟩⟩
      have HDF:=hid (HDD.out.keep hs hkm)
      have HMF:=hid (hkm.2 _ _ HMD.out)
      have HYF:=hid (hkm.2 _ _ HYD.out)
      have HOF:=hid hol
      have HFO:=hid hfo
      have g1:=bG hol.n
      have g2:=bG hol.q
      have g3:=bG hol.d
      clear hres hs hkm hol hfo HDD HMD HYD HOD
      refine hK.out _ _ hHeld (fun hHeld=> ?_)
      clear hK
      try simp only[ah]
      refine wpAnyH_ready (rs:=[6]) (by kernel_rfl) (by simp) ?_
      refine AllReadyH.cons rfl (fun K hK=> ?_) AllReadyH.nil
      rw[if_pos (by rfl)]
      refine WA HMF.out 0 (aF m' un uq ud) _ (kQ ..) (Nat.le_refl 36) (bT _ g1 g2 g3) _ _ _ rfl rfl rfl aB ?_
      intro wg hs ho
      have HMG:=hid (show aK wg z m' un uq ud from hs)
      have HYG:=hid (show aK wg y (head kd tg) (.slice none 0 0) (.slice none 0 0) (.slice none 0 0)from(ho (fun i=>i=z) rfl _ (Off.refl _ _)).blk HYF.out (fun e=>by have e:y=z:=e;have:=HYZ.out;omega))
      have HDG:=hid (HDF.out.msg HMF.out Us.out.2 (by have:=Us.out.1;omega) (ho (fun i=>i=z) rfl _ (Off.refl _ _)))
      have HOG:=hid (HOF.out.qp HMF.out (ho (fun i=>i=z) rfl _ (Off.refl _ _)))
      clear hs ho HMF HYF HDF HOF
      refine hK.out _ _ hHeld (fun hHeld=> ?_)
      clear hK
      refine wpAnyH_done (by kernel_rfl) ?_ _
      go_wp2_with fail
      go_roundw
      case rel=>
       exact⟨k+1,m',un,uq,ud,st',by omega,by go_num,HDG.out,HMG.out,HYG.out,HOG.out,Ut.out.next HNX.out HFO.out,by rw[WB.out];exact O6 HST.out⟩
      case measure=>simp[intOf];omega
     ·have hkn:k=fs.length:=by omega
      rw[hkn,List.drop_length]at HAL
      obtain⟨a,b,hb,hax, -,hst⟩:=HDK.out.s
      have kb:wr.cell? ⟨p,2,none⟩=some (.bool b):=hb.cell 2
      have ka:wr.cell? ⟨p,1,none⟩=some (.int .i64 (a:Int)):=hb.cell 1
      have HAX:=hid hax
      have HST:=hid hst
      clear hb hax hst HLA HND
      cases b with
      |true=>
       have HE:=hid (show dec x=(head kd tg,33)from by rw[HDE.out,HAL.out,HST.out];rfl)
       clear HAL HST HDE
       go_wp2_with(first|(refine wlw HYK.out 0 (aF (head kd tg) (.slice none 0 0) (.slice none 0 0) (.slice none 0 0)) rfl rfl _ _ rfl rfl _ Tryz.underlying41 rfl aB ?_)|(refine dA HDK.out.res 0 (aF (head kd tg) (.slice none 0 0) (.slice none 0 0) (.slice none 0 0)) _ (kQ ..) (Nat.le_refl 36) (bT _ rfl rfl rfl) rfl _ _ _ rfl rfl rfl aB ?_;intro wz hs ho;have HZF:=hid hs;have HOF:=hid (ho (fun i=>i=r) rfl _ (Off.refl _ _));clear hs ho))
       obtain⟨r1,r2⟩:=HDK.out.fin (OL.nil_ ..) HOF.out
       refine bodyPost_ret (fK (m:=head kd tg) (er:=33) rfl rfl rfl HZF.out) rfl ?_
       rw[HE.out]
       exact⟨⟨_,_,_,rfl,r1⟩,r2⟩
      |false=>
       by_cases hae:a=x.length
       ·have HE:=hid (show dec x=(m,0)from by
         rw[HDE.out,HAL.out,HST.out,hae]
         show(match fin (some (m,x.drop x.length))with|some m=>(m,0)|none=>_)=_
         rw[List.drop_length]
         rfl)
        clear HAL HST HDE
        go_wp2_with(first|(refine wlw HMK.out 0 (aF m vn vq vd) rfl rfl _ _ rfl rfl _ Tryz.underlying41 rfl aB ?_)|(refine dA HDK.out.res 0 (aF m vn vq vd) _ (kQ ..) (Nat.le_refl 36) (bT _ h1 h2 h3) rfl _ _ _ rfl rfl rfl aB ?_;intro wz hs ho;have HZF:=hid hs;have HOF:=hid (ho (fun i=>i=r) rfl _ (Off.refl _ _));clear hs ho))
        obtain⟨r1,r2⟩:=HDK.out.fin HOK.out HOF.out
        refine bodyPost_ret (fK (m:=m) (er:=0) rfl rfl rfl HZF.out) rfl ?_
        rw[HE.out]
        exact⟨⟨_,_,_,rfl,r1⟩,r2⟩
       ·have HE:=hid (show dec x=(head kd tg,33)from by
         rw[HDE.out,HAL.out,HST.out]
         show(match fin (some (m,x.drop a))with|some m=>(m,0)|none=>_)=_
         obtain⟨b,t,hbt⟩:∃b t,x.drop a=b::t:=by
          cases hd:x.drop a with
          |nil=>have:=congrArg List.length hd;rw[List.length_drop]at this;simp at this;have:=HAX.out;omega
          |cons b t=>exact⟨b,t,rfl⟩
         rw[hbt]
         rfl)
        clear HAL HST HDE
        go_wp2_with(first|(refine wlw HYK.out 0 (aF (head kd tg) (.slice none 0 0) (.slice none 0 0) (.slice none 0 0)) rfl rfl _ _ rfl rfl _ Tryz.underlying41 rfl aB ?_)|(refine dA HDK.out.res 0 (aF (head kd tg) (.slice none 0 0) (.slice none 0 0) (.slice none 0 0)) _ (kQ ..) (Nat.le_refl 36) (bT _ rfl rfl rfl) rfl _ _ _ rfl rfl rfl aB ?_;intro wz hs ho;have HZF:=hid hs;have HOF:=hid (ho (fun i=>i=r) rfl _ (Off.refl _ _));clear hs ho))
        obtain⟨r1,r2⟩:=HDK.out.fin (OL.nil_ ..) HOF.out
        refine bodyPost_ret (fK (m:=head kd tg) (er:=33) rfl rfl rfl HZF.out) rfl ?_
        rw[HE.out]
        exact⟨⟨_,_,_,rfl,r1⟩,r2⟩
  ·have HE:=hid (show dec x=(head 0 0,31)from by unfold dec;rw[if_neg HL.out,if_pos hsame])
   have hne:(aH (x.take 4):Int)≠(x.length:Int):=by omega
   go_wp2_with(first|(refine wlw HN3.out 0 (aF (head 0 0) (.slice none 0 0) (.slice none 0 0) (.slice none 0 0)) rfl rfl _ _ rfl rfl _ Tryz.underlying41 rfl aB ?_)|(refine dA HD3.out.res 0 (aF (head 0 0) (.slice none 0 0) (.slice none 0 0) (.slice none 0 0)) _ (kQ ..) (Nat.le_refl 36) (bT _ rfl rfl rfl) rfl _ _ _ rfl rfl rfl aB ?_;intro wz hs ho;have HZF:=hid hs;have HOF:=hid (ho (fun i=>i=r) rfl _ (Off.refl _ _));clear hs ho))
   obtain⟨r1,r2⟩:=HD3.out.fin (OL.nil_ ..) HOF.out
   refine bodyPost_ret (fK (m:=head 0 0) (er:=31) rfl rfl rfl HZF.out) rfl ?_
   rw[HE.out]
   exact⟨⟨_,_,_,rfl,r1⟩,r2⟩
end Go.Proofs.YtkblmloobkiloaaGreatDoor
