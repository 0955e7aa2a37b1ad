/-
  MUN MAF: what the laws of package msg need of them.
-/
import Derived.Test.YtkblmloobkiloaaGreatDoorF00
import Derived.Test.YtkblmloobkiloaaGreatDoorF32
import Derived.Test.YtkblmloobkiloaaGreatDoorF34
import Derived.Test.YtkblmloobkiloaaGreatDoorF21
import Derived.Test.YtkblmloobkiloaaGreatDoorF23
import Derived.Test.YtkblmloobkiloaaGreatDoorF33
set_option maxRecDepth 100000
set_option maxHeartbeats 12800000
namespace Go.Proofs.YtkblmloobkiloaaGreatDoor
open Go.Lib (hid)
open Go.RowKit
theorem Yg{tmps:Array Value}{w:World}{q:Nat}{m:Mg}{vn vq vd:Value}{n er:Int}(h2:tmps.getD 2 undef= .pointer (some ⟨q,0,none⟩))(h3:tmps.getD 3 undef= .int .i64 n)(h4:tmps.getD 4 undef= .int .i64 er)(hk:aK w q m vn vq vd):
  (results Tryz.f19 tmps).run Tryz.prog w= .ok (.tuple #[iM m vn vq vd,.int .i64 n,.int .i64 er]) w:=by
 have h2':tmps[2]?.getD undef= .pointer (some ⟨q,0,none⟩):=by simpa using h2
 have h3':tmps[3]?.getD undef= .int .i64 n:=by simpa using h3
 have h4':tmps[4]?.getD undef= .int .i64 er:=by simpa using h4
 have hl7:(loadVar 41 ⟨q,0,none⟩).run Tryz.prog w= .ok (iM m vn vq vd) w:=
  run_loadVar_mid w q 0 41 (aF m vn vq vd) _ (Blk.range hk 0 _ (by simp)) Tryz.underlying41 rfl aB
 simp[results,Tryz.results19,h2',h3',h4',asAddr,hl7]
theorem aav{op:Oper}{a:Act}{w:World}{q:Nat}{m:Mg}{vn vq vd:Value}(x:Operand)(ho:op.op= .load 41 x)(hx:a.eval x= .pointer (some ⟨q,0,none⟩))(hk:aK w q m vn vq vd):(execOp a.eval op).run Tryz.prog w= .ok (.value (iM m vn vq vd)) w:=by
 unfold execOp
 simp only[ho,hx,Instr.loadAt,Instr.sureAddr,Sem.run_bind,Sem.run_pure,Result.andThen_ok,run_loadVar_mid w q 0 41 (aF m vn vq vd) _ (Blk.range hk 0 _ (by simp)) Tryz.underlying41 rfl aB]
theorem Ch.field{β:Type}{r:Except Nat β}{sk s2:Except Nat (List UInt8)}{f:Fld}{fs:List Fld}{m m2:Mg}{E:Mg×List UInt8→Except Nat β}(h:Ch r sk (fun l=>m_ (f::fs) m l >>= E))(U:ByteArray)(hU:U.data.toList=32::(f.word++[61]))
  (g:XZ (Ye U sk >>= fun l=>pF m l f) m2 s2):Ch r s2 (fun l=>m_ fs m2 l >>= E):=by
 unfold Ch at*
 rw[h]
 cases sk with
 |error n=>have g:s2= .error n:=g;rw[g];rfl
 |ok l=>
  show(m_ (f::fs) m l >>= E)=_
  have e:m_ (f::fs) m l=(dQ (32::(f.word++[61])) l >>= fun l=>pF m l f >>= fun q=>m_ fs q.1 q.2):=rfl
  rw[e]
  change XZ (dQ U.data.toList l >>= fun l=>pF m l f) m2 s2 at g
  rw[hU]at g
  cases hp:dQ (32::(f.word++[61])) l with
  |error n=>rw[hp]at g;have g:s2= .error n:=g;rw[g];rfl
  |ok l2=>
   rw[hp]at g
   change XZ (pF m l2 f) m2 s2 at g
   show((pF m l2 f >>= fun q=>m_ fs q.1 q.2) >>= E)=_
   cases hf:pF m l2 f with
   |error n=>rw[hf]at g;have g:s2= .error n:=g;rw[g];rfl
   |ok q=>rw[hf]at g;obtain⟨g1,g2⟩:=g;rw[g1,g2];rfl
def YV(q:Mg×List UInt8):Except Nat Mg:=if q.2=[]then .ok q.1 else .error q.2.length
theorem ZA{l:List UInt8}(h:kindOf (l.takeWhile isLet)=none):jX l= .error l.length:=by
 unfold jX
 dsimp only
 rw[h]
theorem ZB{l:List UInt8}{k:Nat}{fs:List Fld}(h:kindOf (l.takeWhile isLet)=some k)(hf:bQ k=some fs):Ch (jX l) (.ok (l.drop (l.takeWhile isLet).length)) (fun l=>dQ (⟨#[32]⟩:ByteArray).data.toList l >>= fun l=>fZ 65535 l >>= fun q=>m_ fs (head k q.1) q.2 >>= YV):=by
 unfold Ch jX
 dsimp only
 rw[h]
 dsimp only
 rw[hf]
 rfl
theorem Yv{l:List UInt8}{n:Nat}(h:jX l= .error n):parseM l=(head 0 0,l.length-n,34):=by unfold parseM;rw[h]
theorem YD{l:List UInt8}{m:Mg}(h:jX l= .ok m):parseM l=if(refused m).1=0 then(m,0,0)else(head 0 0,l.length,(refused m).1):=by unfold parseM;rw[h]
structure PS(w0 w:World)(r q p:Nat)(s:ByteArray)(st:Except Nat (List UInt8)):Prop where
 ln:RwS w p s st
 res:aK w r (head 0 0) (.slice none 0 0) (.slice none 0 0) (.slice none 0 0)
 non:aK w q (head 0 0) (.slice none 0 0) (.slice none 0 0) (.slice none 0 0)
 br:w0.heap.size≤r
 bp:w0.heap.size≤p
 bl:Below w0.heap.size w0 w
section
variable {w w' w0:World} {p r q:Nat} {s:ByteArray} {st st':Except Nat (List UInt8)}
theorem PS.step(h:PS w0 w r q p s st)(hs:RwS w' p s st')(ho:Off (fun i=>i=p) w w'):PS w0 w' r q p s st':=
 ⟨hs,ho.blk h.res (fun e=>h.ln.noT (by decide) r _ _ e h.res),ho.blk h.non (fun e=>h.ln.noT (by decide) q _ _ e h.non),h.br,h.bp,h.bl.trans (ho.below (fun i hi=>by have hi:i=p:=hi;have:=h.bp;omega) h.bl.size)⟩
theorem PS.new(h:PS w0 w r q p s st)(hb:Below w.heap.size w w'):PS w0 w' r q p s st:=h.step (h.ln.below hb) (Off.of_below hb)
theorem PS.keep(h:PS w0 w r q p s st)(hs:RwS w' p s st')(hk:Nh w0.heap.size w w'):PS w0 w' r q p s st':=
 ⟨hs,hk.2 _ _ h.res,hk.2 _ _ h.non,h.br,h.bp,h.bl.trans hk.1⟩
theorem PS.msg{g:Nat}{cs:Array Value}(h:PS w0 w r q p s st)(hg:Blk w g 41 cs)(hl:w0.heap.size≤g)(hr:r≠g)(hq:q≠g)(ho:Off (fun i=>i=g) w w'):PS w0 w' r q p s st:=
 ⟨h.ln.off ho (fun e=>h.ln.noT (by decide) g _ _ e.symm hg),ho.blk h.res hr,ho.blk h.non hq,h.br,h.bp,h.bl.trans (ho.below (fun i hi=>by have hi:i=g:=hi;omega) h.bl.size)⟩
theorem PS.fin{m:Mg}{vn vq vd:Value}(h:PS w0 w r q p s st)(hl:OL w w0.heap.size m vn vq vd)(ho:Off (fun i=>i=r) w w'):OL w' w0.heap.size m vn vq vd∧Below w0.heap.size w0 w':=
 ⟨hl.qp h.res ho,h.bl.trans (ho.below (fun i hi=>by have hi:i=r:=hi;have:=h.br;omega) h.bl.size)⟩
end
theorem Ze(s:ByteArray)(w:World)(hz:s.size≤16000000):Calls Tryz.prog 19 #[.string s] w (V_ (parseM s.data.toList) w):=by
 obtain⟨hup,h1,h2⟩:=uZ w (head 0 0) (.slice none 0 0) (.slice none 0 0) (.slice none 0 0)
 have HR:=hid (show aK ((w.alloc (.cells (mgN (head 0 0)).toArray 41)).alloc (.cells (mgN (head 0 0)).toArray 41)) w.heap.size (head 0 0) (.slice none 0 0) (.slice none 0 0) (.slice none 0 0)from h1)
 have HN:=hid (show aK ((w.alloc (.cells (mgN (head 0 0)).toArray 41)).alloc (.cells (mgN (head 0 0)).toArray 41)) (w.heap.size+1) (head 0 0) (.slice none 0 0) (.slice none 0 0) (.slice none 0 0)from h2)
 have HB:=hid (show Below w.heap.size w ((w.alloc (.cells (mgN (head 0 0)).toArray 41)).alloc (.cells (mgN (head 0 0)).toArray 41))from hup)
 obtain⟨L,hL⟩:∃L,L=s.data.toList:=⟨_,rfl⟩
 have HL:=hid hL
 have HLS:=hid (show L.length=s.size from by rw[hL,Array.length_toList];rfl)
 rw[←hL]
 clear h1 h2 hup hL
 go_enter Tryz.func19,Tryz.ntmps19
 go_upto_region 3 with(fail)
 change Code.wp _ _ _ _ ((w.alloc (.cells (mgN (head 0 0)).toArray 41)).alloc (.cells (mgN (head 0 0)).toArray 41))
 generalize hw1:(w.alloc (.cells (mgN (head 0 0)).toArray 41)).alloc (.cells (mgN (head 0 0)).toArray 41)=w1 at HR HN HB⊢
 have uF:=hid (show w1.heap.size=w.heap.size+2 from by rw[←hw1,World.size_alloc,World.size_alloc])
 clear hw1
 generalize hq:w.heap.size+1=q at HN⊢
 have HQ:=hid hq
 clear hq
 generalize hr:w.heap.size=r at HR⊢
 have HRR:=hid hr
 clear hr
 go_loop [6] (fun i=>∃j:Nat,i= .int .i64 (j:Int)∧j≤s.size∧Hid ((L.take j).all isLet=true)) (fun i=>s.size-(intOf i).toNat)
 case atStart=>exact⟨0,rfl,Nat.zero_le _,hid rfl⟩
 case round=>
  obtain⟨j,rfl,hj,HJ⟩:=hrel
  obtain⟨go,hgo⟩:∃go:Bool,go=(match L[j]? with|some c=>isLet c|none=>false):=⟨_,rfl⟩
  have HGO:=hid hgo
  clear hgo
  go_upto_region 3 with(fail)
  go_cut [44] (fun x wx=>x= .bool go∧wx=w1)
  case first=>
   as_aux_lemma=>
   by_cases hlt:j<s.size
   ·obtain⟨c,hc⟩:∃c,c=s[j]'hlt:=⟨_,rfl⟩
    have HE:=hid (show go=((decide (65≤c.toNat)&&decide (c.toNat≤90))||(decide (97≤c.toNat)&&decide (c.toNat≤122)))from by
     rw[HGO.out,HL.out,byte_at s j hlt,←hc]
     rfl)
    have hidx:s[j]'hlt=c:=hc.symm
    clear hc
    by_cases a1:(97:Int)≤(c.toNat:Int)<;>by_cases a2:(c.toNat:Int)≤122<;>by_cases a3:(65:Int)≤(c.toNat:Int)<;>by_cases a4:(c.toNat:Int)≤90<;>first
     |(exfalso;omega)
     |(have HG:=hid (show go=true from by rw[HE.out];simp only[Bool.or_eq_true,Bool.and_eq_true,decide_eq_true_eq];omega)
       go_wp2_with fail
       go_meet
       case rel=>exact⟨by rw[HG.out],rfl⟩)
     |(have HG:=hid (show go=false from by rw[HE.out];simp only[Bool.or_eq_false_iff,Bool.and_eq_false_iff,decide_eq_false_iff_not];omega)
       go_wp2_with fail
       go_meet
       case rel=>exact⟨by rw[HG.out],rfl⟩)
   ·have HG:=hid (show go=false from by rw[HGO.out,List.getElem?_eq_none (by rw[HLS.out];omega)])
    go_wp2_with fail
    go_meet
    case rel=>exact⟨by rw[HG.out],rfl⟩
  obtain⟨rfl,rfl⟩:=hcut
  cases go with
  |true=>
   obtain⟨c,hc,hcl⟩:∃c,L[j]? =some c∧isLet c=true:=by
    have h:=HGO.out
    cases hx:L[j]? with
    |none=>rw[hx]at h;cases h
    |some c=>rw[hx]at h;exact⟨c,rfl,h.symm⟩
   have hjl:j<s.size:=by rw[←HLS.out];exact(List.getElem?_eq_some_iff.1 hc).1
   have HNX:=hid (show(L.take (j+1)).all isLet=true from by rw[List.take_add_one,hc,Option.toList_some,List.all_append,HJ.out];simp[hcl])
   clear hc hcl
   go_wp2_with fail
   go_round
   case rel=>exact⟨j+1,by go_num,hjl,HNX⟩
   case measure=>first|(simp[intOf];done)|(simp[intOf];omega)
  |false=>
   have HTW:=hid (show L.takeWhile isLet=L.take j from LC isLet L j HJ.out (by rw[HLS.out];exact hj) (fun c hc=>by have h:=HGO.out;rw[hc]at h;exact h.symm))
   have HTL:=hid (show(L.takeWhile isLet).length=j from by rw[HTW.out,List.length_take,HLS.out];omega)
   have HXX:=hid (show(s.extract 0 j).data.toList=L.takeWhile isLet from by
    have h:=YM s 0 j
    rw[Nat.zero_add,List.drop_zero,←HL.out]at h
    rw[h,HTW.out])
   clear HGO
   go_wp2_with fail
   generalize s.extract 0 j=X at HXX⊢
   refine(YX X wc).mono ?_
   rintro e w2 ⟨hkd,hb⟩
   unfold GV at hkd
   rw[HXX.out]at hkd
   have HR2:=hid (show aK w2 r (head 0 0) (.slice none 0 0) (.slice none 0 0) (.slice none 0 0)from Blk.below HR.out hb (Blk.lt HR.out))
   have HN2:=hid (show aK w2 q (head 0 0) (.slice none 0 0) (.slice none 0 0) (.slice none 0 0)from Blk.below HN.out hb (Blk.lt HN.out))
   have HB2:=hid (HB.out.trans (hb.mono HB.out.size))
   have QZ:=hid (show w.heap.size+2≤w2.heap.size from by rw[←uF.out];exact hb.size)
   clear hb HR HN HB
   cases hk:kindOf (L.takeWhile isLet)with
   |none=>
    rw[hk]at hkd
    obtain rfl:=hkd
    have HE:=hid (show parseM L=(head 0 0,0,34)from by rw[Yv (ZA hk),Nat.sub_self])
    clear hk
    go_wp2_with(first|(refine wlw HN2.out 0 (aF (head 0 0) (.slice none 0 0) (.slice none 0 0) (.slice none 0 0)) rfl rfl _ _ rfl rfl _ Tryz.underlying41 rfl aB ?_)|(refine dA HR2.out 0 (aF (head 0 0) (.slice none 0 0) (.slice none 0 0) (.slice none 0 0)) _ (kQ ..) (Nat.le_refl 36) (bT _ rfl rfl rfl) rfl _ _ _ rfl rfl rfl aB ?_;intro wz hs ho;have HZF:=hid hs;have HOF:=hid (ho (fun i=>i=r) rfl _ (Off.refl _ _));clear hs ho))
    obtain⟨r1,r2⟩:=(show OL wz w.heap.size (head 0 0) (.slice none 0 0) (.slice none 0 0) (.slice none 0 0)∧Below w.heap.size w wz from⟨OL.nil_ ..,HB2.out.trans (HOF.out.below (fun i hi=>by have hi:i=r:=hi;have:=HRR.out;omega) HB2.out.size)⟩)
    refine bodyPost_ret (Yg (m:=(head 0 0)) (n:=0) (er:=34) rfl rfl rfl HZF.out) rfl ?_
    rw[HE.out]
    exact⟨⟨_,_,_,rfl,r1⟩,r2⟩
   |some k=>
    rw[hk]at hkd
    obtain rfl:=hkd
    obtain⟨-, -,fs,hfs⟩:=mM hk
    obtain⟨-,hnd,hk1,hk2⟩:=iP hfs
    have HC0:=hid (ZB hk hfs)
    rw[HTL.out]at HC0
    have HND:=hid hnd
    clear hk hnd HJ HTW HXX
    have hup:Below w2.heap.size w2 (w2.alloc (.cells #[.string s,.int .i64 (j:Int),.bool false] 106)):=(Below.refl _ _).alloc (Nat.le_refl _) _
    have HP:=hid (show PS w (w2.alloc (.cells #[.string s,.int .i64 (j:Int),.bool false] 106)) r q w2.heap.size s (.ok (L.drop j))from⟨⟨j,false,Blk.new w2 _ _,hj,by omega,by rw[HL.out];rfl⟩,Blk.below HR2.out hup (Blk.lt HR2.out),Blk.below HN2.out hup (Blk.lt HN2.out),by have:=HRR.out;omega,by have:=QZ.out;omega,HB2.out.trans (hup.mono HB2.out.size)⟩)
    have HRQ:=hid (show r+1=q∧w.heap.size=r∧q<w2.heap.size from⟨by rw[←HQ.out,HRR.out],HRR.out,by have:=QZ.out;have:=HQ.out;omega⟩)
    clear hup HR2 HN2 HB2 QZ
    go_upto_region 9 with(fail)
    generalize w2.alloc (.cells #[.string s,.int .i64 (j:Int),.bool false] 106)=w3 at HP⊢
    generalize w2.heap.size=p at HP HRQ⊢
    go_wp2_with fail
    refine(acT ⟨#[32]⟩ (by decide) HP.out.ln).mono ?_
    rintro e w4 ⟨rfl,hs,ho⟩
    have HP4:=hid (HP.out.step hs ho)
    have HC4:=hid (HC0.out.word ⟨#[32]⟩)
    clear hs ho HP HC0
    go_wp2_with fail
    refine(XU 65535 (by decide) (by decide) HP4.out.ln).mono ?_
    rintro e w5 ⟨tg,s5,rfl,htg,hs,hg,ho⟩
    have HP5:=hid (HP4.out.step hs ho)
    have aaw:=HC4.out.part hg
    dsimp only at aaw
    have HC5:=hid aaw
    clear hs ho hg HP4 HC4 aaw
    have hw2:IntKind.u16.wrap (tg:Int)=(tg:Int):=by rw[IntKind.wrap_u16];omega
    go_upto_region 12 with(change wpList _ _ _ _ _ (w5.alloc (.cells (mgN (head 0 0)).toArray 41));have HH6:=hid (show aK (w5.alloc (.cells (mgN (head 0 0)).toArray 41)) w5.heap.size (head 0 0) (.slice none 0 0) (.slice none 0 0) (.slice none 0 0)from Blk.new w5 _ _);have HP6:=hid (HP5.out.new ((Below.refl _ _).alloc (Nat.le_refl _) (.cells (mgN (head 0 0)).toArray 41)));have HZR:=hid (show r<w5.heap.size∧q<w5.heap.size∧w.heap.size≤w5.heap.size from⟨Blk.lt HP5.out.res,Blk.lt HP5.out.non,HP5.out.bl.size⟩);clear HP5;generalize w5.alloc (.cells (mgN (head 0 0)).toArray 41)=w6 at HH6 HP6⊢;generalize w5.heap.size=z at HH6 HZR⊢;refine dA HH6.out 0 (mgN (head k tg)) _ (kQ ..) (Nat.le_refl 36) (bT _ rfl rfl rfl) rfl _ _ _ rfl rfl rfl aB ?_;intro w7 hs ho;have HM7:=hid (show aK w7 z (head k tg) (.slice none 0 0) (.slice none 0 0) (.slice none 0 0)from hs);have HP7:=hid (HP6.out.msg HH6.out HZR.out.2.2 (by have:=HZR.out;omega) (by have:=HZR.out;omega) (ho (fun i=>i=z) rfl _ (Off.refl _ _)));clear hs ho HH6 HP6)
    go_wp2_with fail
    refine(Bv k (by omega) w7).mono ?_
    rintro e w' ⟨rfl,rfl⟩
    rw[hfs,show(some fs).isSome=true from rfl]
    have HLA:=hid (@Rt k · fs · hfs)
    have hls:=lay_size hfs
    have hfl:=YC hfs
    clear hfs hw2
    generalize iQ k=S at*
    go_upto_region 14 with(fail)
    go_loopw [14] (fun i wr=>∃(n:Nat) (m:Mg) (vn vq vd:Value) (sk:Except Nat (List UInt8)),n≤fs.length∧i= .int .i64 (n:Int)∧PS w wr r q p s sk∧aK wr z m vn vq vd∧OL wr w.heap.size m vn vq vd∧zT (fs.drop n) m∧Ch (jX L) sk (fun l=>m_ (fs.drop n) m l >>= YV)) (fun i _=>fs.length-(intOf i).toNat)
    case atStart=>exact⟨0,_,_,_,_,_,Nat.zero_le _,rfl,HP7.out,HM7.out,OL.nil_ ..,⟨fun _=>rfl,fun _=>rfl,fun _=>rfl⟩,HC5.out⟩
    case round=>
     obtain⟨n,m,vn,vq,vd,sk,hn,rfl,hd,hm,hol,hfr,hall⟩:=hrel
     have HDK:=hid hd
     have HMK:=hid hm
     have HOK:=hid hol
     have HFR:=hid hfr
     have HAL:=hid hall
     have h1:=bG hol.n
     have h2:=bG hol.q
     have h3:=bG hol.d
     clear hd hm hol hfr hall HM7 HP7 HC5
     by_cases hlt:n<fs.length
     ·obtain⟨f,hf⟩:∃f,fs[n]? =some f:=⟨fs[n],List.getElem?_eq_getElem hlt⟩
      have hdr:fs.drop n=f::fs.drop (n+1):=by rw[List.drop_eq_getElem_cons hlt,(List.getElem?_eq_some_iff.1 hf).2]
      obtain⟨hks,hc⟩:=HLA.out _ _ hf
      have HCC:=hid hc
      have Ut:=hid (show zT (f::fs.drop (n+1)) m from by rw[←hdr];exact HFR.out)
      have HNX:=hid (show(f::fs.drop (n+1)).Nodup from by rw[←hdr];exact HND.out.sublist (List.drop_sublist _ _))
      have WB:=hid (show Ch (jX L) sk (fun l=>m_ (f::fs.drop (n+1)) m l >>= YV)from by rw[←hdr];exact HAL.out)
      have hidx:S[n]'hks=f.rX:=hc.symm
      clear hf hdr hc HFR HAL
      go_wp2_with fail
      refine(Zx f wr).mono ?_
      rintro e wa ⟨rfl,hb⟩
      have HDA:=hid (HDK.out.new hb)
      have HMA:=hid (show aK wa z m vn vq vd from Blk.below HMK.out hb (Blk.lt HMK.out))
      have HOA:=hid (HOK.out.below hb)
      clear hb HDK HMK HOK
      have hws:(ofL f.word).size≤10:=by cases f<;>decide
      obtain⟨V,hV⟩:∃V,V=ofL f.word:=⟨_,rfl⟩
      obtain⟨U1,hU1⟩:∃U,U=(⟨#[32]⟩:ByteArray)++V:=⟨_,rfl⟩
      obtain⟨U,hU⟩:∃U,U=U1++(⟨#[61]⟩:ByteArray):=⟨_,rfl⟩
      rw[←hV]at hws⊢
      have hs1:U1.size≤11:=by rw[hU1,ByteArray.size_append,show(⟨#[32]⟩:ByteArray).size=1 from rfl];omega
      have hs2:U.size≤1000:=by rw[hU,ByteArray.size_append,show(⟨#[61]⟩:ByteArray).size=1 from rfl];omega
      have HUL:=hid (show U.data.toList=32::(f.word++[61])from by
       rw[hU,hU1,hV]
       simp[ofL,ByteArray.data_append])
      have ha1:∀w,(Op.stringOp .add (⟨#[32]⟩:ByteArray) V).run Tryz.prog w= .ok (.string U1) w:=fun w=>by
       rw[hU1]
       exact run_string_add_sum w _ _ (by rw[show(⟨#[32]⟩:ByteArray).size=1 from rfl];omega)
      have ha2:∀w,(Op.stringOp .add U1 (⟨#[61]⟩:ByteArray)).run Tryz.prog w= .ok (.string U) w:=fun w=>by
       rw[hU]
       exact run_string_add_sum w _ _ (by rw[show(⟨#[61]⟩:ByteArray).size=1 from rfl];omega)
      clear hU hU1 hV
      go_wp2_with fail
      refine(acT U hs2 HDA.out.ln).mono ?_
      rintro e wb ⟨rfl,hs,ho⟩
      have HOB:=hid (HOA.out.rw_ HDA.out.ln ho)
      have HMB:=hid (show aK wb z m vn vq vd from ho.blk HMA.out (fun e=>HDA.out.ln.noT (by decide) _ _ _ e HMA.out))
      have HDB:=hid (HDA.out.step hs ho)
      clear hs ho HDA HMA HOA ha1 ha2 hws hs1
      go_upto_region 17 with(fail)
      try simp only[Act.put]
      have HDD:=hid (HDB.out.new (aC wb))
      have HMD:=hid (show aK wb.drew z m vn vq vd from HMB.out)
      have HOD:=hid (HOB.out.below (aC wb))
      clear HDB HMB HOB hidx
      refine wp_region_held_drew (S:=fun _=>True) (by kernel_rfl) trivial (fun hHeld=> ?_)
      generalize wb.drew=wd at HDD HMD HOD⊢
      refine tk 88 0 (.pointer (some ⟨p,0,none⟩)) ?_
      refine tk 90 2 (.string S) ?_
      refine tk 91 3 (.int .i64 (n:Int)) ?_
      refine tk2 92 4 (.int .u8 (f.rX.toNat:Int)) rfl (fun wq hSw=>by have hc:=HCC.out;go_simp) ?_
      refine wpAnyH_ready (rs:=[1]) (by kernel_rfl) (by simp) ?_
      refine AllReadyH.cons rfl (fun K hK=> ?_) AllReadyH.nil
      rw[if_pos (by rfl)]
      refine wp_load_mid _ _ rfl _ _ rfl (aF m vn vq vd) _ (Blk.range HMD.out 0 _ rfl) Tryz.underlying41 rfl aB ?_
      refine hK.out _ _ hHeld (fun hHeld=> ?_)
      clear hK
      try simp only[ah]
      refine wpAnyH_ready (rs:=[5]) (by kernel_rfl) (by simp) ?_
      refine AllReadyH.cons rfl (fun K hK=> ?_) AllReadyH.nil
      rw[if_pos (by rfl)]
      go_simp
      refine(Zb HDD.out.bp HDD.out.ln HOD.out f (fun e=>Ut.out.1 (by rw[e];exact List.mem_cons_self ..)) (fun e=>Ut.out.2.1 (by rw[e];exact List.mem_cons_self ..))).mono ?_
      rintro e wf ⟨m',un,uq,ud,s',rfl,hol,hfo,hkm,hs,hg⟩
      dsimp only
      have HCN:=hid (WB.out.field U HUL.out hg)
      have HDF:=hid (HDD.out.keep hs hkm)
      have HMF:=hid (hkm.2 _ _ HMD.out)
      have HOF:=hid hol
      have HFO:=hid hfo
      have g1:=bG hol.n
      have g2:=bG hol.q
      have g3:=bG hol.d
      clear hs hg hkm hol hfo HDD HMD HOD WB
      refine hK.out _ _ hHeld (fun hHeld=> ?_)
      clear hK
      try simp only[ah]
      refine wpAnyH_ready (rs:=[6]) (by kernel_rfl) (by simp) ?_
      refine AllReadyH.cons rfl (fun K hK=> ?_) AllReadyH.nil
      rw[if_pos (by rfl)]
      refine WA HMF.out 0 (aF m' un uq ud) _ (kQ ..) (Nat.le_refl 36) (bT _ g1 g2 g3) _ _ _ rfl rfl rfl aB ?_
      intro wg hs ho
      have HMG:=hid (show aK wg z m' un uq ud from hs)
      have HDG:=hid (HDF.out.msg HMF.out HZR.out.2.2 (by have:=HZR.out;omega) (by have:=HZR.out;omega) (ho (fun i=>i=z) rfl _ (Off.refl _ _)))
      have HOG:=hid (HOF.out.qp HMF.out (ho (fun i=>i=z) rfl _ (Off.refl _ _)))
      clear hs ho HMF HDF HOF
      refine hK.out _ _ hHeld (fun hHeld=> ?_)
      clear hK
      refine wpAnyH_done (by kernel_rfl) ?_ _
      go_wp2_with fail
      go_roundw
      case rel=>
       exact⟨n+1,m',un,uq,ud,s',by omega,by go_num,HDG.out,HMG.out,HOG.out,Ut.out.next HNX.out HFO.out,HCN.out⟩
      case measure=>simp[intOf];omega
     ·have hkn:n=fs.length:=by omega
      rw[hkn,List.drop_length]at HAL
      clear hkn
      obtain⟨a,b,hbk,hax, -,hst⟩:=HDK.out.ln
      have kb:wr.cell? ⟨p,2,none⟩=some (.bool b):=hbk.cell 2
      have ka:wr.cell? ⟨p,1,none⟩=some (.int .i64 (a:Int)):=hbk.cell 1
      have HAX:=hid hax
      have HBP:=hid hbk
      have HPB:=hid (show(b=true∨a≠s.size)→parseM L=(head 0 0,a,34)from fun h=>by
       have e:jX L= .error (s.size-a):=by
        have h2:=HAL.out
        unfold Ch at h2
        rw[h2,hst]
        cases b with
        |true=>rfl
        |false=>
         show YV (m,s.data.toList.drop a)=_
         unfold YV
         have hlen:(s.data.toList.drop a).length=s.size-a:=by rw[List.length_drop,Array.length_toList];rfl
         rw[if_neg (fun e=>by have e:s.data.toList.drop a=[]:=e;rw[e]at hlen;rcases h with h|h;cases h;simp at hlen;omega)]
         show Except.error (s.data.toList.drop a).length=_
         rw[hlen]
       rw[Yv e,HLS.out,show s.size-(s.size-a)=a from by omega])
      have HPG:=hid (show b=false→a=s.size→jX L= .ok m from fun hb ha=>by
       have h2:=HAL.out
       unfold Ch at h2
       rw[h2,hst,hb]
       show YV (m,s.data.toList.drop a)=_
       unfold YV
       rw[if_pos (List.drop_eq_nil_of_le (by rw[Array.length_toList];exact Nat.le_of_eq ha.symm))])
      clear hbk hax hst HLA HND HAL
      obtain⟨bad,hbad⟩:∃bad,bad=(b||decide (a≠s.size)):=⟨_,rfl⟩
      have HBAD:=hid hbad
      clear hbad
      go_upto_region 18 with(fail)
      go_cut [106] (fun x wx=>x= .bool bad∧wx=wr)
      case first=>
       as_aux_lemma=>
       cases b with
       |true=>
        have HG:=hid (show bad=true from by rw[HBAD.out];rfl)
        go_wp2_with fail
        go_meet
        case rel=>exact⟨by rw[HG.out],rfl⟩
       |false=>
        cases hne:((a:Int) != (s.size:Int))with
        |true=>
         have HG:=hid (show bad=true from by rw[HBAD.out,decide_eq_true (by rw[bne_iff_ne]at hne;omega)];rfl)
         go_wp2_with fail
         go_meet
         case rel=>exact⟨by rw[HG.out],rfl⟩
        |false=>
         have HG:=hid (show bad=false from by rw[HBAD.out,decide_eq_false (by rw[bne_eq_false_iff_eq]at hne;omega)];rfl)
         go_wp2_with fail
         go_meet
         case rel=>exact⟨by rw[HG.out],rfl⟩
      obtain⟨rfl,rfl⟩:=hcut
      cases bad with
      |true=>
       have HE:=hid (HPB.out (by
        have h:=HBAD.out.symm
        rw[Bool.or_eq_true,decide_eq_true_eq]at h
        exact h))
       clear HPB HPG HBAD kb
       go_upto_region 19 with(fail)
       have HDD:=hid (HDK.out.new (aC wc))
       have ja:wc.drew.cell? ⟨p,1,none⟩=some (.int .i64 (a:Int)):=ka
       have HPQ:=hid (show r≠p∧r≠q from⟨fun e=>HDK.out.ln.noT (by decide) _ _ _ e HDK.out.res,by have:=HRQ.out.1;omega⟩)
       refine wp_region_held_drew (S:=fun wx=>wx.cell? ⟨p,1,none⟩=some (.int .i64 (a:Int))∧aK wx q (head 0 0) (.slice none 0 0) (.slice none 0 0) (.slice none 0 0)) (by kernel_rfl) ⟨ja,HDD.out.non⟩ (fun hHeld=> ?_)
       generalize wc.drew=wd at HDD ja hHeld⊢
       have hSd:wd.cell? ⟨p,1,none⟩=some (.int .i64 (a:Int))∧aK wd q (head 0 0) (.slice none 0 0) (.slice none 0 0) (.slice none 0 0):=⟨ja,HDD.out.non⟩
       refine tk2 107 0 (iM (head 0 0) (.slice none 0 0) (.slice none 0 0) (.slice none 0 0)) rfl (fun wq hSw=>by exact aav _ rfl rfl hSw.2) ?_
       refine tk 108 1 (.pointer (some ⟨p,0,none⟩)) ?_
       refine tk 109 2 (.pointer (some ⟨p,0,none⟩)) ?_
       refine tk 110 3 (.pointer (some ⟨p,1,none⟩)) ?_
       refine tk2 111 4 (.int .i64 (a:Int)) rfl (fun wq hSw=>by have k:=hSw.1;go_simp) ?_
       refine wpAnyH_ready (rs:=[5]) (by kernel_rfl) (by simp) ?_
       refine AllReadyH.cons rfl (fun K hK=> ?_) AllReadyH.nil
       rw[if_pos (by rfl)]
       refine WA HDD.out.res 0 (aF (head 0 0) (.slice none 0 0) (.slice none 0 0) (.slice none 0 0)) _ (kQ ..) (Nat.le_refl 36) (bT _ rfl rfl rfl) _ _ _ rfl rfl rfl aB ?_
       intro wz hs ho
       have HZF:=hid hs
       have HOF:=hid (ho (fun i=>i=r) rfl _ (Off.refl _ _))
       have hSz:wz.cell? ⟨p,1,none⟩=some (.int .i64 (a:Int))∧aK wz q (head 0 0) (.slice none 0 0) (.slice none 0 0) (.slice none 0 0):=⟨by
        obtain⟨a',b',hb', -⟩:=HDD.out.ln
        have e:=hb'.cell 1
        rw[show(⟨p,0+1,none⟩:Addr)=⟨p,1,none⟩from rfl]at e
        have e2:=((HOF.out.blk hb' (fun e=>HPQ.out.1 (by have e:p=r:=e;exact e.symm))).cell 1)
        exact(e2.trans e.symm).trans ja,HOF.out.blk HDD.out.non (fun e=>HPQ.out.2 (by have e:q=r:=e;exact e.symm))⟩
       clear hs ho
       refine hK.out _ _ hSz (fun hHeld=> ?_)
       clear hK
       try simp only[ah]
       refine tk 3 6 (.int .i64 (a:Int)) ?_
       refine tk 4 7 (.int .i64 34) ?_
       refine wpAnyH_done (by kernel_rfl) ?_ _
       go_wp2_with fail
       obtain⟨r1,r2⟩:=HDD.out.fin (OL.nil_ ..) HOF.out
       refine bodyPost_ret (Yg (m:=head 0 0) (n:=(a:Int)) (er:=34) rfl rfl rfl HZF.out) rfl ?_
       rw[HE.out]
       exact⟨⟨_,_,_,rfl,r1⟩,r2⟩
      |false=>
       have hb0:b=false∧a=s.size:=by
        have h:=HBAD.out.symm
        rw[Bool.or_eq_false_iff,decide_eq_false_iff_not]at h
        exact⟨h.1,Decidable.not_not.1 h.2⟩
       have HPL:=hid (HPG.out hb0.1 hb0.2)
       have aaE:=hid (L8 HPL.out)
       have HPM:=hid (YD HPL.out)
       clear HPB HPG HBAD kb ka hb0
       go_wp2_with(refine wlw HMK.out 0 (aF m vn vq vd) rfl rfl _ _ rfl rfl _ Tryz.underlying41 rfl aB ?_)
       refine(Y1 m vn vq vd wc aaE.out.1.kind HOK.out.lists (fun f=>by have h:=aaE.out.2 f;rw[HLS.out]at h;omega)).mono ?_
       rintro e wf ⟨rfl,hb⟩
       have HDF:=hid (HDK.out.new hb)
       have HMF:=hid (show aK wf z m vn vq vd from Blk.below HMK.out hb (Blk.lt HMK.out))
       have aaQ:=hid (HOK.out.below hb)
       clear hb HDK HMK HOK
       unfold Z9
       generalize(refused m).1=er at HPM⊢
       generalize(refused m).2=en at*
       by_cases her:er=0
       ·have hb0:((er:Int) != 0)=false:=by rw[bne_eq_false_iff_eq];omega
        have HE:=hid (show parseM L=(m,0,0)from by rw[HPM.out,if_pos her])
        clear her
        go_wp2_with(first|(refine wlw HMF.out 0 (aF m vn vq vd) rfl rfl _ _ rfl rfl _ Tryz.underlying41 rfl aB ?_)|(refine dA HDF.out.res 0 (aF m vn vq vd) _ (kQ ..) (Nat.le_refl 36) (bT _ h1 h2 h3) rfl _ _ _ rfl rfl rfl aB ?_;intro wz hs ho;have HZF:=hid hs;have HOF:=hid (ho (fun i=>i=r) rfl _ (Off.refl _ _));clear hs ho))
        obtain⟨r1,r2⟩:=HDF.out.fin aaQ.out HOF.out
        refine bodyPost_ret (Yg (m:=m) (n:=0) (er:=0) rfl rfl rfl HZF.out) rfl ?_
        rw[HE.out]
        exact⟨⟨_,_,_,rfl,r1⟩,r2⟩
       ·have hb0:((er:Int) != 0)=true:=by rw[bne_iff_ne];omega
        have HE:=hid (show parseM L=(head 0 0,s.size,er)from by rw[HPM.out,if_neg her,HLS.out])
        clear her
        go_wp2_with(first|(refine wlw HDF.out.non 0 (aF (head 0 0) (.slice none 0 0) (.slice none 0 0) (.slice none 0 0)) rfl rfl _ _ rfl rfl _ Tryz.underlying41 rfl aB ?_)|(refine dA HDF.out.res 0 (aF (head 0 0) (.slice none 0 0) (.slice none 0 0) (.slice none 0 0)) _ (kQ ..) (Nat.le_refl 36) (bT _ rfl rfl rfl) rfl _ _ _ rfl rfl rfl aB ?_;intro wz hs ho;have HZF:=hid hs;have HOF:=hid (ho (fun i=>i=r) rfl _ (Off.refl _ _));clear hs ho))
        obtain⟨r1,r2⟩:=HDF.out.fin (OL.nil_ ..) HOF.out
        refine bodyPost_ret (Yg (m:=(head 0 0)) (n:=(s.size:Int)) (er:=(er:Int)) rfl rfl rfl HZF.out) rfl ?_
        rw[HE.out]
        exact⟨⟨_,_,_,rfl,r1⟩,r2⟩
theorem BK.more{w:World}{B B':Nat}{v:Value}{l:List MgV}(h:BK w B v l)(hB:B≤B'):BK w B' v l:=by
 obtain⟨A,c,e,h1,h2,h3⟩:=h
 refine⟨A,c,e,h1,h2,fun k x hx=> ?_⟩
 obtain⟨⟨ad,ha,hlt,hc⟩,hl⟩:=h3 k x hx
 exact⟨⟨ad,ha,Nat.lt_of_lt_of_le hlt hB,hc⟩,hl.more hB⟩
theorem Frs.more{w:World}{B B':Nat}{v:Value}{l:List (Value×List UInt8)}(h:Frs w B v l)(hB:B≤B'):Frs w B' v l:=by
 obtain⟨A,c,e,h1,h2,h3⟩:=h
 refine⟨A,c,e,h1,h2,fun k x hx=> ?_⟩
 obtain⟨⟨ad,ha,hlt,hc⟩,hl⟩:=h3 k x hx
 exact⟨⟨ad,ha,Nat.lt_of_lt_of_le hlt hB,hc⟩,hl.more hB⟩
theorem aa6(w:World)(hw:kN w)(va vb vc:Value)(ms:List MgV)(ls:List ByteArray)(fs:List (Value×List UInt8))(hm:BK w w.heap.size va ms)(hl:iW w w.heap.size vb ls)(hf:Frs w w.heap.size vc fs)
  (hcm:∀x∈ms,Came w x.1 x.2.1 x.2.2.1 x.2.2.2) (hml:ms.length≤140737488355327) (hll:ls.length≤140737488355327) (hls:∀s∈ls,s.size≤140737488355327) (hfl:fs.length≤140737488355327) (hfz:∀x∈fs,x.2.length≤140737488355327):
  Calls Tryz.prog 6 #[va,vb,vc] w fun e w'=>e= .returned (.bool true)∧Below w.heap.size w w':=by
 have HS0:=hid (LS.start hw)
 have HM:=hid hm
 have HL:=hid hl
 have HF:=hid hf
 have HOA:=hid (fun w1 (h:Below w.heap.size w w1)=>aa4 w1 w va vb vc ms ls fs ((hm.below h).more h.size) ((hl.below h).more h.size) ((hf.below h).more h.size) hcm hml hll hls hfl hfz)
 obtain⟨mA,mc,rfl, -, -, -⟩:=hm
 obtain⟨lA,lc,rfl, -, -, -⟩:=hl
 obtain⟨fA,fc,rfl, -, -, -⟩:=hf
 have HCM:=hid hcm
 clear hcm hls hfz hw
 go_enter Tryz.func6,Tryz.ntmps6
 go_wp2_with fail
 refine(DX w HS0.out.wd.se HS0.out.wd.rd HS0.out.wd.tp).mono ?_
 rintro e w1 ⟨rfl,hb⟩
 have HS1:=hid (HS0.out.next hb)
 clear hb
 go_wp2_with fail
 refine(HOA.out w1 HS1.out.up).mono ?_
 rintro e w2 ⟨⟨n,rfl,hn⟩,hb⟩
 have HS2:=hid (HS1.out.next hb)
 have HN:=hid hn
 clear hb hn HOA HS1 HS0
 by_cases hbig:8388608<n
 ·go_wp2_with fail
  refine bodyPost_ret (v:= .bool true) (by simp[results,Tryz.results6]) rfl ⟨rfl, ?_⟩
  exact HS2.out.up
 ·have HG:=hid (HN.out (Nat.not_lt.1 hbig))
  clear HN
  go_upto_region 5 with(fail)
  go_loopw [8] (fun i wr=>∃k:Nat,i= .int .i64 (k:Int)∧k≤ms.length∧LS w wr) (fun i _=>ms.length-(intOf i).toNat)
  case atStart=>exact⟨0,rfl,Nat.zero_le _,HS2.out⟩
  case round=>
   obtain⟨k,rfl,hk,hs⟩:=hrel
   have HS:=hid hs
   clear hs HS2
   obtain⟨b,hbb⟩:∃b,b=(decide (k<ms.length)&&decide (k<40)):=⟨_,rfl⟩
   have HBB:=hid hbb
   clear hbb
   go_upto_region 5 with(fail)
   go_cut [41] (fun x wx=>x= .bool b∧wx=wr)
   case first=>
    as_aux_lemma=>
    by_cases hlt:k<ms.length
    ·by_cases hle:k<40
     ·have HG2:=hid (show b=true from by rw[HBB.out,decide_eq_true hlt,decide_eq_true hle];rfl)
      go_wp2_with fail
      go_meet
      case rel=>exact⟨by rw[HG2.out];exact congrArg Value.bool (decide_eq_true (by omega)),rfl⟩
     ·have HG2:=hid (show b=false from by rw[HBB.out,decide_eq_true hlt,decide_eq_false hle];rfl)
      go_wp2_with fail
      go_meet
      case rel=>exact⟨by rw[HG2.out];exact congrArg Value.bool (decide_eq_false (by omega)),rfl⟩
    ·have HG2:=hid (show b=false from by rw[HBB.out,decide_eq_false hlt];rfl)
     go_wp2_with fail
     go_meet
     case rel=>exact⟨by rw[HG2.out],rfl⟩
   obtain⟨hc1,hc2⟩:=hcut
   subst hc1
   have hc3:=hc2.symm
   subst hc3
   clear hc2
   cases b with
   |true=>
    have hlt:k<ms.length:=by
     have h:=HBB.out.symm
     rw[Bool.and_eq_true,decide_eq_true_iff]at h
     exact h.1
    have HKT:=hid hlt
    obtain⟨x,hx⟩:∃x,ms[k]? =some x:=⟨ms[k],List.getElem?_eq_getElem _⟩
    have HX:=hid hx
    obtain⟨ad,hA,hc,hli⟩:=(HM.out.below HS.out.up).at_ hx
    subst hA
    have HCC:=hid hc
    have HCA:=hid (HCM.out x (List.mem_of_getElem? hx))
    have HSX:=hid (abf (HG.out.1 x (List.mem_of_getElem? hx)))
    have HLI:=hid (hli.more HS.out.up.size)
    clear hx hc hli
    go_wp2_with(refine wlA (ad.add (k*36)) (aF x.1 x.2.1 x.2.2.1 x.2.2.2) HCC.out rfl _ _ rfl rfl _ Tryz.underlying41 rfl aB ?_)
    refine(oh x.1 x.2.1 x.2.2.1 x.2.2.2 wr HCA.out.ok HLI.out HS.out.wd.rd HSX.out).mono ?_
    rintro e w3 ⟨⟨v3,rfl,ho3⟩,hb⟩
    have HO3:=hid ho3
    have HS3:=hid (HS.out.next hb)
    have HQ0:=hid (Below.refl w3.heap.size w3)
    obtain⟨A3,c3,rfl, -⟩:=aJ ho3
    clear ho3 hb HS HLI HCC HBB
    go_upto_region 9 with(fail)
    go_loopw [11] (fun i wr=>∃j:Nat,i= .int .i64 (j:Int)∧j≤fs.length∧Below w3.heap.size w3 wr) (fun i _=>fs.length-(intOf i).toNat)
    case atStart=>exact⟨0,rfl,Nat.zero_le _,HQ0.out⟩
    case round=>
     obtain⟨j,rfl,hj,hb⟩:=hrel
     have HQ:=hid hb
     have HSQ:=hid (HS3.out.next hb)
     clear hb HQ0
     obtain⟨b,hbb⟩:∃b,b=(decide (j<fs.length)&&decide (j<6)):=⟨_,rfl⟩
     have HBB:=hid hbb
     clear hbb
     go_upto_region 9 with(fail)
     go_cut [59] (fun x wx=>x= .bool b∧wx=wr)
     case first=>
      as_aux_lemma=>
      by_cases hlt:j<fs.length
      ·by_cases hle:j<6
       ·have HG2:=hid (show b=true from by rw[HBB.out,decide_eq_true hlt,decide_eq_true hle];rfl)
        go_wp2_with fail
        go_meet
        case rel=>exact⟨by rw[HG2.out];exact congrArg Value.bool (decide_eq_true (by omega)),rfl⟩
       ·have HG2:=hid (show b=false from by rw[HBB.out,decide_eq_true hlt,decide_eq_false hle];rfl)
        go_wp2_with fail
        go_meet
        case rel=>exact⟨by rw[HG2.out];exact congrArg Value.bool (decide_eq_false (by omega)),rfl⟩
      ·have HG2:=hid (show b=false from by rw[HBB.out,decide_eq_false hlt];rfl)
       go_wp2_with fail
       go_meet
       case rel=>exact⟨by rw[HG2.out],rfl⟩
     obtain⟨hc1,hc2⟩:=hcut
     subst hc1
     have hc3:=hc2.symm
     subst hc3
     clear hc2
     cases b with
     |true=>
      have hlt:j<fs.length:=by
       have h:=HBB.out.symm
       rw[Bool.and_eq_true,decide_eq_true_iff]at h
       exact h.1
      have HJT:=hid hlt
      obtain⟨y,hy⟩:∃y,fs[j]? =some y:=⟨fs[j],List.getElem?_eq_getElem _⟩
      have HY:=hid hy
      clear hy
      obtain⟨ad2,hA1,kx,hby⟩:=(HF.out.below HSQ.out.up).at_ HY.out
      subst hA1
      have HYZ:=hid (HG.out.2.2 y (List.mem_of_getElem? HY.out))
      obtain⟨D,hD⟩:∃D,D=dec y.2:=⟨_,rfl⟩
      have HD:=hid hD
      clear hD
      have HBY:=hid (hby.more HSQ.out.up.size)
      obtain⟨yA1,yc1,hyv, -, -, -⟩:=hby
      clear hyv
      go_wp2_with fail
      refine(rV y.1 y.2 wr HBY.out HSQ.out.wd.rd (by have:=HYZ.out;omega)).mono ?_
      rintro e w4 ⟨⟨vn,vq,vd,rfl,hol⟩,hb⟩
      rw[←HD.out]at hol⊢
      have Y_:=hid hol
      have HB4:=hid hb
      clear hol hb
      go_upto_region 12 with(change wpList _ _ _ _ _ (w4.alloc (.cells (mgN (head 0 0)).toArray 41));have hup:Below w4.heap.size w4 (w4.alloc (.cells (mgN (head 0 0)).toArray 41)):=(Below.refl _ _).alloc (Nat.le_refl _) _;have HMZ:=hid (show aK (w4.alloc (.cells (mgN (head 0 0)).toArray 41)) w4.heap.size (head 0 0) (.slice none 0 0) (.slice none 0 0) (.slice none 0 0)from Blk.new w4 _ _);generalize(w4.alloc (.cells (mgN (head 0 0)).toArray 41))=w4z at hup HMZ⊢;refine dA HMZ.out 0 (aF D.1 vn vq vd) _ (bW ..) (Nat.le_refl 36) (bT _ (bG Y_.out.n) (bG Y_.out.q) (bG Y_.out.d)) rfl _ _ _ rfl rfl rfl aB ?_;intro w5 hs ho;have HM5:=hid (show aK w5 w4.heap.size D.1 vn vq vd from hs);have HB5:=hid (hup.trans ((ho (fun i=>i=w4.heap.size) rfl w4z (Off.refl _ _)).below (fun k hk=>(by have hk:k=w4.heap.size:=hk;omega)) hup.size));clear hs ho hup HMZ)
      have UA:=hid (Y_.out.below HB5.out)
      have Ry:=hid (HB4.out.trans (HB5.out.mono HB4.out.size))
      have HS5:=hid (HSQ.out.next Ry.out)
      generalize w4.heap.size=q5 at HM5⊢
      clear Y_ HB4 HB5
      obtain⟨ad3,hA2,kx,hby⟩:=(HF.out.below HS5.out.up).at_ HY.out
      injection hA2 with hA2
      subst hA2
      have abS:=hid (hby.more HS5.out.up.size)
      obtain⟨yA2,yc2,hyv, -, -, -⟩:=hby
      clear hyv
      go_wp2_with fail
      refine(Gh y.1 y.2 w5 abS.out (by have:=HYZ.out;omega)).mono ?_
      rintro e w6 ⟨⟨un,uq,ud,rfl,hol⟩,hb⟩
      rw[←HD.out]at hol⊢
      have qZ:=hid hol
      have HB6:=hid (Ry.out.trans (hb.mono Ry.out.size))
      have HM6:=hid (show aK w6 q5 D.1 vn vq vd from Blk.below HM5.out hb (Blk.lt HM5.out))
      have HO6:=hid (UA.out.below hb)
      clear hol hb HM5 UA Ry HS5
      go_upto_region 13 with(change wpList _ _ _ _ _ (w6.alloc (.cells (mgN (head 0 0)).toArray 41));have hup:Below w6.heap.size w6 (w6.alloc (.cells (mgN (head 0 0)).toArray 41)):=(Below.refl _ _).alloc (Nat.le_refl _) _;have HMZ:=hid (show aK (w6.alloc (.cells (mgN (head 0 0)).toArray 41)) w6.heap.size (head 0 0) (.slice none 0 0) (.slice none 0 0) (.slice none 0 0)from Blk.new w6 _ _);generalize(w6.alloc (.cells (mgN (head 0 0)).toArray 41))=w6z at hup HMZ⊢;refine dA HMZ.out 0 (aF D.1 un uq ud) _ (bW ..) (Nat.le_refl 36) (bT _ (bG qZ.out.n) (bG qZ.out.q) (bG qZ.out.d)) rfl _ _ _ rfl rfl rfl aB ?_;intro w7 hs ho;have HM7:=hid (show aK w7 w6.heap.size D.1 un uq ud from hs);have HB7:=hid (hup.trans ((ho (fun i=>i=w6.heap.size) rfl w6z (Off.refl _ _)).below (fun k hk=>(by have hk:k=w6.heap.size:=hk;omega)) hup.size));clear hs ho hup HMZ)
      have FQ:=hid (qZ.out.below HB7.out)
      have HB8:=hid (HB6.out.trans (HB7.out.mono HB6.out.size))
      have HN7:=hid (show aK w7 q5 D.1 vn vq vd from Blk.below HM6.out HB7.out (Blk.lt HM6.out))
      have HO7:=hid (HO6.out.below HB7.out)
      generalize w6.heap.size=q7 at HM7⊢
      clear qZ HB6 HB7 HM6 HO6
      have HSM:=hid (FW D.1 D.1 _ _ _ _ _ _ w7 HO7.out.lists FQ.out.lists)
      go_wp2_with(first|(refine wlw HN7.out 0 (aF D.1 vn vq vd) rfl rfl _ _ rfl rfl _ Tryz.underlying41 rfl aB ?_)|(refine wlw HM7.out 0 (aF D.1 un uq ud) rfl rfl _ _ rfl rfl _ Tryz.underlying41 rfl aB ?_))
      refine HSM.out.mono ?_
      rintro e w8 ⟨⟨r,rfl,hr⟩,hb⟩
      obtain rfl:r=true:=hr.2 rfl
      have HB9:=hid (HQ.out.trans ((HB8.out.trans (hb.mono HB8.out.size)).mono HQ.out.size))
      clear hr hb HN7 HM7 HO7 FQ HB8 HSM
      have hn0:((D.2:Int) != (D.2:Int))=false:=by rw[bne_eq_false_iff_eq]
      go_wp2_with fail
      go_roundw
      case rel=>exact⟨j+1,by go_num,HJT.out,HB9.out⟩
      case measure=>first|(simp[intOf];done)|(have:=HJT.out;simp[intOf];omega)
     |false=>
      clear HBB HSQ
      have HQ0:=hid HQ.out
      clear HQ
      go_upto_region 17 with(fail)
      go_loopw [17] (fun i wr=>∃j:Nat,i= .int .i64 (j:Int)∧j≤ls.length∧Below w3.heap.size w3 wr) (fun i _=>ls.length-(intOf i).toNat)
      case atStart=>exact⟨0,rfl,Nat.zero_le _,HQ0.out⟩
      case round=>
       obtain⟨j,rfl,hj,hb⟩:=hrel
       have HQ:=hid hb
       have HSQ:=hid (HS3.out.next hb)
       clear hb HQ0
       obtain⟨b,hbb⟩:∃b,b=(decide (j<ls.length)&&decide (j<6)):=⟨_,rfl⟩
       have HBB:=hid hbb
       clear hbb
       go_upto_region 17 with(fail)
       go_cut [95] (fun x wx=>x= .bool b∧wx=wr)
       case first=>
        as_aux_lemma=>
        by_cases hlt:j<ls.length
        ·by_cases hle:j<6
         ·have HG2:=hid (show b=true from by rw[HBB.out,decide_eq_true hlt,decide_eq_true hle];rfl)
          go_wp2_with fail
          go_meet
          case rel=>exact⟨by rw[HG2.out];exact congrArg Value.bool (decide_eq_true (by omega)),rfl⟩
         ·have HG2:=hid (show b=false from by rw[HBB.out,decide_eq_true hlt,decide_eq_false hle];rfl)
          go_wp2_with fail
          go_meet
          case rel=>exact⟨by rw[HG2.out];exact congrArg Value.bool (decide_eq_false (by omega)),rfl⟩
        ·have HG2:=hid (show b=false from by rw[HBB.out,decide_eq_false hlt];rfl)
         go_wp2_with fail
         go_meet
         case rel=>exact⟨by rw[HG2.out],rfl⟩
       obtain⟨hc1,hc2⟩:=hcut
       subst hc1
       have hc3:=hc2.symm
       subst hc3
       clear hc2
       cases b with
       |true=>
        have hlt:j<ls.length:=by
         have h:=HBB.out.symm
         rw[Bool.and_eq_true,decide_eq_true_iff]at h
         exact h.1
        have HJT:=hid hlt
        obtain⟨y,hy⟩:∃y,ls[j]? =some y:=⟨ls[j],List.getElem?_eq_getElem _⟩
        have HY:=hid hy
        clear hy
        obtain⟨ad2,hA1, -,kx⟩:=(HL.out.below HSQ.out.up).at_ HY.out
        subst hA1
        have HYZ:=hid (HG.out.2.1 y (List.mem_of_getElem? HY.out))
        obtain⟨D,hD⟩:∃D,D=parseM y.data.toList:=⟨_,rfl⟩
        have HD:=hid hD
        clear hD
        go_wp2_with fail
        refine(DR y wr HSQ.out.wd.se HSQ.out.wd.rd (by have:=HYZ.out;omega)).mono ?_
        rintro e w4 ⟨⟨vn,vq,vd,rfl,hol⟩,hb⟩
        rw[←HD.out]at hol⊢
        have Y_:=hid hol
        have HB4:=hid hb
        clear hol hb
        go_upto_region 20 with(change wpList _ _ _ _ _ (w4.alloc (.cells (mgN (head 0 0)).toArray 41));have hup:Below w4.heap.size w4 (w4.alloc (.cells (mgN (head 0 0)).toArray 41)):=(Below.refl _ _).alloc (Nat.le_refl _) _;have HMZ:=hid (show aK (w4.alloc (.cells (mgN (head 0 0)).toArray 41)) w4.heap.size (head 0 0) (.slice none 0 0) (.slice none 0 0) (.slice none 0 0)from Blk.new w4 _ _);generalize(w4.alloc (.cells (mgN (head 0 0)).toArray 41))=w4z at hup HMZ⊢;refine dA HMZ.out 0 (aF D.1 vn vq vd) _ (bW ..) (Nat.le_refl 36) (bT _ (bG Y_.out.n) (bG Y_.out.q) (bG Y_.out.d)) rfl _ _ _ rfl rfl rfl aB ?_;intro w5 hs ho;have HM5:=hid (show aK w5 w4.heap.size D.1 vn vq vd from hs);have HB5:=hid (hup.trans ((ho (fun i=>i=w4.heap.size) rfl w4z (Off.refl _ _)).below (fun k hk=>(by have hk:k=w4.heap.size:=hk;omega)) hup.size));clear hs ho hup HMZ)
        have UA:=hid (Y_.out.below HB5.out)
        have Ry:=hid (HB4.out.trans (HB5.out.mono HB4.out.size))
        have HS5:=hid (HSQ.out.next Ry.out)
        generalize w4.heap.size=q5 at HM5⊢
        clear Y_ HB4 HB5
        obtain⟨ad3,hA2, -,kx⟩:=(HL.out.below HS5.out.up).at_ HY.out
        injection hA2 with hA2
        subst hA2
        go_wp2_with fail
        refine(Ze y w5 (by have:=HYZ.out;omega)).mono ?_
        rintro e w6 ⟨⟨un,uq,ud,rfl,hol⟩,hb⟩
        rw[←HD.out]at hol⊢
        have qZ:=hid hol
        have HB6:=hid (Ry.out.trans (hb.mono Ry.out.size))
        have HM6:=hid (show aK w6 q5 D.1 vn vq vd from Blk.below HM5.out hb (Blk.lt HM5.out))
        have HO6:=hid (UA.out.below hb)
        clear hol hb HM5 UA Ry HS5
        go_upto_region 21 with(change wpList _ _ _ _ _ (w6.alloc (.cells (mgN (head 0 0)).toArray 41));have hup:Below w6.heap.size w6 (w6.alloc (.cells (mgN (head 0 0)).toArray 41)):=(Below.refl _ _).alloc (Nat.le_refl _) _;have HMZ:=hid (show aK (w6.alloc (.cells (mgN (head 0 0)).toArray 41)) w6.heap.size (head 0 0) (.slice none 0 0) (.slice none 0 0) (.slice none 0 0)from Blk.new w6 _ _);generalize(w6.alloc (.cells (mgN (head 0 0)).toArray 41))=w6z at hup HMZ⊢;refine dA HMZ.out 0 (aF D.1 un uq ud) _ (bW ..) (Nat.le_refl 36) (bT _ (bG qZ.out.n) (bG qZ.out.q) (bG qZ.out.d)) rfl _ _ _ rfl rfl rfl aB ?_;intro w7 hs ho;have HM7:=hid (show aK w7 w6.heap.size D.1 un uq ud from hs);have HB7:=hid (hup.trans ((ho (fun i=>i=w6.heap.size) rfl w6z (Off.refl _ _)).below (fun k hk=>(by have hk:k=w6.heap.size:=hk;omega)) hup.size));clear hs ho hup HMZ)
        have FQ:=hid (qZ.out.below HB7.out)
        have HB8:=hid (HB6.out.trans (HB7.out.mono HB6.out.size))
        have HN7:=hid (show aK w7 q5 D.1 vn vq vd from Blk.below HM6.out HB7.out (Blk.lt HM6.out))
        have HO7:=hid (HO6.out.below HB7.out)
        generalize w6.heap.size=q7 at HM7⊢
        clear qZ HB6 HB7 HM6 HO6
        have HSM:=hid (FW D.1 D.1 _ _ _ _ _ _ w7 HO7.out.lists FQ.out.lists)
        go_wp2_with(first|(refine wlw HN7.out 0 (aF D.1 vn vq vd) rfl rfl _ _ rfl rfl _ Tryz.underlying41 rfl aB ?_)|(refine wlw HM7.out 0 (aF D.1 un uq ud) rfl rfl _ _ rfl rfl _ Tryz.underlying41 rfl aB ?_))
        refine HSM.out.mono ?_
        rintro e w8 ⟨⟨r,rfl,hr⟩,hb⟩
        obtain rfl:r=true:=hr.2 rfl
        have HB9:=hid (HQ.out.trans ((HB8.out.trans (hb.mono HB8.out.size)).mono HQ.out.size))
        clear hr hb HN7 HM7 HO7 FQ HB8 HSM
        have hn0:((D.2.1:Int) != (D.2.1:Int))=false:=by rw[bne_eq_false_iff_eq]
        have hn1:((D.2.2:Int) != (D.2.2:Int))=false:=by rw[bne_eq_false_iff_eq]
        go_wp2_with fail
        go_roundw
        case rel=>exact⟨j+1,by go_num,HJT.out,HB9.out⟩
        case measure=>first|(simp[intOf];done)|(have:=HJT.out;simp[intOf];omega)
       |false=>
        clear HBB HSQ
        have HQ0:=hid HQ.out
        clear HQ
        obtain⟨ad9,hA9,hc9,hl9⟩:=(HM.out.below (HS3.out.next HQ0.out).up).at_ HX.out
        injection hA9 with hA9
        subst hA9
        have HC9:=hid hc9
        have HL9:=hid (hl9.more (HS3.out.next HQ0.out).up.size)
        have hlt:=HKT.out
        clear hc9 hl9
        go_wp2_with(refine wlA (ad.add (k*36)) (aF x.1 x.2.1 x.2.2.1 x.2.2.2) HC9.out rfl _ _ rfl rfl _ Tryz.underlying41 rfl aB ?_)
        refine(aa9 x.1 HCA.out.ok x.2.1 x.2.2.1 x.2.2.2 wr HL9.out HSX.out).mono ?_
        rintro e w9 ⟨⟨v9,rfl,ho9⟩,hb⟩
        have HS9:=hid ((HS3.out.next HQ0.out).next hb)
        have hy3:=Bys.iH (aI (aI HO3.out (HQ0.out.mono (Nat.le_refl _))) hb)
        have hy9:=Bys.iH ho9
        have UF:=jH hy3
        have abU:=jH hy9
        obtain⟨A9,c9,rfl, -⟩:=aJ ho9
        clear hy3 hy9 hb ho9
        have hne:(((enc x.1).2:Int) != ((enc x.1).2:Int))=false:=by rw[bne_eq_false_iff_eq]
        generalize(enc x.1).1=X at*
        generalize(enc x.1).2=er at*
        go_wp2_with fail
        go_roundw
        case rel=>exact⟨k+1,by go_num,HKT.out,HS9.out⟩
        case measure=>first|(simp[intOf];done)|(have:=HKT.out;simp[intOf];omega)
   |false=>
    go_wp2_with fail
    exact bodyPost_ret (v:= .bool true) (by simp[results,Tryz.results6]) rfl ⟨rfl,HS.out.up⟩
end Go.Proofs.YtkblmloobkiloaaGreatDoor
