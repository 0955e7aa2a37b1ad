/-
  MPC MPD MPF MPE: what the laws of package msg need of them.
-/
import Derived.Test.YtkblmloobkiloaaGreatDoorF00
import Derived.Test.YtkblmloobkiloaaGreatDoorF20
set_option maxRecDepth 100000
set_option maxHeartbeats 6400000
namespace Go.Proofs.YtkblmloobkiloaaGreatDoor
open Go.Lib (hid)
open Go.RowKit
theorem xO{l:List UInt8}(h:kindOf (l.takeWhile isLet)=none):jX l= .error l.length:=by
 unfold jX
 simp only[h]
theorem xP{l:List UInt8}{k:Nat}{fs:List Fld}(h:kindOf (l.takeWhile isLet)=some k)(hf:bQ k=some fs):
  jX l=(dQ [32] (l.drop (l.takeWhile isLet).length) >>= fun l=>fZ 65535 l >>= fun x=>m_ fs (head k x.1) x.2 >>= fun y=>if y.2=[]then .ok y.1 else .error y.2.length):=by
 unfold jX
 simp only[h,hf]
 rfl
theorem zJ(f:Fld)(fs:List Fld)(m:Mg)(l:List UInt8):m_ (f::fs) m l=(dQ (32::(f.word++[61])) l >>= fun l=>pF m l f >>= fun x=>m_ fs x.1 x.2):=rfl
def Bz(p:Nat)(s:ByteArray)(r:Except Nat Mg)(w:World)(e:Ending)(w':World):Prop:=
 Off (fun i=>i=p) w w'∧match r with
  | .ok m=>∃vn vq vd,e= .returned (iM m vn vq vd)∧OL w' w.heap.size m vn vq vd
  | .error n=>e= .panicked [{v:= .iface 111 (.int .i64 ((s.size:Int)-(n:Int))),recovered:=false}]
theorem Bz.no{p:Nat}{s:ByteArray}{r:Except Nat Mg}{w w':World}{n:Nat}{i:Int}(hr:r= .error n)(hi:i=(s.size:Int)-(n:Int))(ho:Off (fun i=>i=p) w w'):Bz p s r w (.panicked [{v:= .iface 111 (.int .i64 i),recovered:=false}]) w':=by
 subst hr hi
 exact⟨ho,rfl⟩
structure um(w0 w:World)(p z:Nat)(s:ByteArray)(a:Nat):Prop where
 off:Off (fun i=>i=p∨z≤i) w0 w
 hz:aK w z (head 0 0) (.slice none 0 0) (.slice none 0 0) (.slice none 0 0)
 sc:ScS w p s a
 se:SE w
 rd:Ready w
 lt:p<z
 h8:8≤p
theorem um.below{w0 w w':World}{p z:Nat}{s:ByteArray}{a:Nat}(h:um w0 w p z s a)(hb:Below w.heap.size w w'):um w0 w' p z s a:=
 ⟨h.off.trans (Off.of_below hb),Blk.below h.hz hb (Blk.lt h.hz),h.sc.below hb,h.se.low hb h.rd.eight,h.rd.below hb (Nat.le_refl _),h.lt,h.h8⟩
theorem um.call{w0 w w':World}{p z:Nat}{s:ByteArray}{a a':Nat}(h:um w0 w p z s a)(ho:Off (fun i=>i=p) w w')(hs:ScS w' p s a'):um w0 w' p z s a':=by
 have hp:=h.lt
 have h8:=h.h8
 have hb:Below 8 w w':=ho.below (fun i hi=>by have hi:i=p:=hi;omega) h.rd.eight
 exact⟨h.off.trans ho.toN,ho.blk h.hz (fun hi=>by have hi:z=p:=hi;omega),hs,h.se.low hb (Nat.le_refl 8),h.rd.low hb (Nat.le_refl 8),hp,h8⟩
structure mg(w0 w:World)(p z h:Nat)(s:ByteArray)(a:Nat)(m:Mg)(vn vq vd:Value):Prop where
 pre:um w0 w p z s a
 hm:aK w h m vn vq vd
 ol:OL w z m vn vq vd
 lh:z<h
theorem mg.below{w0 w w':World}{p z h:Nat}{s:ByteArray}{a:Nat}{m:Mg}{vn vq vd:Value}(t:mg w0 w p z h s a m vn vq vd)(hb:Below w.heap.size w w'):mg w0 w' p z h s a m vn vq vd:=
 ⟨t.pre.below hb,Blk.below t.hm hb (Blk.lt t.hm),t.ol.below hb,t.lh⟩
theorem mg.call{w0 w w':World}{p z h:Nat}{s:ByteArray}{a a':Nat}{m:Mg}{vn vq vd:Value}(t:mg w0 w p z h s a m vn vq vd)(ho:Off (fun i=>i=p) w w')(hs:ScS w' p s a'):mg w0 w' p z h s a' m vn vq vd:=
 ⟨t.pre.call ho hs,ho.blk t.hm (fun hi=>by have hi:h=p:=hi;have:=t.lh;have:=t.pre.lt;omega),t.ol.sc t.pre.sc ho,t.lh⟩
theorem mg.scan{w0 w w':World}{p z h:Nat}{s:ByteArray}{a a':Nat}{m m':Mg}{vn vq vd xn xq xd:Value}(t:mg w0 w p z h s a m vn vq vd)(ho:Off (fun i=>i=p∨i=h) w w')(hs:ScS w' p s a')(hm:aK w' h m' xn xq xd)(hl:OL w' z m' xn xq xd):mg w0 w' p z h s a' m' xn xq xd:=by
 have hp:=t.pre.lt
 have h8:=t.pre.h8
 have hlh:=t.lh
 have hb:Below 8 w w':=ho.below (fun i hi=>by rcases hi with hi|hi<;>omega) t.pre.rd.eight
 exact⟨⟨t.pre.off.trans (ho.mono fun i _ hi=>by rcases hi with hi|hi;exact .inl hi;exact .inr (by omega)),ho.blk t.pre.hz (fun hi=>by rcases hi with hi|hi<;>omega),hs,t.pre.se.low hb (Nat.le_refl 8),t.pre.rd.low hb (Nat.le_refl 8),hp,h8⟩,hm,hl,hlh⟩
theorem mg.aW{w0 w:World}{p z h:Nat}{s:ByteArray}{a:Nat}{m m':Mg}{vn vq vd:Value}(t:mg w0 w p z h s a m vn vq vd)(i:Nat)(v:Value)(e:(aF m vn vq vd).toArray.setIfInBounds i v=(aF m' vn vq vd).toArray)(hn:m'.names=m.names)(hq:m'.aV=m.aV)(hd:m'.data=m.data):mg w0 (w.setCell ⟨h,i,none⟩ v) p z h s a m' vn vq vd:=by
 have ho:=bM w h i v
 have hl:=t.ol.qp t.hm ho
 exact t.scan (ho.mono fun _ _ hi=> .inr hi) (t.pre.sc.off ho (fun hi=>by have hi:p=h:=hi;have:=t.lh;have:=t.pre.lt;omega)) (aK.aW t.hm i v e) ⟨by rw[hn];exact hl.n,by rw[hq];exact hl.q,by rw[hd];exact hl.d⟩
theorem OE(k n:Nat)(vn vq vd:Value):(aF (head k 0) vn vq vd).toArray.setIfInBounds 1 (.int .u16 (n:Int))=(aF (head k n) vn vq vd).toArray:=by kernel_rfl
theorem Jo{k:Nat}{fs:List Fld}(hh:bQ k=some fs):fs.length≤20:=by
 unfold bQ at hh
 split at hh<;>first|(obtain rfl:=Option.some.inj hh;decide)|(exact absurd hh (by simp))
theorem LX{k:Nat}{fs:List Fld}(hh:bQ k=some fs):k<256:=by
 obtain⟨-, -,h1,h2⟩:=iP hh
 omega
theorem yQ{w:World}{p:Nat}{s:ByteArray}(hse:SE w)(hrd:Ready w)(h8:8≤p)(h:ScS w p s 0):
  Calls Tryz.prog 58 #[.pointer (some ⟨p,0,none⟩)] w (Bz p s (jX s.data.toList) w):=by
 have PD:=au (k:=111) Tryz.func111 (by kernel_rfl) rfl
 have hup:Below w.heap.size w (w.alloc (.cells (mgN (head 0 0)).toArray 41)):=(Below.refl _ _).alloc (Nat.le_refl _) _
 have P0:=hid (show um w (w.alloc (.cells (mgN (head 0 0)).toArray 41)) p w.heap.size s 0 from⟨Off.of_below hup,Blk.new w _ _,h.below hup,hse.low hup hrd.eight,hrd.below hup (Nat.le_refl _),Blk.lt h.1,h8⟩)
 clear h hse hrd h8 hup
 go_enter Tryz.func58,Tryz.ntmps58
 go_upto_region 1 with(fail)
 change Code.wp _ _ _ _ (w.alloc (.cells (mgN (head 0 0)).toArray 41))
 generalize w.alloc (.cells (mgN (head 0 0)).toArray 41)=w0 at P0⊢
 generalize hz:w.heap.size=z at P0⊢
 have HZZ:=hid hz;clear hz
 have HRW:=hid (tq isLet PD DF P0.out.sc)
 rw[List.drop_zero]at HRW
 obtain⟨l,hl⟩:∃l,l=s.data.toList:=⟨_,rfl⟩
 have HL:=hid (show l.length=s.size from by rw[hl,Array.length_toList];rfl)
 have HLL:=hid hl
 rw[←hl]at HRW⊢
 obtain⟨n,hn⟩:∃n,n=l.takeWhile isLet:=⟨_,rfl⟩
 have HNN:=hid hn
 rw[←hn]at HRW
 clear hl hn
 go_wp2_with fail
 refine HRW.out.mono ?_
 rintro e w1 ⟨rfl,hs,ho⟩
 have P1:=hid (P0.out.call ho hs)
 clear hs ho P0 HRW PD
 have HX:=hid (show(ofL n).data.toList=n from by simp[ofL])
 generalize ofL n=X at HX⊢
 go_wp2_with fail
 refine(FM X w1).mono ?_
 rintro e w2 ⟨hk,hb⟩
 have P2:=hid (P1.out.below hb)
 clear hb P1
 unfold GV at hk
 rw[HX.out]at hk
 clear HX
 cases hko:kindOf n with
 |none=>
  rw[hko]at hk
  have hk:e= .returned (.tuple #[.int .u8 0,.bool false]):=hk
  subst hk
  have HR:=hid (xO (l:=l) (by rw[←HNN.out,hko]))
  clear hko
  go_wp2_with fail
  refine⟨rfl, ?_⟩
  rw[←HLL.out]
  exact Bz.no HR.out (by have:=HL.out;omega) (P2.out.off.toR (by have:=HZZ.out;omega))
 |some kd=>
  rw[hko]at hk
  have hk:e= .returned (.tuple #[.int .u8 (kd:Int),.bool true]):=hk
  subst hk
  obtain⟨-, -,fs,hkf⟩:=mM hko
  have HPL:=hid (xP (l:=l) (by rw[←HNN.out,hko]) hkf)
  rw[←HNN.out]at HPL
  have HKF:=hid hkf
  have GN:fs.length≤20:=Jo hkf
  have hkd:kd<256:=LX hkf
  clear hko hkf
  go_wp2_with fail
  refine(xC kd w2).mono ?_
  rintro e w3 ⟨hb,hrow⟩
  unfold I9 at hrow
  rw[HKF.out]at hrow
  obtain⟨fvl,rfl,hfl⟩:=hrow
  have P3:=hid (P2.out.below hb)
  have HG3:=hid (show z<w2.heap.size∧w2.heap.size≤w3.heap.size from⟨Blk.lt P2.out.hz,hb.size⟩)
  have HF3:=hid hfl
  obtain⟨fA,fc,rfl,hfc,hfm, -⟩:=hfl
  clear hb P2
  have hup:Below w3.heap.size w3 (w3.alloc (.cells #[.int .u8 (kd:Int),.string (ofL (fO kd)),.slice fA fs.length fc] 79)):=(Below.refl _ _).alloc (Nat.le_refl _) _
  have HR4:=hid (Blk.new w3 79 #[.int .u8 (kd:Int),.string (ofL (fO kd)),.slice fA fs.length fc])
  have P4:=hid (P3.out.below hup)
  have HF4:=hid (HF3.out.keep fun i _ hi=>hup.block i hi)
  have jG:=hid (World.size_alloc w3 (.cells #[.int .u8 (kd:Int),.string (ofL (fO kd)),.slice fA fs.length fc] 79))
  clear hup P3 HF3
  go_upto_region 6 with(fail)
  generalize w3.alloc (.cells #[.int .u8 (kd:Int),.string (ofL (fO kd)),.slice fA fs.length fc] 79)=w4 at HR4 P4 HF4 jG⊢
  have HG5:=hid (show z<w2.heap.size∧w2.heap.size≤w3.heap.size∧w3.heap.size<w4.heap.size from⟨HG3.out.1,HG3.out.2,by have:=jG.out;omega⟩)
  have hzh:z<w4.heap.size:=by have:=HG5.out;omega
  have HZH:=hid hzh;clear hzh
  go_upto_region 7 with(change wpList _ _ _ _ _ (w4.alloc (.cells (mgN (head 0 0)).toArray 41));have hup:Below w4.heap.size w4 (w4.alloc (.cells (mgN (head 0 0)).toArray 41)):=(Below.refl _ _).alloc (Nat.le_refl _) _;have M5:=hid (show mg w (w4.alloc (.cells (mgN (head 0 0)).toArray 41)) p z w4.heap.size s n.length (head 0 0) (.slice none 0 0) (.slice none 0 0) (.slice none 0 0)from⟨(by have h:=P4.out.below hup;rw[Nat.zero_add]at h;exact h),Blk.new w4 _ _,OL.nil_ ..,HZH.out⟩);have HR5:=hid (Blk.below HR4.out hup (Blk.lt HR4.out));have HF5:=hid (HF4.out.keep fun i _ hi=>hup.block i (by have:=HG5.out;omega));clear hup;generalize w4.alloc (.cells (mgN (head 0 0)).toArray 41)=w5 at M5 HR5 HF5⊢;generalize w4.heap.size=h at M5 HG5 HZH⊢;refine dA M5.out.hm 0 (mgN (head kd 0)) _ (bW ..) (Nat.le_refl 36) (bT _ rfl rfl rfl) rfl _ _ _ rfl rfl rfl aB ?_;intro w6 hs ho;have HO6:=hid (ho (fun i=>i=h) rfl w5 (Off.refl _ _));have M6:=hid (M5.out.scan (HO6.out.mono fun _ _ hi=> .inr hi) (M5.out.pre.sc.off HO6.out (fun hi=>by have hi:p=h:=hi;have:=M5.out.lh;have:=M5.out.pre.lt;omega)) (show aK w6 h (head kd 0) (.slice none 0 0) (.slice none 0 0) (.slice none 0 0)from hs) (OL.nil_ ..));clear hs ho)
  have HR6:=hid (HO6.out.blk HR5.out (by have:=HG5.out;omega))
  have HF6:=hid (HF5.out.keep fun i _ hi=>HO6.out.block i (by have:=Blk.lt HR5.out;omega) (by have:=HG5.out;omega))
  clear M5 HR5 HF5 HO6 HR4 HF4 P4
  go_wp2_with fail
  refine(dK ⟨#[32]⟩ M6.out.pre.sc).mono ?_
  rw[show s.data.toList.drop n.length=l.drop n.length from by rw[HLL.out]]
  rintro e w7 hr
  rw[show(⟨#[32]⟩:ByteArray).data.toList=[32]from rfl]at hr
  rcases hr.pO with⟨ne,hp,rfl,ho⟩|⟨l7,a7,hp,rfl,ho,hs,hd⟩
  ·have HR:=hid (show jX l= .error ne from by rw[HPL.out,hp];rfl)
   have HO:=hid (M6.out.pre.off.trans ho.toN)
   clear hp ho hr
   go_wp2_with fail
   refine⟨rfl, ?_⟩
   rw[←HLL.out]
   exact Bz.no HR.out rfl (HO.out.toR (by have:=HZZ.out;omega))
  have QS:=hid (show jX l=(fZ 65535 l7 >>= fun x=>m_ fs (head kd x.1) x.2 >>= fun y=>if y.2=[]then .ok y.1 else .error y.2.length)from by rw[HPL.out,hp];rfl)
  have M7:=hid (M6.out.call ho hs)
  have HD7:=hid hd
  have HO7:=hid (show Off (fun i=>i=p∨i=h) w6 w7 from ho.mono fun _ _ hi=> .inl hi)
  clear hp ho hr hs hd M6 HPL
  go_wp2_with fail
  refine(dO 65535 (by decide) M7.out.pre.se M7.out.pre.h8 M7.out.pre.rd.eight M7.out.pre.sc).mono ?_
  rw[HD7.out]
  rintro e w8 hr
  rcases hr.get with⟨ne,hp,rfl,ho⟩|⟨tg,l8,a8,hp,rfl,ho,hs,hd⟩
  ·have HR:=hid (show jX l= .error ne from by rw[QS.out,hp];rfl)
   have HO:=hid (M7.out.pre.off.trans ho.toN)
   clear hp ho hr
   go_wp2_with fail
   refine⟨rfl, ?_⟩
   rw[←HLL.out]
   exact Bz.no HR.out rfl (HO.out.toR (by have:=HZZ.out;omega))
  have OG:=hid (show jX l=(m_ fs (head kd tg) l8 >>= fun y=>if y.2=[]then .ok y.1 else .error y.2.length)from by rw[QS.out,hp];rfl)
  have htl:=jU hp
  have hwv:IntKind.u16.wrap (tg:Int)=(tg:Int):=by rw[IntKind.wrap_u16];omega
  have M8:=hid (M7.out.call ho hs)
  have HD8:=hid hd
  have HO8:=hid (HO7.out.trans (ho.mono (S':=fun i=>i=p∨i=h) fun _ _ hi=> .inl hi))
  clear hp ho hr hs hd M7 QS htl HO7
  have ks:w8.cell? ⟨h,1,none⟩=some (.int .u16 0):=Blk.cell M8.out.hm 1
  have fs1:w8.frozen? ⟨h,1,none⟩=false:=Blk.frozen M8.out.hm 1
  have MA:=hid (show mg w (w8.setCell ⟨h,1,none⟩ (.int .u16 (tg:Int))) p z h s a8 (head kd tg) (.slice none 0 0) (.slice none 0 0) (.slice none 0 0)from M8.out.aW 1 (.int .u16 (tg:Int)) (OE ..) rfl rfl rfl)
  have HOA:=hid (HO8.out.trans ((bM w8 h 1 (.int .u16 (tg:Int))).mono (S':=fun i=>i=p∨i=h) fun _ _ hi=> .inr hi))
  go_upto_region 9 with(fail)
  clear ks fs1 hwv M8 HO8
  generalize w8.setCell ⟨h,1,none⟩ (.int .u16 (tg:Int))=wa at MA HOA⊢
  have HRA:=hid (HOA.out.blk HR6.out (fun hi=>by have:=HG5.out;have:=MA.out.pre.lt;omega))
  have HFA:=hid (HF6.out.keep fun i hlo hi=>HOA.out.block i (by have:=Blk.lt HR6.out;omega) (fun hh=>by have:=HG5.out;have:=MA.out.pre.lt;omega))
  generalize w3.heap.size=rb at HG5 HRA HFA HR6 HF6⊢
  clear HR6 HF6 HOA
  have k2:wa.cell? ⟨rb,2,none⟩=some (.slice fA fs.length fc):=Blk.cell HRA.out 2
  go_upto_region 10 with(fail)
  clear k2
  go_loopw [10,11,38] (fun _ _ i wr=>∃(k:Nat) (m:Mg) (l':List UInt8) (a:Nat) (vn vq vd:Value),k≤fs.length∧i= .int .i64 (k:Int)∧mg w wr p z h s a m vn vq vd∧s.data.toList.drop a=l'∧m_ fs (head kd tg) l8=m_ (fs.drop k) m l'∧Off (fun i=>i=p∨i=h) wa wr) (fun _ _ i _=>fs.length-(intOf i).toNat)
  case atStart=>exact⟨0,_,l8,a8,_,_,_,by omega,rfl,MA.out,HD8.out,rfl,Off.refl _ _⟩
  case round=>
   obtain⟨k,m,l',a,vn,vq,vd,hk,rfl,hm,hd,hq,ho⟩:=hrel
   have MR:=hid hm;have HDR:=hid hd;have HQR:=hid hq;have HOR:=hid ho
   clear hm hd hq ho
   by_cases hlt:k<fs.length
   ·obtain⟨f,hf⟩:∃f,fs[k]? =some f:=⟨fs[k],List.getElem?_eq_getElem _⟩
    obtain⟨ad,rfl,kx⟩:=(HFA.out.keep fun i hlo hi=>HOR.out.block i (by have:=Blk.lt HRA.out;omega) (fun hh=>by have:=HG5.out;have:=MA.out.pre.lt;omega)).at_ hf
    have HQF:=hid (show m_ fs (head kd tg) l8=(dQ (32::(f.word++[61])) l' >>= fun l=>pF m l f >>= fun x=>m_ (fs.drop (k+1)) x.1 x.2)from by
     rw[HQR.out,←zJ]
     congr 1
     obtain⟨hh,rfl⟩:=List.getElem?_eq_some_iff.1 hf
     exact List.drop_eq_getElem_cons hh)
    clear hf HQR
    go_wp2_with fail
    refine(jY f wr).mono ?_
    rintro e w7_ ⟨rfl,hb,hcap⟩
    have HB9:=hid (show p<wr.heap.size+1 from by have:=Blk.lt MR.out.pre.sc.1;omega)
    generalize wr.heap.size+1=b9 at hcap HB9⊢
    have Jb:Below w7_.heap.size w7_ (w7_.alloc (.cells #[.string f.jJ,.func (.func f.kg) #[] (f.sO b9),.func (.func f.kp) #[] (f.cap b9),.func (.func f.kt) #[] (f.cap b9),.func (.func f.km) #[] (f.cap b9),.func (.func f.kr) #[] (f.cap b9),.func (.func f.ks) #[] (f.cap b9)] 90)):=(Below.refl _ _).alloc (Nat.le_refl _) _
    have HN8:=hid (Blk.new w7_ 90 #[.string f.jJ,.func (.func f.kg) #[] (f.sO b9),.func (.func f.kp) #[] (f.cap b9),.func (.func f.kt) #[] (f.cap b9),.func (.func f.km) #[] (f.cap b9),.func (.func f.kr) #[] (f.cap b9),.func (.func f.ks) #[] (f.cap b9)])
    have HC8:=hid (show yC (w7_.alloc (.cells #[.string f.jJ,.func (.func f.kg) #[] (f.sO b9),.func (.func f.kp) #[] (f.cap b9),.func (.func f.kt) #[] (f.cap b9),.func (.func f.km) #[] (f.cap b9),.func (.func f.kr) #[] (f.cap b9),.func (.func f.ks) #[] (f.cap b9)] 90)) f b9 from⟨fun h=>(hcap.1 h).alloc _,fun h h'=>(hcap.2 h h').alloc _⟩)
    have MS8:=hid ((MR.out.below hb).below Jb)
    have HO8:=hid ((HOR.out.trans (Off.of_below hb)).trans (Off.of_below Jb))
    have HPF:=hid (show p<w7_.heap.size from Blk.lt (MR.out.below hb).pre.sc.1)
    have HHF:=hid (show h<w7_.heap.size from Blk.lt (MR.out.below hb).hm)
    clear hb hcap kx Jb MR HOR
    go_upto_region 13 with(fail)
    change Code.wp _ _ _ _ (w7_.alloc (.cells #[.string f.jJ,.func (.func f.kg) #[] (f.sO b9),.func (.func f.kp) #[] (f.cap b9),.func (.func f.kt) #[] (f.cap b9),.func (.func f.km) #[] (f.cap b9),.func (.func f.kr) #[] (f.cap b9),.func (.func f.ks) #[] (f.cap b9)] 90))
    generalize w7_.alloc (.cells #[.string f.jJ,.func (.func f.kg) #[] (f.sO b9),.func (.func f.kp) #[] (f.cap b9),.func (.func f.kt) #[] (f.cap b9),.func (.func f.km) #[] (f.cap b9),.func (.func f.kr) #[] (f.cap b9),.func (.func f.ks) #[] (f.cap b9)] 90)=w8_ at HN8 HC8 MS8 HO8⊢
    generalize w7_.heap.size=zf at HN8 HPF HHF⊢
    have hws:=Dz f
    obtain⟨Q0,hQ0⟩:∃P,P=(⟨#[32]⟩:ByteArray)++f.jJ:=⟨_,rfl⟩
    have hs0:Q0.size=1+f.jJ.size:=by rw[hQ0,ByteArray.size_append];rfl
    have ha0:∀w,(Op.stringOp .add (⟨#[32]⟩:ByteArray) f.jJ).run Tryz.prog w= .ok (.string Q0) w:=fun w=>by
     rw[hQ0]
     exact run_string_add_sum w _ _ (by rw[←ByteArray.size_append,←hQ0];omega)
    obtain⟨Q1,hQ1⟩:∃P,P=Q0++(⟨#[61]⟩:ByteArray):=⟨_,rfl⟩
    have hs1:Q1.size=Q0.size+1:=by rw[hQ1,ByteArray.size_append];rfl
    have ha1:∀w,(Op.stringOp .add Q0 (⟨#[61]⟩:ByteArray)).run Tryz.prog w= .ok (.string Q1) w:=fun w=>by
     rw[hQ1]
     exact run_string_add_sum w _ _ (by rw[←ByteArray.size_append,←hQ1];omega)
    have HQ1:=hid (show Q1.data.toList=32::(f.word++[61])from by
     rw[hQ1,hQ0,CP]
     simp[ofL])
    have kf0:w8_.cell? ⟨zf,0,none⟩=some (.string f.jJ):=HN8.out.cell 0
    clear hws hs0 hs1 hQ0 hQ1
    go_wp2_with fail
    refine(dK Q1 MS8.out.pre.sc).mono ?_
    rw[HDR.out,HQ1.out]
    rintro e w9 hr
    rcases hr.pO with⟨ne,hp,rfl,ho⟩|⟨l9,a9,hp,rfl,ho,hs,hd⟩
    ·have HR:=hid (show jX l= .error ne from by rw[OG.out,HQF.out,hp];rfl)
     have HO:=hid (MS8.out.pre.off.trans ho.toN)
     clear hp ho hr
     go_wp2_with fail
     refine⟨rfl, ?_⟩
     rw[←HLL.out]
     exact Bz.no HR.out rfl (HO.out.toR (by have:=HZZ.out;omega))
    have HQ9:=hid (show m_ fs (head kd tg) l8=(pF m l9 f >>= fun x=>m_ (fs.drop (k+1)) x.1 x.2)from by rw[HQF.out,hp];rfl)
    have MS9:=hid (MS8.out.call ho hs)
    have HD9:=hid hd
    have HO9:=hid (HO8.out.trans (ho.mono (S':=fun i=>i=p∨i=h) fun _ _ hi=> .inl hi))
    have kf6:w9.cell? ⟨zf,6,none⟩=some (.func (.func f.ks) #[] (f.cap b9)):=(ho.blk HN8.out (fun hi=>by have hi:zf=p:=hi;have:=HPF.out;omega)).cell 6
    have HC9:=hid (show yC w9 f b9 from⟨fun h=>ho.blk (HC8.out.1 h) (fun hi=>by have hi:b9=p:=hi;have:=HB9.out;omega),fun h h'=>ho.blk (HC8.out.2 h h') (fun hi=>by have hi:b9=p:=hi;have:=HB9.out;omega)⟩)
    have hent:=II f
    have Uf:=hid (DL f MS9.out.pre.se MS9.out.pre.rd MS9.out.pre.h8 MS9.out.hm MS9.out.ol (Nat.le_of_lt (Blk.lt MS9.out.pre.hz)) HC9.out MS9.out.pre.sc)
    rw[HD9.out]at Uf
    clear hp ho hr hs hd kf0 ha0 ha1 MS8 HO8 HC8 HQF
    go_wp2_with fail
    refine Uf.out.mono ?_
    rintro e w10 ⟨ho,hr⟩
    cases hp:pF m l9 f with
    |error ne=>
     rw[hp]at hr
     have hr:e= .panicked [{v:= .iface 111 (.int .i64 ((s.size:Int)-(ne:Int))),recovered:=false}]:=hr
     subst hr
     have HR:=hid (show jX l= .error ne from by rw[OG.out,HQ9.out,hp];rfl)
     have HO:=hid (MS9.out.pre.off.trans (ho.mono (S':=fun i=>i=p∨z≤i) fun _ _ hi=>by have:=MS9.out.lh;omega))
     clear hp ho hent
     go_wp2_with fail
     refine⟨rfl, ?_⟩
     rw[←HLL.out]
     exact Bz.no HR.out rfl (HO.out.toR (by have:=HZZ.out;omega))
    |ok x=>
     obtain⟨m',l10⟩:=x
     rw[hp]at hr
     obtain⟨he,⟨xn,xq,xd,hmm,hol⟩,a10,hs,hd⟩:=hr
     subst he
     have V8:=hid (show m_ fs (head kd tg) l8=m_ (fs.drop (k+1)) m' l10 from by rw[HQ9.out,hp];rfl)
     have V9:=hid (MS9.out.scan ho hs hmm hol)
     have C_:=hid (HO9.out.trans ho)
     have OB:=hid hd
     clear hp ho hent hs hd hmm hol kf6
     go_wp2_with fail
     go_roundw
     case rel=>exact⟨k+1,m',l10,a10,xn,xq,xd,by omega,by go_num,V9.out,OB.out,V8.out,C_.out⟩
     case measure=>simp[intOf];omega
   ·have hkl:k=fs.length:=by omega
    subst hkl
    rw[List.drop_length]at HQR
    have HPF:=hid (show jX l=(if l'=[]then .ok m else .error l'.length)from by rw[OG.out,HQR.out];rfl)
    have HLEN:=hid (show l'.length=s.size-a∧a≤s.size from⟨by rw[←HDR.out,List.length_drop,Array.length_toList];rfl,MR.out.pre.sc.2.1⟩)
    clear OG HQR hlt hk
    have HRT:=hid (lZ MR.out.pre.sc)
    rw[HDR.out]at HRT
    by_cases hne:l'=[]
    ·subst hne
     have HR:=hid (show jX l= .ok m from by rw[HPF.out];rfl)
     have HON:=hid (And.intro (bG MR.out.ol.n) (And.intro (bG MR.out.ol.q) (bG MR.out.ol.d)))
     go_wp2_with fail
     refine HRT.out.mono ?_
     rintro e w11 ⟨rfl,hb⟩
     have DN:=hid (MR.out.below hb)
     clear hb HRT MR HOR
     rw[show ofL ([]:List UInt8)=⟨#[]⟩from rfl]
     go_wp2_with(first|(refine wlw DN.out.hm 0 (aF m vn vq vd) rfl rfl _ _ rfl rfl _ Tryz.underlying41 rfl aB ?_)|(refine dA DN.out.pre.hz 0 (aF m vn vq vd) _ (bW ..) (Nat.le_refl 36) (bT _ HON.out.1 HON.out.2.1 HON.out.2.2) rfl _ _ _ rfl rfl rfl aB ?_;intro wz hs ho;have HZF:=hid hs;have HOF:=hid (ho (fun i=>i=p∨z≤i) (.inr (Nat.le_refl _)) w DN.out.pre.off);have HLF:=hid (DN.out.ol.qp DN.out.pre.hz (ho (fun i=>i=z) rfl w11 (Off.refl _ _)));clear hs ho))
     refine bodyPost_ret (bf (l:=aF m vn vq vd) rfl Tryz.underlying41 rfl aB rfl HZF.out) rfl ?_
     rw[←HLL.out]
     refine⟨HOF.out.toR (by have:=HZZ.out;omega), ?_⟩
     rw[HR.out]
     have hz:=HZZ.out
     exact⟨vn,vq,vd,rfl,by rw[hz];exact HLF.out⟩
    ·have HR:=hid (show jX l= .error l'.length from by rw[HPF.out,if_neg hne])
     have Ug:(ofL l').size=l'.length:=dU l'
     have hpl:0<l'.length:=List.length_pos_iff.2 hne
     generalize ofL l'=R at HRT Ug⊢
     have LP:R.toList.isEmpty=false:=Af (by omega)
     have TS:R.toList≠ []:=fun h=>by rw[h]at LP;cases LP
     clear Ug hpl hne
     go_wp2_with fail
     refine HRT.out.mono ?_
     rintro e w11 ⟨rfl,hb⟩
     have DN:=hid (MR.out.below hb)
     have k1:w11.cell? ⟨p,1,none⟩=some (.int .i64 (a:Int)):=DN.out.pre.sc.1.cell 1
     clear hb HRT MR HOR
     go_wp2_with fail
     refine⟨rfl, ?_⟩
     rw[←HLL.out]
     exact Bz.no HR.out (by have:=HLEN.out;omega) (DN.out.pre.off.toR (by have:=HZZ.out;omega))
theorem Jp(l:List UInt8):l.length≤(l.flatMap dw).length:=by
 induction l with
 |nil=>exact Nat.le_refl _
 |cons c l ih=>
  rw[List.flatMap_cons,List.length_append,List.length_cons]
  have:1≤(dw c).length:=by
   unfold dw
   split
   ·simp
   ·split
    ·simp
    ·simp
  omega
theorem qY(s:ByteArray):s.size+2≤(bD s).length:=by
 show _≤(34::(s.data.toList.flatMap dw++[34])).length
 have h1:=Jp s.data.toList
 have h2:s.data.toList.length=s.size:=Array.length_toList ..
 rw[List.length_cons,List.length_append,List.length_cons,List.length_nil]
 omega
theorem LY:∀l:List ByteArray,(l.map fun s=>2+s.size).sum≤(iJ (l.map bD)).length
 | []=>Nat.zero_le _
 |x::r=>by
  have h:∀r:List ByteArray,(r.map fun s=>2+s.size).sum≤((r.map bD).flatMap fun y=>32::y).length:=by
   intro r
   induction r with
   |nil=>exact Nat.zero_le _
   |cons y r ih=>
    have:=qY y
    simp only[List.map_cons,List.sum_cons,List.flatMap_cons,List.length_append,List.length_cons]at ih⊢
    omega
  have h1:=h r
  have h2:=qY x
  show _≤(bD x++(r.map bD).flatMap fun y=>32::y).length
  simp only[List.map_cons,List.sum_cons,List.length_append]
  omega
theorem GX:∀l:List UInt8,l.length≤(l.flatMap jW).length
 | []=>Nat.le_refl _
 |c::l=>by
  have:=GX l
  rw[List.flatMap_cons,List.length_append]
  show l.length+1≤2+_
  omega
theorem LZ(m:Mg)(f:Fld)(hg:m.good f=true):m.long f≤(m.val f).length+300:=by
 have hw:f.width≤8:=by cases f<;>decide
 have hq:=fun s=>qY s
 cases f
 case names=>
  show 2+(m.names.map fun s=>2+s.size).sum≤(91::(iJ (m.names.map bD)++[93])).length+300
  have:=LY m.names
  rw[List.length_cons,List.length_append]
  omega
 case aV=>
  have h:decide (m.aV.length≤16)=true:=hg
  rw[decide_eq_true_iff]at h
  show 2+13*m.aV.length≤_
  omega
 case qid=>exact Nat.le_trans (show 13≤300 by decide) (Nat.le_add_left _ _)
 case data=>
  show 4+m.data.length≤(m.data.flatMap jW).length+300
  have:=GX m.data
  omega
 case stat=>
  show 2+dY m.stat≤(rD m.stat).length+300
  have h1:=hq m.stat.name
  have h2:=hq m.stat.uid
  have h3:=hq m.stat.gid
  have h4:=hq m.stat.fE
  unfold rD dY
  simp only[List.length_append,List.length_cons,List.length_nil]
  omega
 case version=>have:=hq m.version;show 2+m.version.size≤(bD m.version).length+300;omega
 case uname=>have:=hq m.uname;show 2+m.uname.size≤(bD m.uname).length+300;omega
 case bF=>have:=hq m.bF;show 2+m.bF.size≤(bD m.bF).length+300;omega
 case bH=>have:=hq m.bH;show 2+m.bH.size≤(bD m.bH).length+300;omega
 case name=>have:=hq m.name;show 2+m.name.size≤(bD m.name).length+300;omega
 case bI=>exact Nat.le_trans (show 4≤300 by decide) (Nat.le_add_left _ _)
 case dB=>exact Nat.le_trans (show 4≤300 by decide) (Nat.le_add_left _ _)
 case aT=>exact Nat.le_trans (show 2≤300 by decide) (Nat.le_add_left _ _)
 case fid=>exact Nat.le_trans (show 4≤300 by decide) (Nat.le_add_left _ _)
 case aU=>exact Nat.le_trans (show 4≤300 by decide) (Nat.le_add_left _ _)
 case mode=>exact Nat.le_trans (show 1≤300 by decide) (Nat.le_add_left _ _)
 case aQ=>exact Nat.le_trans (show 4≤300 by decide) (Nat.le_add_left _ _)
 case perm=>exact Nat.le_trans (show 4≤300 by decide) (Nat.le_add_left _ _)
 case offset=>exact Nat.le_trans (show 8≤300 by decide) (Nat.le_add_left _ _)
 case count=>exact Nat.le_trans (show 4≤300 by decide) (Nat.le_add_left _ _)
theorem Jq(k t:Nat)(f:Fld):(head k t).long f≤300:=by
 have h:(head k t).long f=(head 0 0).long f:=by cases f<;>rfl
 rw[h]
 cases f<;>decide
theorem L6{f:Fld}{fs:List Fld}(m:Mg)(h:f∈fs):(m.val f).length≤(fs.flatMap m.part).length:=by
 induction fs with
 |nil=>cases h
 |cons g fs ih=>
  rw[List.flatMap_cons,List.length_append]
  rcases List.mem_cons.1 h with rfl|h
  ·show _≤(32::(f.word++61::m.val f)).length+_
   rw[List.length_cons,List.length_append,List.length_cons]
   omega
  ·have:=ih h
   omega
theorem L8{l:List UInt8}{m:Mg}(h:jX l= .ok m):m.ok∧∀f,m.long f≤l.length+300:=by
 unfold jX at h
 dsimp only at h
 split at h
 ·cases h
 rename_i k hk
 obtain⟨hkn, -,fs,hkf⟩:=mM hk
 obtain⟨l1,e1,hl⟩:=bind_ok h
 obtain⟨⟨t,l2⟩,e2,hl⟩:=bind_ok hl
 obtain⟨⟨m2,l3⟩,e3,hl⟩:=bind_ok hl
 dsimp only at e3 hl
 split at hl
 ·rename_i hz
  injection hl with hl
  subst hl
  subst hz
  rw[hkf]at e3
  dsimp only[Option.getD]at e3
  obtain⟨rfl,ht, -⟩:=gB e2
  obtain⟨rfl,hg,hf,hok⟩:=Gz fs _ _ _ _ (iP hkf).2.1 e3
  have WU:=iP hkf
  refine⟨hok (NS (by omega) (by omega)),fun f=> ?_⟩
  have hp:=fQ e1
  have hlen:(fs.flatMap m2.part).length≤l.length:=by
   have h1:=congrArg List.length hp
   simp only[List.length_append,List.length_drop,List.append_nil,List.length_cons]at h1
   omega
  by_cases hm:f∈fs
  ·have h1:=LZ m2 f (hg f hm)
   have h2:=L6 m2 hm
   omega
  ·have h1:Alike m2 (head k t) f:=by
    intro d
    have:=pY m2 f fs (head k t) hm d
    rwa[←hf]at this
   rw[h1.long]
   have:=Jq k t f
   omega
 ·cases hl
def PLe{β:Type}(g:β→List UInt8)(l:List UInt8)(r:Except Nat β):Prop:=(∀x,r= .ok x→(g x).length≤l.length)∧(∀n,r= .error n→n≤l.length)
theorem PLe.no{β:Type}{g:β→List UInt8}{l:List UInt8}{n:Nat}(h:n≤l.length):PLe g l (.error n:Except Nat β):=⟨fun x h=>(by cases h),fun m hm=>(by injection hm with hm;omega)⟩
theorem PLe.yes{β:Type}{g:β→List UInt8}{l:List UInt8}{x:β}(h:(g x).length≤l.length):PLe g l (.ok x:Except Nat β):=⟨fun y hy=>(by injection hy with hy;rw[←hy];exact h),fun m hm=>(by cases hm)⟩
theorem PLe.bind{β γ:Type}{g:β→List UInt8}{g':γ→List UInt8}{l:List UInt8}{r:Except Nat β}{f:β→Except Nat γ}(h:PLe g l r)(hf:∀x,PLe g' (g x) (f x)):PLe g' l (r >>= f):=by
 cases r with
 |error n=>exact PLe.no (h.2 n rfl)
 |ok x=>
  have h1:=h.1 x rfl
  exact⟨fun y hy=>Nat.le_trans ((hf x).1 y hy) h1,fun n hn=>Nat.le_trans ((hf x).2 n hn) h1⟩
theorem PLe.map{β γ:Type}{g:β→List UInt8}{g':γ→List UInt8}{l:List UInt8}{r:Except Nat β}{f:β→γ}(h:PLe g l r)(hf:∀x,g' (f x)=g x):PLe g' l (r.map f):=by
 cases r with
 |error n=>exact PLe.no (h.2 n rfl)
 |ok x=>exact PLe.yes (by rw[hf];exact h.1 x rfl)
theorem PLe.trans{β:Type}{g:β→List UInt8}{l l':List UInt8}{r:Except Nat β}(h:PLe g l' r)(hl:l'.length≤l.length):PLe g l r:=⟨fun y hy=>Nat.le_trans (h.1 y hy) hl,fun n hn=>Nat.le_trans (h.2 n hn) hl⟩
theorem qh(w l:List UInt8):PLe (fun r=>r) l (dQ w l):=by
 unfold dQ
 split
 ·exact PLe.yes (by rw[List.length_drop];omega)
 ·exact PLe.no (Nat.le_refl _)
theorem BA(most:Nat)(l:List UInt8):PLe (fun x:Nat×List UInt8=>x.2) l (fZ most l):=by
 unfold fZ
 dsimp only
 split
 ·exact PLe.no (Nat.le_refl _)
 ·exact PLe.yes (by rw[List.length_drop];omega)
theorem OH(l:List UInt8):PLe (fun x:List UInt8×List UInt8=>x.2) l (nG l):=by
 unfold nG
 dsimp only
 split
 ·exact PLe.no (Nat.le_refl _)
 ·exact PLe.yes (by rw[List.length_drop];omega)
theorem oC(l:List UInt8):PLe (fun x:ByteArray×List UInt8=>x.2) l (dJ l):=by
 refine⟨fun x hx=> ?_,fun n hn=> ?_⟩
 ·have h:=congrArg List.length (jI hx).1
  rw[List.length_append]at h
  show x.2.length≤_
  omega
 ·unfold dJ at hn
  split at hn
  ·injection hn with hn;omega
  ·split at hn
   ·injection hn with hn;omega
   ·split at hn
    ·injection hn with hn;omega
    ·split at hn
     ·cases hn
     ·injection hn with hn;omega
theorem FP(l:List UInt8):PLe (fun x:Qd×List UInt8=>x.2) l (gW l):=by
 unfold gW
 repeat' first
  |(refine PLe.bind (BA _ _) fun x=> ?_;obtain⟨_,_⟩:=x;dsimp only)
  |(refine PLe.bind (qh _ _) fun x=> ?_)
  |exact PLe.yes (Nat.le_refl _)
theorem GY{α:Type}{one:List UInt8→Except Nat (α×List UInt8)}(h:∀l,PLe (fun x:α×List UInt8=>x.2) l (one l)):∀(n:Nat) (first:Bool) (l:List UInt8),PLe (fun x:List α×List UInt8=>x.2) l (eP one n first l)
 |0,first,l=>by
  unfold eP
  split
  ·exact PLe.yes (by rw[List.length_drop];omega)
  ·exact PLe.no (Nat.le_refl _)
 |n+1,first,l=>by
  unfold eP
  split
  ·exact PLe.yes (by rw[List.length_drop];omega)
  ·have key:∀l,PLe (fun x:List α×List UInt8=>x.2) l (one l >>= fun x=>eP one n false x.2 >>= fun y=>pure (x.1::y.1,y.2)):=fun l=>
    PLe.bind (h l) fun x=>PLe.bind (GY h n false x.2) fun y=>PLe.yes (Nat.le_refl _)
   cases first with
   |true=>exact key l
   |false=>exact PLe.bind (qh _ _) fun l=>key l
theorem GZ{α:Type}{one:List UInt8→Except Nat (α×List UInt8)}(h:∀l,PLe (fun x:α×List UInt8=>x.2) l (one l))(l:List UInt8):PLe (fun x:List α×List UInt8=>x.2) l (eU one l):=by
 unfold eU
 exact PLe.bind (qh _ _) fun l=>GY h 16 true l
theorem QT(l:List UInt8):PLe (fun x:Sta×List UInt8=>x.2) l (g_ l):=by
 unfold g_
 repeat' first
  |(refine PLe.bind (BA _ _) fun x=> ?_;obtain⟨_,_⟩:=x;dsimp only)
  |(refine PLe.bind (FP _) fun x=> ?_;obtain⟨_,_⟩:=x;dsimp only)
  |(refine PLe.bind (oC _) fun x=> ?_;obtain⟨_,_⟩:=x;dsimp only)
  |(refine PLe.bind (qh _ _) fun x=> ?_)
  |exact PLe.yes (Nat.le_refl _)
theorem QU(m:Mg)(l:List UInt8)(f:Fld):PLe (fun x:Mg×List UInt8=>x.2) l (pF m l f):=by
 cases f
 case names=>exact(GZ oC l).map fun _=>rfl
 case aV=>exact(GZ FP l).map fun _=>rfl
 case qid=>exact(FP l).map fun _=>rfl
 case data=>exact(OH l).map fun _=>rfl
 case stat=>exact(QT l).map fun _=>rfl
 case version=>exact(oC l).map fun _=>rfl
 case uname=>exact(oC l).map fun _=>rfl
 case bF=>exact(oC l).map fun _=>rfl
 case bH=>exact(oC l).map fun _=>rfl
 case name=>exact(oC l).map fun _=>rfl
 all_goals exact(BA _ l).map fun _=>rfl
theorem L9:∀(fs:List Fld) (m:Mg) (l:List UInt8),PLe (fun x:Mg×List UInt8=>x.2) l (m_ fs m l)
 | [],m,l=>PLe.yes (Nat.le_refl _)
 |f::fs,m,l=>by
  rw[zJ]
  exact PLe.bind (qh _ _) fun l=>PLe.bind (QU m l f) fun x=>L9 fs x.1 x.2
theorem L_{l:List UInt8}{n:Nat}(h:jX l= .error n):n≤l.length:=by
 cases hk:kindOf (l.takeWhile isLet)with
 |none=>
  rw[xO hk]at h
  injection h with h
  omega
 |some k=>
  obtain⟨-, -,fs,hf⟩:=mM hk
  rw[xP hk hf]at h
  have key:PLe (fun _:Mg=>([]:List UInt8)) (l.drop (l.takeWhile isLet).length) (dQ [32] (l.drop (l.takeWhile isLet).length) >>= fun l=>fZ 65535 l >>= fun x=>m_ fs (head k x.1) x.2 >>= fun y=>if y.2=[]then .ok y.1 else .error y.2.length):=
   PLe.bind (qh _ _) fun l=>PLe.bind (BA _ _) fun x=>PLe.bind (L9 _ _ _) fun y=>by
    split
    ·exact PLe.yes (Nat.zero_le _)
    ·exact PLe.no (Nat.le_refl _)
  have:=key.2 n h
  rw[List.length_drop]at this
  omega
theorem BD(n:Int)(w:World):(Instr.typeAssert (.iface 111 (.int .i64 n)) 20 111 true).run Tryz.prog w= .ok (.tuple #[.int .i64 n,.bool true]) w:=by kernel_rfl
theorem tu(q q3 q4:Nat)(d3:q≠q3)(d4:q≠q4)(d5:q3≠q4)(vm:Mg)(vn vq vd:Value)(x y n:Int)(older:List PanicEntry)(w:World)(h2:aK w q vm vn vq vd)(h3:Blk w (q3) 3 #[.int .i64 x])(h4:Blk w (q4) 42 #[.int .i64 y])
  (hov:over (aF vm vn vq vd).toArray 0 (mgN (head 0 0))=(mgN (head 0 0)).toArray):
  CallsD Tryz.prog 57 #[.pointer (some ⟨q,0,none⟩),.pointer (some ⟨q3,0,none⟩),.pointer (some ⟨q4,0,none⟩)] (.panicking ({v:= .iface 111 (.int .i64 n),recovered:=false}::older)) w fun e u' w'=>
   e= .returned (.tuple #[])∧u'= .panicking ({v:= .iface 111 (.int .i64 n),recovered:=true}::older)∧aK w' q (head 0 0) (.slice none 0 0) (.slice none 0 0) (.slice none 0 0)∧Blk w' (q3) 3 #[.int .i64 n]∧Blk w' (q4) 42 #[.int .i64 34]∧Off (fun i=>i=q∨i=q3∨i=q4) w w':=by
 have H2:=hid h2
 have H3:=hid h3
 have H4:=hid h4
 have HOV:=hid hov
 clear h2 h3 h4 hov
 refine callsD_of_wpS Tryz.func57 rfl fun c₀ cs hu=> ?_
 apply wpS_seq
 apply wpS_region
 simp[wpOpsS,go_sem,recoverD,hu,Tryz.ntmps57,Exit.thenS]
 have key:∀V p1 p2 p3:Value, #[p1,p2,p3]++((Array.replicate 11 undef).setIfInBounds 3 V)= #[p1,p2,p3,undef,undef,undef,V,undef,undef,undef,undef,undef,undef,undef]:=fun _ _ _ _=>rfl
 rw[key]
 clear key
 have hta:=BD n
 refine wpS_of_wp ?_
 go_wp2_with(refine dA H2.out 0 (mgN (head 0 0)) _ HOV.out (Nat.le_refl 36) (bT _ rfl rfl rfl) rfl _ _ _ rfl rfl rfl aB ?_;intro w1 hs ho;have HM:=hid hs;have HO:=hid (ho (fun i=>i=q) rfl w (Off.refl _ _));clear hs ho;have k3:w1.cell? ⟨q3,0,none⟩=some (.int .i64 x):=Blk.cell (HO.out.blk H3.out (fun h=>d3 h.symm)) 0;have f3:w1.frozen? ⟨q3,0,none⟩=false:=Blk.frozen (HO.out.blk H3.out (fun h=>d3 h.symm)) 0;have k4:w1.cell? ⟨q4,0,none⟩=some (.int .i64 y):=Blk.cell (HO.out.blk H4.out (fun h=>d4 h.symm)) 0;have f4:w1.frozen? ⟨q4,0,none⟩=false:=Blk.frozen (HO.out.blk H4.out (fun h=>d4 h.symm)) 0)
 have B3:=HO.out.blk H3.out (fun h=>d3 h.symm)
 have B4:=HO.out.blk H4.out (fun h=>d4 h.symm)
 have HF:=hid (show aK ((w1.setCell ⟨q3,0,none⟩ (.int .i64 n)).setCell ⟨q4,0,none⟩ (.int .i64 34)) q (head 0 0) (.slice none 0 0) (.slice none 0 0) (.slice none 0 0)∧Blk ((w1.setCell ⟨q3,0,none⟩ (.int .i64 n)).setCell ⟨q4,0,none⟩ (.int .i64 34)) (q3) 3 #[.int .i64 n]∧Blk ((w1.setCell ⟨q3,0,none⟩ (.int .i64 n)).setCell ⟨q4,0,none⟩ (.int .i64 34)) (q4) 42 #[.int .i64 34]∧Off (fun i=>i=q∨i=q3∨i=q4) w ((w1.setCell ⟨q3,0,none⟩ (.int .i64 n)).setCell ⟨q4,0,none⟩ (.int .i64 34))from
  ⟨Blk.far (Blk.far HM.out d3 _) d4 _,Blk.far (Blk.aW B3 0 _) d5 _,Blk.aW (Blk.far B4 (fun h=>d5 h.symm) _) 0 _,((HO.out.mono (fun i _ hi=> .inl hi)).setCell (.inr (.inl rfl)) _).setCell (.inr (.inr rfl)) _⟩)
 generalize(w1.setCell ⟨q3,0,none⟩ (.int .i64 n)).setCell ⟨q4,0,none⟩ (.int .i64 34)=wz at HF⊢
 clear k3 f3 k4 f4 hta B3 B4 HM HO H2 H3 H4 HOV
 cases c₀
 simp_all [bodyPostS,results,Tryz.results57]
 exact HF.out
theorem uo(p1 p2 p3:Addr)(w:World):
  CallsD Tryz.prog 57 #[.pointer (some p1),.pointer (some p2),.pointer (some p3)] .returning w fun e u' w'=>e= .returned (.tuple #[])∧u'= .returning∧w'=w:=by
 refine callsD_of_wpS Tryz.func57 rfl fun c₀ cs hu=> ?_
 apply wpS_seq
 apply wpS_region
 simp[wpOpsS,go_sem,recoverD,hu,Tryz.ntmps57,Exit.thenS]
 have key:∀V p1 p2 p3:Value, #[p1,p2,p3]++((Array.replicate 11 undef).setIfInBounds 3 V)= #[p1,p2,p3,undef,undef,undef,V,undef,undef,undef,undef,undef,undef,undef]:=fun _ _ _ _=>rfl
 rw[key]
 clear key
 refine wpS_of_wp ?_
 go_wp2
 cases c₀
 simp_all [bodyPostS,results,Tryz.results57]
theorem OL.lists{w:World}{base:Nat}{m:Mg}{vn vq vd:Value}(h:OL w base m vn vq vd):Lists w w.heap.size m vn vq vd:=⟨iW.iH h.n,lX.iH h.q,Bys.iH h.d⟩
theorem OL.down{w:World}{base base':Nat}{m:Mg}{vn vq vd:Value}(h:OL w base m vn vq vd)(hb:base'≤base):OL w base' m vn vq vd:=⟨iw h.n hb,iw h.q hb,iw h.d hb⟩
theorem BF(m:Mg):(enc m).2=(refused m).1:=by
 unfold enc
 split
 ·rename_i h
  unfold refused
  rw[h]
 ·split
  ·rename_i h;exact h.symm
  ·rfl
theorem over_self(m:Mg)(vn vq vd:Value):over (aF m vn vq vd).toArray 0 (aF m vn vq vd)=(aF m vn vq vd).toArray:=by kernel_rfl
theorem Jr(m:Mg)(vn vq vd:Value):over (aF m vn vq vd).toArray 0 (mgN (head 0 0))=(mgN (head 0 0)).toArray:=by kernel_rfl
theorem OI{w:World}{z z1 z2:Nat}{cm ci ce:Array Value}(hm:Blk w z 41 cm)(hi:Blk w z1 3 ci)(he:Blk w z2 42 ce){i:Nat}{cur:Array Value}{fr:Nat×Nat}{e:TypeId}(hs:i=z∨i=z1∨i=z2)(ht:e=9∨e=37∨e=5)(hh:w.heap[i]? =some (Obj.cells cur e fr)):False:=by
 rcases hs with rfl|rfl|rfl
 ·exact Blk.noT hm (by rcases ht with rfl|rfl|rfl<;>decide) _ _ _ rfl hh
 ·exact Blk.noT hi (by rcases ht with rfl|rfl|rfl<;>decide) _ _ _ rfl hh
 ·exact Blk.noT he (by rcases ht with rfl|rfl|rfl<;>decide) _ _ _ rfl hh
def V_(r:Mg×Nat×Nat)(w:World)(e:Ending)(w':World):Prop:=
 (∃vn vq vd,e= .returned (.tuple #[iM r.1 vn vq vd,.int .i64 (r.2.1:Int),.int .i64 (r.2.2:Int)])∧OL w' w.heap.size r.1 vn vq vd)∧Below w.heap.size w w'
theorem oD{tmps:Array Value}{w:World}{q q3 q4:Nat}{m:Mg}{vn vq vd:Value}{n er:Int}(h2:tmps.getD 2 undef= .pointer (some ⟨q,0,none⟩))(h3:tmps.getD 3 undef= .pointer (some ⟨q3,0,none⟩))(h4:tmps.getD 4 undef= .pointer (some ⟨q4,0,none⟩))(hk:aK w q m vn vq vd)(k3:Blk w q3 3 #[.int .i64 n])(k4:Blk w q4 42 #[.int .i64 er]):
  (results Tryz.f20 tmps).run Tryz.prog w= .ok (.tuple #[iM m vn vq vd,.int .i64 n,.int .i64 er]) w:=by
 have h2':tmps[2]?.getD undef= .pointer (some ⟨q,0,none⟩):=by simpa using h2
 have h3':tmps[3]?.getD undef= .pointer (some ⟨q3,0,none⟩):=by simpa using h3
 have h4':tmps[4]?.getD undef= .pointer (some ⟨q4,0,none⟩):=by simpa using h4
 have hl7:(loadVar 41 ⟨q,0,none⟩).run Tryz.prog w= .ok (iM m vn vq vd) w:=
  run_loadVar_mid w q 0 41 (aF m vn vq vd) _ (Blk.range hk 0 _ (by simp)) Tryz.underlying41 rfl aB
 have c3:w.cell? ⟨q3,0,none⟩=some (.int .i64 n):=k3.cell 0
 have c4:w.cell? ⟨q4,0,none⟩=some (.int .i64 er):=k4.cell 0
 have l3:(loadVar 3 ⟨q3,0,none⟩).run Tryz.prog w= .ok (.int .i64 n) w:=by go_simp
 have l4:(loadVar 42 ⟨q4,0,none⟩).run Tryz.prog w= .ok (.int .i64 er) w:=by go_simp
 simp[results,Tryz.results20,h2',h3',h4',asAddr,hl7,l3,l4]
structure QV(w0 w:World)(z z1 z2 z3:Nat)(s:ByteArray):Prop where
 up:Below z w0 w
 sz:w0.heap.size=z
 e1:z1=z+1
 e2:z2=z+2
 e3:z3=z+3
 m:aK w z (head 0 0) (.slice none 0 0) (.slice none 0 0) (.slice none 0 0)
 i:Blk w z1 3 #[.int .i64 0]
 e:Blk w z2 42 #[.int .i64 0]
 s:ScS w z3 s 0
 h8:8≤z
 se:SE w
 rd:Ready w
 ws:w.heap.size=z+4
theorem QV.start(s:ByteArray)(w:World)(hse:SE w)(hrd:Ready w)(hz:s.size≤16000000):
  QV w ((((w.alloc (.cells (mgN (head 0 0)).toArray 41)).alloc (.cells #[.int .i64 0] 3)).alloc (.cells #[.int .i64 0] 42)).alloc (.cells #[.string s,.int .i64 0] 114)) w.heap.size (w.heap.size+1) (w.heap.size+1+1) (w.heap.size+1+1+1) s:=by
 obtain⟨w1,hw1⟩:∃w1,w1=w.alloc (.cells (mgN (head 0 0)).toArray 41):=⟨_,rfl⟩
 obtain⟨w2,hw2⟩:∃w2,w2=w1.alloc (.cells #[.int .i64 0] 3):=⟨_,rfl⟩
 obtain⟨w3,hw3⟩:∃w3,w3=w2.alloc (.cells #[.int .i64 0] 42):=⟨_,rfl⟩
 obtain⟨w4,hw4⟩:∃w4,w4=w3.alloc (.cells #[.string s,.int .i64 0] 114):=⟨_,rfl⟩
 have z1:w1.heap.size=w.heap.size+1:=by rw[hw1];exact World.size_alloc _ _
 have z2:w2.heap.size=w.heap.size+1+1:=by rw[hw2,World.size_alloc,z1]
 have z3:w3.heap.size=w.heap.size+1+1+1:=by rw[hw3,World.size_alloc,z2]
 rw[←hw1,←hw2,←hw3,←hw4]
 have hup:Below w.heap.size w w4:=by
  rw[hw4,hw3,hw2,hw1]
  exact((((Below.refl _ _).alloc (Nat.le_refl _) _).alloc (by rw[←hw1];omega) _).alloc (by rw[←hw1,←hw2];omega) _).alloc (by rw[←hw1,←hw2,←hw3];omega) _
 refine⟨hup,rfl,rfl,rfl,rfl, ?_, ?_, ?_,⟨?_,Nat.zero_le _,by omega⟩,hrd.eight,hse.low hup hrd.eight,hrd.below hup (Nat.le_refl _),by rw[hw4,World.size_alloc,z3]⟩
 ·rw[hw4,hw3,hw2,hw1];exact(((Blk.new w _ _).alloc _).alloc _).alloc _
 ·rw[hw4,hw3,hw2,←z1];exact((Blk.new w1 _ _).alloc _).alloc _
 ·rw[hw4,hw3,←z2];exact(Blk.new w2 _ _).alloc _
 ·rw[hw4,←z3];exact Blk.new w3 _ _
theorem DR(s:ByteArray)(w:World)(hse:SE w)(hrd:Ready w)(hz:s.size≤16000000):Calls Tryz.prog 20 #[.string s] w (V_ (parseM s.data.toList) w):=by
 have hmf:=iF
 have P0:=hid (QV.start s w hse hrd hz)
 have HZ:=hid hz
 clear hse hrd hz
 go_enter_defers Tryz.func20,Tryz.ntmps20
 go_upto_region 3 with(fail)
 change Code.wp _ _ _ _ ((((al w (mgN (head 0 0)) 41).alloc (.cells #[.int .i64 0] 3)).alloc (.cells #[.int .i64 0] 42)).alloc (.cells #[.string s,.int .i64 0] 114))
 generalize(((al w (mgN (head 0 0)) 41).alloc (.cells #[.int .i64 0] 3)).alloc (.cells #[.int .i64 0] 42)).alloc (.cells #[.string s,.int .i64 0] 114)=w4 at P0⊢
 generalize w.heap.size+1+1+1=z3 at P0⊢
 generalize w.heap.size+1+1=z2 at P0⊢
 generalize w.heap.size+1=z1 at P0⊢
 generalize hz:w.heap.size=z at P0⊢
 clear hz hmf
 have h8:=P0.out.h8
 have he3:=P0.out.e3
 have HMS:=hid (yQ P0.out.se P0.out.rd (show 8≤z3 by omega) P0.out.s)
 clear h8 he3
 go_wp2_with fail
 refine HMS.out.mono ?_
 rintro e w5 ⟨ho,hr⟩
 have HO5:=hid ho
 clear ho HMS
 cases hp:jX s.data.toList with
 |error ne=>
  rw[hp]at hr
  have hr:e= .panicked [{v:= .iface 111 (.int .i64 ((s.size:Int)-(ne:Int))),recovered:=false}]:=hr
  subst hr
  have HR:=hid (show parseM s.data.toList=(head 0 0,s.data.toList.length-ne,34)from by unfold parseM;rw[hp])
  have hne:=L_ hp
  have HNE:=hid hne
  clear hp hne
  have HM5:=hid (HO5.out.blk P0.out.m (fun h=>by have h:z=z3:=h;have:=P0.out.e3;omega))
  have HI5:=hid (HO5.out.blk P0.out.i (fun h=>by have h:z1=z3:=h;have:=P0.out.e3;have:=P0.out.e1;omega))
  have HE5:=hid (HO5.out.blk P0.out.e (fun h=>by have h:z2=z3:=h;have:=P0.out.e3;have:=P0.out.e2;omega))
  have HD:=hid (show z≠z1∧z≠z2∧z1≠z2 from by have:=P0.out.e1;have:=P0.out.e2;omega)
  show bodyPostD _ _ _ _ _ _
  refine leaves_cons (f:=57) (args:= #[.pointer (some ⟨z,0,none⟩),.pointer (some ⟨z1,0,none⟩),.pointer (some ⟨z2,0,none⟩)]) (by simp) (by simp[go_sem]) ?_
  refine(tu z z1 z2 HD.out.1 HD.out.2.1 HD.out.2.2 (head 0 0) _ _ _ 0 0 _ _ w5 HM5.out HI5.out HE5.out (bW _ 0 0 _ _ _)).mono ?_
  rintro e u' w6 ⟨rfl,rfl,hm,hi,he,ho⟩
  refine⟨_,oD (q:=z) (q3:=z1) (q4:=z2) rfl rfl rfl hm hi he, ?_⟩
  rw[HR.out]
  have hw:=P0.out.ws
  have hsz:=P0.out.sz
  have hlen:s.data.toList.length=s.size:=by rw[Array.length_toList];rfl
  refine⟨⟨_,_,_, ?_,OL.nil_ ..⟩, ?_⟩
  ·have hne:=HNE.out
   rw[hlen]at hne
   have hq:(s.size:Int)-(ne:Int)=((s.data.toList.length-ne:Nat):Int):=by rw[hlen];omega
   rw[hq]
   rfl
  ·have hb5:Below z w4 w5:=HO5.out.below (fun k hk=>by have hk:k=z3:=hk;have:=P0.out.e3;omega) (by omega)
   have hb6:Below z w5 w6:=ho.below (fun k hk=>by have:=P0.out.e1;have:=P0.out.e2;omega) (by have:=hb5.size;omega)
   rw[hsz]
   exact(P0.out.up.trans hb5).trans hb6
 |ok m=>
  rw[hp]at hr
  obtain⟨vn,vq,vd,rfl,hol⟩:=hr
  have HPL:=hid (L8 hp)
  have HQ:=hid (show parseM s.data.toList=(if(refused m).1=0 then(m,0,0)else(head 0 0,s.data.toList.length,(refused m).1))from by unfold parseM;rw[hp])
  have HM5:=hid (HO5.out.blk P0.out.m (fun h=>by have h:z=z3:=h;have:=P0.out.e3;omega))
  have HI5:=hid (HO5.out.blk P0.out.i (fun h=>by have h:z1=z3:=h;have:=P0.out.e3;have:=P0.out.e1;omega))
  have HE5:=hid (HO5.out.blk P0.out.e (fun h=>by have h:z2=z3:=h;have:=P0.out.e3;have:=P0.out.e2;omega))
  have HOL:=hid hol
  have hb5:Below z w4 w5:=HO5.out.below (fun k hk=>by have hk:k=z3:=hk;have:=P0.out.e3;omega) (by have:=P0.out.ws;omega)
  have HB5:=hid (P0.out.up.trans hb5)
  have HR5:=hid (P0.out.rd.low hb5 P0.out.h8)
  clear hp hol hb5
  go_upto_region 4 with(refine dA HM5.out 0 (aF m vn vq vd) _ (bW ..) (Nat.le_refl 36) (bT _ (bG HOL.out.n) (bG HOL.out.q) (bG HOL.out.d)) rfl _ _ _ rfl rfl rfl aB ?_;intro w6 hs ho;have HM6:=hid (show aK w6 z m vn vq vd from hs);have HO6:=hid (ho (fun i=>i=z) rfl w5 (Off.refl _ _));clear hs ho)
  have HB6:=hid (show Below z w w6 from HB5.out.trans (HO6.out.below (fun k hk=>by have hk:k=z:=hk;omega) (by have:=HB5.out.size;have:=P0.out.sz;omega)))
  have HI6:=hid (HO6.out.blk HI5.out (fun h=>by have h:z1=z:=h;have:=P0.out.e1;omega))
  have HE6:=hid (HO6.out.blk HE5.out (fun h=>by have h:z2=z:=h;have:=P0.out.e2;omega))
  have qZ:=hid (HOL.out.qp HM5.out HO6.out)
  have HR6:=hid (HR5.out.low (HO6.out.below (B:=z) (fun k hk=>by have hk:k=z:=hk;omega) (by have:=HB5.out.size;have:=P0.out.sz;omega)) P0.out.h8)
  have HSM:=hid (show m.small from fun f=>by have h1:=HPL.out.2 f;have h2:=HZ.out;have h3:s.data.toList.length=s.size:=(by rw[Array.length_toList];rfl);omega)
  have HEN:=hid (oh m vn vq vd w6 HPL.out.1 qZ.out.lists HR6.out HSM.out)
  clear HM5 HO6 HOL HI5 HE5 HR5 HB5
  go_wp2_with(refine wlw HM6.out 0 (aF m vn vq vd) rfl rfl _ _ rfl rfl _ Tryz.underlying41 rfl aB ?_)
  refine HEN.out.mono ?_
  rintro e w7 ⟨⟨v,rfl, -⟩,hb⟩
  have HM7:=hid (Blk.below HM6.out hb (Blk.lt HM6.out))
  have HI7:=hid (Blk.below HI6.out hb (Blk.lt HI6.out))
  have HE7:=hid (Blk.below HE6.out hb (Blk.lt HE6.out))
  have FQ:=hid (qZ.out.below hb)
  have HB7:=hid (HB6.out.trans (hb.mono (by have:=Blk.lt HM6.out;omega)))
  clear hb HM6 HI6 HE6 qZ HB6 HR6 HEN
  rw[BF m]
  have d12:z1≠z2:=by have:=P0.out.e1;have:=P0.out.e2;omega
  have d21:z2≠z1:=fun h=>d12 h.symm
  by_cases hz:(refused m).1=0
  ·rw[hz]
   have qm:=hid (show parseM s.data.toList=(m,0,0)from by rw[HQ.out,if_pos hz])
   clear hz
   have k3:w7.cell? ⟨z1,0,none⟩=some (.int .i64 0):=Blk.cell HI7.out 0
   have f3:w7.frozen? ⟨z1,0,none⟩=false:=Blk.frozen HI7.out 0
   have k4:w7.cell? ⟨z2,0,none⟩=some (.int .i64 0):=Blk.cell HE7.out 0
   have f4:w7.frozen? ⟨z2,0,none⟩=false:=Blk.frozen HE7.out 0
   go_wp2_with(first|(refine wlw HM7.out 0 (aF m vn vq vd) rfl rfl _ _ rfl rfl _ Tryz.underlying41 rfl aB ?_)|(refine dA HM7.out 0 (aF m vn vq vd) _ (over_self ..) (Nat.le_refl 36) (bT _ (bG FQ.out.n) (bG FQ.out.q) (bG FQ.out.d)) rfl _ _ _ rfl rfl rfl aB ?_;intro w8 hs ho;have HM8:=hid (show aK w8 z m vn vq vd from hs);have HO8:=hid (ho (fun i=>i=z) rfl w7 (Off.refl _ _));clear k3 f3 k4 f4 hs ho;have HI8:=hid (HO8.out.blk HI7.out (fun h=>by have h:z1=z:=h;have:=P0.out.e1;omega));have HE8:=hid (HO8.out.blk HE7.out (fun h=>by have h:z2=z:=h;have:=P0.out.e2;omega));have k3:w8.cell? ⟨z1,0,none⟩=some (.int .i64 0):=Blk.cell HI8.out 0;have f3:w8.frozen? ⟨z1,0,none⟩=false:=Blk.frozen HI8.out 0;have k4:w8.cell? ⟨z2,0,none⟩=some (.int .i64 0):=Blk.cell HE8.out 0;have f4:w8.frozen? ⟨z2,0,none⟩=false:=Blk.frozen HE8.out 0))
   have HW:=hid (show aK ((w8.setCell ⟨z1,0,none⟩ (.int .i64 0)).setCell ⟨z2,0,none⟩ (.int .i64 0)) z m vn vq vd∧Blk ((w8.setCell ⟨z1,0,none⟩ (.int .i64 0)).setCell ⟨z2,0,none⟩ (.int .i64 0)) z1 3 #[.int .i64 0]∧Blk ((w8.setCell ⟨z1,0,none⟩ (.int .i64 0)).setCell ⟨z2,0,none⟩ (.int .i64 0)) z2 42 #[.int .i64 0]∧Off (fun i=>i=z∨i=z1∨i=z2) w7 ((w8.setCell ⟨z1,0,none⟩ (.int .i64 0)).setCell ⟨z2,0,none⟩ (.int .i64 0))from
    ⟨Blk.far (Blk.far HM8.out (by have:=P0.out.e1;dsimp only;omega) _) (by have:=P0.out.e2;dsimp only;omega) _,Blk.far (Blk.aW HI8.out 0 _) d12 _,Blk.aW (Blk.far HE8.out d21 _) 0 _,((HO8.out.mono (fun i _ hi=> .inl hi)).setCell (.inr (.inl rfl)) _).setCell (.inr (.inr rfl)) _⟩)
   generalize(w8.setCell ⟨z1,0,none⟩ (.int .i64 0)).setCell ⟨z2,0,none⟩ (.int .i64 0)=w9 at HW⊢
   clear k3 f3 k4 f4 HM8 HI8 HE8 HO8
   show bodyPostD _ _ _ _ _ _
   refine leaves_cons (f:=57) (args:= #[.pointer (some ⟨z,0,none⟩),.pointer (some ⟨z1,0,none⟩),.pointer (some ⟨z2,0,none⟩)]) (by simp) (by simp[go_sem]) ?_
   refine(uo _ _ _ _).mono ?_
   rintro e u' w'' ⟨rfl,rfl,rfl⟩
   refine⟨_,oD (q:=z) (q3:=z1) (q4:=z2) rfl rfl rfl HW.out.1 HW.out.2.1 HW.out.2.2.1, ?_⟩
   rw[qm.out]
   have hb8:Below z w7 w'':=HW.out.2.2.2.below (fun k hk=>by have:=P0.out.e1;have:=P0.out.e2;omega) (by have:=Blk.lt HM7.out;omega)
   have hsz:=P0.out.sz
   refine⟨⟨_,_,_,rfl,((FQ.out.off HW.out.2.2.2 (fun i cur fr e hi he hh=>OI HM7.out HI7.out HE7.out hi he hh)).down (by have:=P0.out.ws;omega))⟩,by rw[hsz];exact HB7.out.trans hb8⟩
  ·have qm:=hid (show parseM s.data.toList=(head 0 0,s.data.toList.length,(refused m).1)from by rw[HQ.out,if_neg hz])
   have HLEN:=hid (show(s.data.toList.length:Int)=(s.size:Int)from by rw[Array.length_toList];rfl)
   have hbe:(((refused m).1:Int) != 0)=true:=by rw[bne_iff_ne,ne_eq];omega
   generalize her:((refused m).1:Int)=er at hbe⊢
   have HER:=hid her
   clear her hz
   have k3:w7.cell? ⟨z1,0,none⟩=some (.int .i64 0):=Blk.cell HI7.out 0
   have f3:w7.frozen? ⟨z1,0,none⟩=false:=Blk.frozen HI7.out 0
   have k4:w7.cell? ⟨z2,0,none⟩=some (.int .i64 0):=Blk.cell HE7.out 0
   have f4:w7.frozen? ⟨z2,0,none⟩=false:=Blk.frozen HE7.out 0
   go_wp2_with(refine dA HM7.out 0 (mgN (head 0 0)) _ (Jr ..) (Nat.le_refl 36) (bT _ rfl rfl rfl) rfl _ _ _ rfl rfl rfl aB ?_;intro w8 hs ho;have HM8:=hid (show aK w8 z (head 0 0) (.slice none 0 0) (.slice none 0 0) (.slice none 0 0)from hs);have HO8:=hid (ho (fun i=>i=z) rfl w7 (Off.refl _ _));clear k3 f3 k4 f4 hs ho;have HI8:=hid (HO8.out.blk HI7.out (fun h=>by have h:z1=z:=h;have:=P0.out.e1;omega));have HE8:=hid (HO8.out.blk HE7.out (fun h=>by have h:z2=z:=h;have:=P0.out.e2;omega));have k3:w8.cell? ⟨z1,0,none⟩=some (.int .i64 0):=Blk.cell HI8.out 0;have f3:w8.frozen? ⟨z1,0,none⟩=false:=Blk.frozen HI8.out 0;have k4:w8.cell? ⟨z2,0,none⟩=some (.int .i64 0):=Blk.cell HE8.out 0;have f4:w8.frozen? ⟨z2,0,none⟩=false:=Blk.frozen HE8.out 0)
   have HW:=hid (show aK ((w8.setCell ⟨z1,0,none⟩ (.int .i64 (s.size:Int))).setCell ⟨z2,0,none⟩ (.int .i64 er)) z (head 0 0) (.slice none 0 0) (.slice none 0 0) (.slice none 0 0)∧Blk ((w8.setCell ⟨z1,0,none⟩ (.int .i64 (s.size:Int))).setCell ⟨z2,0,none⟩ (.int .i64 er)) z1 3 #[.int .i64 (s.size:Int)]∧Blk ((w8.setCell ⟨z1,0,none⟩ (.int .i64 (s.size:Int))).setCell ⟨z2,0,none⟩ (.int .i64 er)) z2 42 #[.int .i64 er]∧Off (fun i=>i=z∨i=z1∨i=z2) w7 ((w8.setCell ⟨z1,0,none⟩ (.int .i64 (s.size:Int))).setCell ⟨z2,0,none⟩ (.int .i64 er))from
    ⟨Blk.far (Blk.far HM8.out (by have:=P0.out.e1;dsimp only;omega) _) (by have:=P0.out.e2;dsimp only;omega) _,Blk.far (Blk.aW HI8.out 0 _) d12 _,Blk.aW (Blk.far HE8.out d21 _) 0 _,((HO8.out.mono (fun i _ hi=> .inl hi)).setCell (.inr (.inl rfl)) _).setCell (.inr (.inr rfl)) _⟩)
   generalize(w8.setCell ⟨z1,0,none⟩ (.int .i64 (s.size:Int))).setCell ⟨z2,0,none⟩ (.int .i64 er)=w9 at HW⊢
   clear k3 f3 k4 f4 HM8 HI8 HE8 HO8
   show bodyPostD _ _ _ _ _ _
   refine leaves_cons (f:=57) (args:= #[.pointer (some ⟨z,0,none⟩),.pointer (some ⟨z1,0,none⟩),.pointer (some ⟨z2,0,none⟩)]) (by simp) (by simp[go_sem]) ?_
   refine(uo _ _ _ _).mono ?_
   rintro e u' w'' ⟨rfl,rfl,rfl⟩
   refine⟨_,oD (q:=z) (q3:=z1) (q4:=z2) rfl rfl rfl HW.out.1 HW.out.2.1 HW.out.2.2.1, ?_⟩
   rw[qm.out]
   have hb8:Below z w7 w'':=HW.out.2.2.2.below (fun k hk=>by have:=P0.out.e1;have:=P0.out.e2;omega) (by have:=Blk.lt HM7.out;omega)
   have hsz:=P0.out.sz
   refine⟨⟨_,_,_, ?_,OL.nil_ ..⟩,by rw[hsz];exact HB7.out.trans hb8⟩
   show Ending.returned (.tuple #[_,.int .i64 (s.size:Int),.int .i64 er])=Ending.returned (.tuple #[_,.int .i64 (s.data.toList.length:Int),.int .i64 ((refused m).1:Int)])
   rw[HLEN.out,HER.out]
end Go.Proofs.YtkblmloobkiloaaGreatDoor
