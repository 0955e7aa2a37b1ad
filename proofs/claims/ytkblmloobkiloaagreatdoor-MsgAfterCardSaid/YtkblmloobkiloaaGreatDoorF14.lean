/-
  MT8 MP1: what the laws of package msg need of them.
-/
import Derived.Test.YtkblmloobkiloaaGreatDoorF00
import Derived.Test.YtkblmloobkiloaaGreatDoorF13
import Derived.WalkLawsBesides
namespace Go.Proofs.YtkblmloobkiloaaGreatDoor
open Go.Lib (hid)
open Go.RowKit
open Go.Lib (decDigits)
theorem Lu{m:Mg}{fs:List Fld}(hk:bQ m.kind=some fs)(h:(refused m).1=0):(enc m).1.length=m.size fs∧fs.all m.good=true:=by
 have hr:=h
 unfold refused at hr
 rw[hk]at hr
 dsimp only at hr
 by_cases hg:fs.all m.good=true
 ·refine⟨?_,hg⟩
  unfold enc
  rw[hk]
  dsimp only
  rw[if_pos h]
  dsimp only
  simp only[List.length_append,bK,vK,Mg.size]
 ·rw[if_neg hg]at hr
  cases hr
theorem Dx{m:Mg}(h:(refused m).1≠0):(enc m).1=[]∧qA m=[]:=by
 unfold enc qA
 cases hk:bQ m.kind with
 |none=>exact⟨rfl,rfl⟩
 |some fs=>
  dsimp only
  rw[if_neg h,if_neg h]
  exact⟨rfl,rfl⟩
theorem Dy{m:Mg}(h:(refused m).1=0):∃fs,bQ m.kind=some fs:=by
 unfold refused at h
 cases hk:bQ m.kind with
 |none=>rw[hk]at h;cases h
 |some fs=>exact⟨fs,rfl⟩
theorem Dz(f:Fld):f.jJ.size≤7:=by cases f<;>decide
theorem Ja(k:Nat):(fO k).length≤8:=by
 unfold fO
 split<;>simp
set_option maxRecDepth 100000 in
set_option maxHeartbeats 6400000 in
theorem P5(m:Mg)(vn vq vd:Value)(w:World)(ho:m.ok)(hl:Lists w w.heap.size m vn vq vd)(hr:Ready w)(ht:TP w)(hz:m.small)(hp:∀fs,bQ m.kind=some fs→∀f∈fs,P6 m f):
  Calls Tryz.prog 21 #[iM m vn vq vd] w fun e w'=>e= .returned (.string (ofL (qA m)))∧Below w.heap.size w w':=by
 obtain⟨wq,hwq⟩:∃wq,wq=w.alloc (.cells (aF m vn vq vd).toArray 41):=⟨_,rfl⟩
 have oz:Below w.heap.size w wq:=by rw[hwq];exact(Below.refl _ _).alloc (Nat.le_refl _) _
 have HQ:=hid (show aK wq w.heap.size m vn vq vd from by rw[hwq];exact Blk.new w _ _)
 have HSZ:=hid (xG m vn vq vd wq ho ((hl.below oz).more oz.size) (hr.below oz (Nat.le_refl _)) hz)
 have HB:=hid oz
 have HL:=hid (hl.below oz)
 have H8:=hid hr.eight
 have HT:=hid (ht.low oz hr.eight)
 have HO:=hid ho
 have HZ:=hid hz
 have HPP:=hid hp
 clear ho hl hr ht hz oz hp
 unfold iM
 go_enter Tryz.func21,Tryz.ntmps21
 go_upto_region 1 with(fail)
 change Code.wp _ _ _ _ (w.alloc (.cells (aF m vn vq vd).toArray 41))
 rw[←hwq]
 clear hwq
 generalize hq:w.heap.size=q at HQ HB HL H8⊢
 have HQQ:=hid hq;clear hq
 go_wp2_with(refine wlw HQ.out 0 (aF m vn vq vd) rfl rfl _ _ rfl rfl _ Tryz.underlying41 rfl aB ?_)
 refine HSZ.out.mono ?_
 rintro e w1 ⟨rfl,hb⟩
 have HB1:=hid (HB.out.trans (hb.mono (by have:=Blk.lt HQ.out;omega)))
 have HQ1:=hid (Blk.below HQ.out hb (Blk.lt HQ.out))
 have HL1:=hid (HL.out.below (hb.mono (by have:=Blk.lt HQ.out;omega)))
 have HT1:=hid (HT.out.low hb (by have:=Blk.lt HQ.out;have:=H8.out;omega))
 clear hb HSZ HQ HB HL HT
 by_cases href:(refused m).1=0
 ·obtain⟨fs,hk⟩:=Dy href
  have HPQ:=hid (HPP.out fs hk)
  clear HPP
  obtain⟨hlen,hall⟩:=Lu hk href
  have HTX:=hid (GH hk href)
  have EJ:=hid hall
  have hne:(((enc m).1.length:Int)==0)=false:=by
   rw[beq_eq_false_iff_ne,hlen]
   unfold Mg.size
   omega
  generalize((enc m).1.length:Int)=eL at hne⊢
  have HK:=hid hk
  clear hlen hall hk href
  have k0:w1.cell? ⟨q,0,none⟩=some (.int .u8 (m.kind:Int)):=Blk.cell HQ1.out 0
  go_wp2_with fail
  refine(xC m.kind w1).mono ?_
  rintro e w2 ⟨hb,hrow⟩
  unfold I9 at hrow
  rw[HK.out]at hrow
  obtain⟨fvl,rfl,hfl⟩:=hrow
  have hup:Below w1.heap.size w1 (w2.alloc (.cells #[.int .u8 (m.kind:Int),.string (ofL (fO m.kind)),fvl] 79)):=hb.alloc hb.size _
  have HR3:=hid (Blk.new w2 79 #[.int .u8 (m.kind:Int),.string (ofL (fO m.kind)),fvl])
  have HF3:=hid (hfl.keep fun i _ hi=>Below.heap_alloc w2 (.cells #[.int .u8 (m.kind:Int),.string (ofL (fO m.kind)),fvl] 79) i hi)
  have HS3:=hid (World.size_alloc w2 (.cells #[.int .u8 (m.kind:Int),.string (ofL (fO m.kind)),fvl] 79))
  have hq1:q<w1.heap.size:=Blk.lt HQ1.out
  have HQ3:=hid (Blk.below HQ1.out hup hq1)
  have HB3:=hid (HB1.out.trans (hup.mono (Nat.le_of_lt hq1)))
  have HL3:=hid (HL1.out.below (hup.mono (Nat.le_of_lt hq1)))
  have HT3:=hid (HT1.out.low hup (by have:=H8.out;omega))
  have TL:=hid (And.intro hq1 hb.size)
  obtain⟨fA,fc,rfl,hfc,hfm, -⟩:=hfl
  have GN:fs.length≤20:=by
   have hh:=HK.out
   unfold bQ at hh
   split at hh<;>first|(obtain rfl:=Option.some.inj hh;decide)|(exact absurd hh (by simp))
  clear hb hup k0 HQ1 HB1 HL1 HT1 hq1
  obtain⟨N,hN⟩:∃N,N=ofL (fO m.kind):=⟨_,rfl⟩
  have hNs:N.size≤8:=by rw[hN,dU];exact Ja _
  obtain⟨D,hD⟩:∃D,D=ofL (decDigits m.tag):=⟨_,rfl⟩
  have hDs:D.size≤20:=by rw[hD];exact jD _ (by have:=HO.out.tag;omega)
  obtain⟨P0,hP0⟩:∃P,P=N++⟨#[32]⟩:=⟨_,rfl⟩
  have hs0:P0.size=N.size+1:=by rw[hP0,ByteArray.size_append];rfl
  have ha0:∀w,(Op.stringOp .add N ⟨#[32]⟩).run Tryz.prog w= .ok (.string P0) w:=fun w=>by
   rw[hP0]
   exact run_string_add_sum w _ _ (by rw[←ByteArray.size_append,←hP0];omega)
  obtain⟨P1,hP1⟩:∃P,P=P0++D:=⟨_,rfl⟩
  have hs1:P1.size=P0.size+D.size:=by rw[hP1,ByteArray.size_append]
  have ha1:∀w,(Op.stringOp .add P0 D).run Tryz.prog w= .ok (.string P1) w:=fun w=>by
   rw[hP1]
   exact run_string_add_sum w _ _ (by rw[←ByteArray.size_append,←hP1];omega)
  have HP1:=hid (show P1=ofL (fO m.kind++32::decDigits m.tag)∧P1.size≤29 from by
   refine⟨?_,by omega⟩
   rw[hP1,hP0,hN,hD]
   show ofL (fO m.kind)++ofL [32]++ofL (decDigits m.tag)=_
   simp only[Bf]
   simp)
  have HD:=hid hD.symm
  rw[←hN]at HR3 HF3 HS3 HQ3 HB3 HL3 HT3
  have HNN:=hid hN
  clear hs0 hs1 hP0 hP1 hNs hDs hD
  rw[←hN]
  clear hN
  go_upto_region 4 with(fail)
  generalize w2.alloc (.cells #[.int .u8 (m.kind:Int),.string N,.slice fA fs.length fc] 79)=w3 at HR3 HF3 HS3 HQ3 HB3 HL3 HT3⊢
  generalize w2.heap.size=rb at HR3 HF3 HS3 TL⊢
  have HGE:=hid (show q<rb∧rb<w3.heap.size∧8≤w3.heap.size from by have:=TL.out;have:=HS3.out;have:=H8.out;omega)
  have HTP:=hid (show∀wx,Below w3.heap.size w3 wx→TP wx from fun wx h=>HT3.out.low h HGE.out.2.2)
  have j1:w3.cell? ⟨rb,1,none⟩=some (.string N):=HR3.out.cell 1
  have j2:w3.cell? ⟨q,1,none⟩=some (.int .u16 (m.tag:Int)):=Blk.cell HQ3.out 1
  have HJ:=hid (show∀wx:World,Below w3.heap.size w3 wx→wx.cell? ⟨rb,1,none⟩=some (.string N)∧wx.cell? ⟨q,1,none⟩=some (.int .u16 (m.tag:Int))from fun wx h=>⟨(h.cell (p:=⟨rb,1,none⟩) HGE.out.2.1).trans j1,(h.cell (p:=⟨q,1,none⟩) (Nat.lt_trans HGE.out.1 HGE.out.2.1)).trans j2⟩)
  have QG:IntKind.u64.wrap (m.tag:Int)=(m.tag:Int):=eH (by have:=HO.out.tag;omega)
  have HTG:=hid (show m.tag<18446744073709551616 from by have:=HO.out.tag;omega)
  clear j1 j2
  refine wp_region_held_drew (S:=fun wx=>Below w3.heap.size w3 wx) (by kernel_rfl) (aC w3) (fun hHeld=> ?_)
  generalize w3.drew=wd at hHeld⊢
  refine tk 18 0 (.pointer (some ⟨rb,1,none⟩)) ?_
  refine tk2 19 1 (.string N) rfl (fun wq hSw=>by have k:=(HJ.out _ hSw).1;go_simp) ?_
  refine tk 20 2 (.string P0) ?_
  refine tk 21 3 (.pointer (some ⟨q,1,none⟩)) ?_
  refine tk2 22 4 (.int .u16 (m.tag:Int)) rfl (fun wq hSw=>by have k:=(HJ.out _ hSw).2;go_simp) ?_
  refine tk 23 5 (.int .u64 (m.tag:Int)) ?_
  refine wpAnyH_ready (rs:=[6]) (by kernel_rfl) (by simp) ?_
  refine AllReadyH.cons rfl (fun K hK=> ?_) AllReadyH.nil
  rw[if_pos (by rfl)]
  go_simp
  (with_reducible refine(dN m.tag HTG.out wd (HTP.out _ hHeld)).mono ?_)
  rintro e wy ⟨rfl,hb⟩
  rw[HD.out]
  dsimp only
  have cO:=hHeld.trans (hb.mono hHeld.size)
  clear hb hHeld
  refine hK.out _ _ cO (fun hHeld=> ?_)
  clear hK cO
  refine tk 25 7 (.string P1) ?_
  refine tk 5 8 (.string P1) ?_
  refine wpAnyH_done (by kernel_rfl) ?_ _
  have HR5:=hid (Blk.below HR3.out hHeld (Blk.lt HR3.out))
  have HF5:=hid (HF3.out.keep fun i _ hi=>hHeld.block i (by have:=HGE.out;omega))
  have HQ5:=hid (Blk.below HQ3.out hHeld (Blk.lt HQ3.out))
  have HB5:=hid (HB3.out.trans (hHeld.mono (by have:=HGE.out;omega)))
  have HL5:=hid (HL3.out.below (hHeld.mono (by have:=HGE.out;omega)))
  have HT5:=hid (HTP.out _ hHeld)
  have HG5:=hid (show q<rb∧rb<wy.heap.size∧8≤q from by have:=HGE.out;have:=hHeld.size;have:=H8.out;omega)
  clear hHeld ha0 ha1 QG HJ HTP HR3 HF3 HQ3 HB3 HL3 HT3 HS3
  have k2:wy.cell? ⟨rb,2,none⟩=some (.slice fA fs.length fc):=Blk.cell HR5.out 2
  go_upto_region 6 with(fail)
  clear k2
  go_loopw [5,7,8,29] (fun v _ _ i wr=>∃k:Nat,k≤fs.length∧i= .int .i64 k∧(∃S,v= .string S∧S=ofL (fO m.kind++32::(decDigits m.tag++(fs.take k).flatMap m.part))∧S.size≤29+k*4294967296)∧Below wy.heap.size wy wr) (fun _ _ _ i _=>fs.length-(intOf i).toNat)
  case atStart=>
   refine⟨0,by omega,rfl,⟨P1,rfl, ?_,by have:=HP1.out.2;omega⟩,Below.refl _ _⟩
   rw[HP1.out.1,List.take_zero,List.flatMap_nil,List.append_nil]
  case round=>
   obtain⟨k,hk,rfl,⟨S,rfl,hS,hSz⟩,hb⟩:=hrel
   have HSS:=hid (And.intro hS hSz);clear hS hSz
   have HBR:=hid hb;clear hb
   by_cases hlt:k<fs.length
   ·obtain⟨f,hf⟩:∃f,fs[k]? =some f:=⟨fs[k],List.getElem?_eq_getElem _⟩
    obtain⟨ad,rfl,kx⟩:=(HF5.out.keep fun i hlo hi=>HBR.out.block i (by have:=HG5.out;omega)).at_ hf
    have HGF:=hid (List.all_eq_true.1 EJ.out f (List.mem_of_getElem? hf))
    have HPF:=hid (HPQ.out f (List.mem_of_getElem? hf))
    have HNX:=hid (show(fs.take (k+1)).flatMap m.part=(fs.take k).flatMap m.part++m.part f from by
     rw[List.take_add_one,hf,Option.toList_some,List.flatMap_append,List.flatMap_singleton])
    clear hf
    go_wp2_with fail
    refine(jY f wr).mono ?_
    rintro e w7 ⟨rfl,hb,hcap⟩
    generalize wr.heap.size+1=b9 at*
    have hwz:wy.heap.size≤wr.heap.size:=HBR.out.size
    have HB7:=hid (HBR.out.trans (hb.mono hwz))
    have Jb:Below w7.heap.size w7 (w7.alloc (.cells #[.string f.jJ,.func (.func f.kg) #[] (f.sO b9),.func (.func f.kp) #[] (f.cap b9),.func (.func f.kt) #[] (f.cap b9),.func (.func f.km) #[] (f.cap b9),.func (.func f.kr) #[] (f.cap b9),.func (.func f.ks) #[] (f.cap b9)] 90)):=(Below.refl _ _).alloc (Nat.le_refl _) _
    have HN8:=hid (Blk.new w7 90 #[.string f.jJ,.func (.func f.kg) #[] (f.sO b9),.func (.func f.kp) #[] (f.cap b9),.func (.func f.kt) #[] (f.cap b9),.func (.func f.km) #[] (f.cap b9),.func (.func f.kr) #[] (f.cap b9),.func (.func f.ks) #[] (f.cap b9)])
    have HC8:=hid (show yC (w7.alloc (.cells #[.string f.jJ,.func (.func f.kg) #[] (f.sO b9),.func (.func f.kp) #[] (f.cap b9),.func (.func f.kt) #[] (f.cap b9),.func (.func f.km) #[] (f.cap b9),.func (.func f.kr) #[] (f.cap b9),.func (.func f.ks) #[] (f.cap b9)] 90)) f b9 from⟨fun h=>(hcap.1 h).alloc _,fun h h'=>(hcap.2 h h').alloc _⟩)
    have HB8:=hid (HB7.out.trans (Jb.mono HB7.out.size))
    have HW7:=hid (show q<wy.heap.size∧8≤wy.heap.size from by have:=HG5.out;omega)
    clear hb hcap kx hwz Jb
    go_upto_region 9 with(fail)
    change Code.wp _ _ _ _ (w7.alloc (.cells #[.string f.jJ,.func (.func f.kg) #[] (f.sO b9),.func (.func f.kp) #[] (f.cap b9),.func (.func f.kt) #[] (f.cap b9),.func (.func f.km) #[] (f.cap b9),.func (.func f.kr) #[] (f.cap b9),.func (.func f.ks) #[] (f.cap b9)] 90))
    generalize w7.alloc (.cells #[.string f.jJ,.func (.func f.kg) #[] (f.sO b9),.func (.func f.kp) #[] (f.cap b9),.func (.func f.kt) #[] (f.cap b9),.func (.func f.km) #[] (f.cap b9),.func (.func f.kr) #[] (f.cap b9),.func (.func f.ks) #[] (f.cap b9)] 90)=w8 at HN8 HC8 HB8⊢
    generalize w7.heap.size=z at HN8⊢
    have HZL:=hid (Blk.lt HN8.out)
    have hws:=Dz f
    obtain⟨V,hV⟩:∃V,V=ofL (m.val f):=⟨_,rfl⟩
    have hVs:V.size≤2147483648:=by rw[hV,dU];exact Ot m f HO.out HGF.out HZ.out
    have hSs:=HSS.out.2
    obtain⟨Q0,hQ0⟩:∃P,P=(⟨#[32]⟩:ByteArray)++f.jJ:=⟨_,rfl⟩
    have hs0:Q0.size=1+f.jJ.size:=by rw[hQ0,ByteArray.size_append];rfl
    have ha0:∀w,(Op.stringOp .add (⟨#[32]⟩:ByteArray) f.jJ).run Tryz.prog w= .ok (.string Q0) w:=fun w=>by
     rw[hQ0]
     exact run_string_add_sum w _ _ (by rw[←ByteArray.size_append,←hQ0];omega)
    obtain⟨Q1,hQ1⟩:∃P,P=Q0++(⟨#[61]⟩:ByteArray):=⟨_,rfl⟩
    have hs1:Q1.size=Q0.size+1:=by rw[hQ1,ByteArray.size_append];rfl
    have ha1:∀w,(Op.stringOp .add Q0 (⟨#[61]⟩:ByteArray)).run Tryz.prog w= .ok (.string Q1) w:=fun w=>by
     rw[hQ1]
     exact run_string_add_sum w _ _ (by rw[←ByteArray.size_append,←hQ1];omega)
    obtain⟨Q2,hQ2⟩:∃P,P=Q1++V:=⟨_,rfl⟩
    have hs2:Q2.size=Q1.size+V.size:=by rw[hQ2,ByteArray.size_append]
    have ha2:∀w,(Op.stringOp .add Q1 V).run Tryz.prog w= .ok (.string Q2) w:=fun w=>by
     rw[hQ2]
     exact run_string_add_sum w _ _ (by rw[←ByteArray.size_append,←hQ2];omega)
    obtain⟨Q3,hQ3⟩:∃P,P=S++Q2:=⟨_,rfl⟩
    have hs3:Q3.size=S.size+Q2.size:=by rw[hQ3,ByteArray.size_append]
    have ha3:∀w,(Op.stringOp .add S Q2).run Tryz.prog w= .ok (.string Q3) w:=fun w=>by
     rw[hQ3]
     exact run_string_add_sum w _ _ (by rw[←ByteArray.size_append,←hQ3];omega)
    have Vz:=hid (show Q3=ofL (fO m.kind++32::(decDigits m.tag++(fs.take (k+1)).flatMap m.part))∧Q3.size≤29+(k+1)*4294967296 from by
     refine⟨?_,by omega⟩
     rw[hQ3,hQ2,hQ1,hQ0,hV,HSS.out.1,CP,HNX.out]
     show _++(ofL [32]++_++ofL [61]++_)=_
     simp only[Bf]
     unfold Mg.part
     simp only[List.append_assoc,List.cons_append,List.nil_append])
    have HV:=hid hV.symm
    have hfv:∀wx:World,Below w8.heap.size w8 wx→wx.cell? ⟨z,0,none⟩=some (.string f.jJ)∧wx.cell? ⟨z,5,none⟩=some (.func (.func f.kr) #[] (f.cap b9)):=fun wx h=>⟨(h.cell (p:=⟨z,0,none⟩) HZL.out).trans (HN8.out.cell 0),(h.cell (p:=⟨z,5,none⟩) HZL.out).trans (HN8.out.cell 5)⟩
    have HFV:=hid hfv
    have hent:=IG f
    have HPR:=hid (show∀wx:World,Below w8.heap.size w8 wx→Calls Tryz.prog f.kr (#[.pointer (some ⟨q,0,none⟩)]++f.cap b9) wx fun e w'=>e= .returned (.string (ofL (m.val f)))∧Below wx.heap.size wx w' from fun wx h=>by
     have hz8:=HB8.out.size
     have hbq:=HB8.out.trans (h.mono hz8)
     have hzx:=h.size
     have hw7:=HW7.out
     refine HPF.out _ _ _ _ _ (Blk.below HQ5.out hbq hw7.1) ((HL5.out.below (hbq.mono (Nat.le_of_lt hw7.1))).more (by omega)) (HT5.out.low hbq hw7.2) (by omega) HO.out _ ?_ HGF.out HZ.out
     exact⟨fun h'=>Blk.below (HC8.out.1 h') h (Blk.lt (HC8.out.1 h')),fun h' h''=>Blk.below (HC8.out.2 h' h'') h (Blk.lt (HC8.out.2 h' h''))⟩)
    clear hws hVs hSs hs0 hs1 hs2 hs3 hQ0 hQ1 hQ2 hQ3 hV hfv
    refine wp_region_held_drew (S:=fun wx=>Below w8.heap.size w8 wx) (by kernel_rfl) (aC w8) (fun hHeld=> ?_)
    generalize w8.drew=wd at hHeld⊢
    refine tk 35 0 (.string S) ?_
    refine tk 36 1 (.pointer (some ⟨z,0,none⟩)) ?_
    refine tk2 37 2 (.string f.jJ) rfl (fun wq hSw=>by have k:=(HFV.out _ hSw).1;go_simp) ?_
    refine tk 38 3 (.string Q0) ?_
    refine tk 39 4 (.string Q1) ?_
    refine tk 40 5 (.pointer (some ⟨z,5,none⟩)) ?_
    refine tk2 41 6 (.func (.func f.kr) #[] (f.cap b9)) rfl (fun wq hSw=>by have k:=(HFV.out _ hSw).2;go_simp) ?_
    refine wpAnyH_ready (rs:=[7]) (by kernel_rfl) (by simp) ?_
    refine AllReadyH.cons rfl (fun K hK=> ?_) AllReadyH.nil
    rw[if_pos (by rfl)]
    go_simp
    (with_reducible refine(HPR.out wd hHeld).mono ?_)
    rintro e wy ⟨rfl,hb⟩
    rw[HV.out]
    dsimp only
    have cO:=hHeld.trans (hb.mono hHeld.size)
    clear hb hHeld
    refine hK.out _ _ cO (fun hHeld=> ?_)
    clear hK cO
    refine tk 43 8 (.string Q2) ?_
    refine tk 44 9 (.string Q3) ?_
    refine tk 5 10 (.string Q3) ?_
    refine wpAnyH_done (by kernel_rfl) ?_ _
    have HBF:=hid (HB8.out.trans (hHeld.mono HB8.out.size))
    clear hHeld ha0 ha1 ha2 ha3 hent
    go_wp2_with fail
    go_roundw
    case rel=>
     exact⟨k+1,by omega,by go_num,⟨Q3,rfl,Vz.out⟩,HBF.out⟩
    case measure=>simp[intOf];omega
   ·have hkl:k=fs.length:=by omega
    subst hkl
    rw[List.take_length]at HSS
    have qm:=hid (show S=ofL (qA m)from by rw[HSS.out.1,HTX.out])
    go_wp2_with fail
    go_ret
    rw[qm.out]
    exact⟨rfl,by have hq:=HQQ.out;rw[hq];exact HB5.out.trans (HBR.out.mono (by have:=HG5.out;omega))⟩
 ·obtain⟨he,htx⟩:=Dx href
  have HTX:=hid htx
  have hl0:((enc m).1.length:Int)=0:=by rw[he];rfl
  rw[hl0]
  clear he htx href hl0
  go_wp2_with fail
  go_ret
  rw[HTX.out]
  exact⟨rfl,by have hq:=HQQ.out;rw[hq];exact HB1.out⟩
end Go.Proofs.YtkblmloobkiloaaGreatDoor
namespace Go.Proofs.YtkblmloobkiloaaGreatDoor
open Go.Lib (hid)
open Go.RowKit
def ScS(w:World)(p:Nat)(s:ByteArray)(at_:Nat):Prop:=Blk w p 114 #[.string s,.int .i64 (at_:Int)]∧at_≤s.size∧s.size≤16777216
theorem ScS.below{w w':World}{p:Nat}{s:ByteArray}{at_:Nat}(h:ScS w p s at_)(hb:Below w.heap.size w w'):ScS w' p s at_:=⟨Blk.below h.1 hb (Blk.lt h.1),h.2⟩
theorem ScS.off{S:Nat→Prop}{w w':World}{p:Nat}{s:ByteArray}{at_:Nat}(h:ScS w p s at_)(ho:Off S w w')(hp:¬S p):ScS w' p s at_:=⟨ho.blk h.1 hp,h.2⟩
def d_(n:Int):Ending:= .panicked [{v:= .iface 111 (.int .i64 n),recovered:=false}]
def dW{α:Type}(p:Nat)(s:ByteArray)(V:α→Ending→World→Prop)(r:Except Nat (α×List UInt8))(w:World)(e:Ending)(w':World):Prop:=
 Off (fun i=>i=p) w w'∧match r with
  | .ok (x,l)=>V x e w'∧∃a,ScS w' p s a∧s.data.toList.drop a=l
  | .error n=>e=d_ ((s.size:Int)-(n:Int))
theorem Ou(s:ByteArray)(a:Nat):s.extract a s.size=ofL (s.data.toList.drop a):=by
 apply ByteArray.ext
 rw[←Array.toList_inj]
 simp only[ofL,ByteArray.data_extract,Array.toList_extract]
 rw[List.extract_eq_take_drop]
 rw[List.take_of_length_le]
 rw[List.length_drop,Array.length_toList]
 exact Nat.le_refl _
theorem lZ{w:World}{p:Nat}{s:ByteArray}{at_:Nat}(h:ScS w p s at_):
  Calls Tryz.prog 114 #[.pointer (some ⟨p,0,none⟩)] w fun e w'=>e= .returned (.string (ofL (s.data.toList.drop at_)))∧Below w.heap.size w w':=by
 obtain⟨hb,hle,hz⟩:=h
 have k0:w.cell? ⟨p,0,none⟩=some (.string s):=hb.cell 0
 have k1:w.cell? ⟨p,1,none⟩=some (.int .i64 (at_:Int)):=hb.cell 1
 have j0:w.drew.cell? ⟨p,0,none⟩=some (.string s):=hb.cell 0
 have j1:w.drew.cell? ⟨p,1,none⟩=some (.int .i64 (at_:Int)):=hb.cell 1
 have HE:=hid (Ou s at_)
 clear hb
 go_enter Tryz.func114,Tryz.ntmps114
 go_upto_region 1 with(fail)
 go_region
 go_wp2_with fail
 go_ret
 rw[←HE.out]
 exact⟨rfl,aC w⟩
theorem dK{w:World}{p:Nat}{s:ByteArray}{at_:Nat}(wd:ByteArray)(h:ScS w p s at_):
  Calls Tryz.prog 112 #[.pointer (some ⟨p,0,none⟩),.string wd] w (dW p s (fun(_:Unit) e _=>e= .returned (.tuple #[])) ((dQ wd.data.toList (s.data.toList.drop at_)).map fun l=>((),l)) w):=by
 have HR:=hid (lZ h)
 have HS:=hid h
 have hz:=h.2.2
 have hle:=h.2.1
 clear h
 go_enter Tryz.func112,Tryz.ntmps112
 go_wp2_with fail
 refine HR.out.mono ?_
 rintro e w1 ⟨rfl,hb⟩
 have HS1:=hid (HS.out.below hb)
 have HO1:=hid (Off.of_below (S:=fun i=>i=p) hb)
 clear hb HS HR
 have HPX:=hid (show Lib.hasPrefix (ofL (s.data.toList.drop at_)).data.toList wd.data.toList=wd.data.toList.isPrefixOf (s.data.toList.drop at_)from by simp[ofL,Lib.hasPrefix])
 generalize ofL (s.data.toList.drop at_)=R at HPX⊢
 go_wp2_with fail
 refine(Tryz.strings_HasPrefix R wd w1).mono ?_
 rintro e w2 ⟨rfl,rfl⟩
 rw[HPX.out]
 have k1:w2.cell? ⟨p,1,none⟩=some (.int .i64 (at_:Int)):=HS1.out.1.cell 1
 have z1:w2.frozen? ⟨p,1,none⟩=false:=HS1.out.1.frozen 1
 have hsl:s.data.toList.length=s.size:=Array.length_toList ..
 have hwl:wd.data.toList.length=wd.size:=Array.length_toList ..
 cases hp:wd.data.toList.isPrefixOf (s.data.toList.drop at_)with
 |true=>
  have HW:=hid (show dQ wd.data.toList (s.data.toList.drop at_)= .ok (s.data.toList.drop (at_+wd.size))from by
   unfold dQ
   rw[if_pos hp,List.drop_drop,hwl])
  have hlen:at_+wd.size≤s.size:=by
   have h:=(List.isPrefixOf_iff_prefix.1 hp).length_le
   rw[List.length_drop,hsl,hwl]at h
   omega
  have HL:=hid hlen
  have HBK:=hid (show Blk (w2.setCell ⟨p,1,none⟩ (.int .i64 ((at_:Int)+(wd.size:Int)))) p 114 #[.string s,.int .i64 ((at_+wd.size:Nat):Int)]from by
   have h:=HS1.out.1.aW 1 (.int .i64 ((at_:Int)+(wd.size:Int)))
   rw[show((at_+wd.size:Nat):Int)=(at_:Int)+(wd.size:Int)from by omega]
   exact h)
  have HOF:=hid ((Off.refl (fun i=>i=p) w2).setCell (p:=⟨p,1,none⟩) rfl (.int .i64 ((at_:Int)+(wd.size:Int))))
  clear hp hsl hwl HPX
  go_wp2_with fail
  generalize w2.setCell ⟨p,1,none⟩ (.int .i64 ((at_:Int)+(wd.size:Int)))=w3 at HBK HOF⊢
  go_end0
  refine⟨HO1.out.trans HOF.out, ?_⟩
  rw[HW.out]
  exact⟨rfl,at_+wd.size,⟨HBK.out,HL.out,hz⟩,rfl⟩
 |false=>
  have HW:=hid (show dQ wd.data.toList (s.data.toList.drop at_)= .error (s.size-at_)from by
   unfold dQ
   rw[hp,List.length_drop,hsl]
   rfl)
  clear hp hsl hwl HPX
  go_wp2_with fail
  refine⟨rfl,HO1.out, ?_⟩
  rw[HW.out]
  show _=d_ _
  rw[show(s.size:Int)-((s.size-at_:Nat):Int)=(at_:Int) by omega]
  rfl
theorem DC(c:UInt8)(w:World):Calls Tryz.prog 188 #[.int .u8 (c.toNat:Int)] w fun e w'=>e= .returned (.bool (iT c))∧w=w':=by
 have HE:=hid (show iT c=(decide (48≤c.toNat)&&decide (c.toNat≤57))from rfl)
 generalize c.toNat=n at*
 by_cases h1:48≤n
 ·by_cases h2:n≤57
  ·have HB:=hid (show iT c=true from by rw[HE.out,decide_eq_true h1,decide_eq_true h2];rfl)
   have g1:(n:Int)≥48:=by omega
   have g2:(n:Int)≤57:=by omega
   clear h1 h2
   go_enter Tryz.func188,Tryz.ntmps188
   go_wp2_with fail
   go_ret
   exact⟨cZ HB.out.symm,rfl⟩
  ·have HB:=hid (show iT c=false from by rw[HE.out,decide_eq_false h2,Bool.and_false])
   have g1:(n:Int)≥48:=by omega
   have g2:¬(n:Int)≤57:=by omega
   clear h1 h2
   go_enter Tryz.func188,Tryz.ntmps188
   go_wp2_with fail
   go_ret
   exact⟨cZ HB.out.symm,rfl⟩
 ·have HB:=hid (show iT c=false from by rw[HE.out,decide_eq_false h1,Bool.false_and])
  have g1:¬(48:Int)≤(n:Int):=by omega
  clear h1
  go_enter Tryz.func188,Tryz.ntmps188
  go_wp2_with fail
  go_ret
  exact⟨cZ HB.out.symm,rfl⟩
end Go.Proofs.YtkblmloobkiloaaGreatDoor
