/-
  MT8 MP1 MP2 MP3 MP4 MP5 MP6 MP7 MP8 MP9 MPA MPB MRN: what the laws of package msg need of them.
-/
import Derived.Test.YtkblmloobkiloaaGreatDoorK00
import Derived.Test.YtkblmloobkiloaaGreatDoorK10
import Derived.WalkLawsBesides
import Derived.Lib.ParseIntBCases
import Derived.Test.YtkblmloobkiloaaGreatDoorK07
set_option maxRecDepth 100000
set_option maxHeartbeats 6400000
namespace Go.Proofs.YtkblmloobkiloaaGreatDoor
open Go.Lib (hid)
open Go.RowKit
open Go.Lib (decDigits)
theorem Lu{m:Mg}{fs:List Fld}(hk:bQ m.kind=some fs)(h:(refused m).1=0):(enc m).1.length=m.size fs∧fs.all m.good=true:=by
 have hr:=h
 unfold refused at hr
 rw[hk]at hr
 dsimp only at hr
 by_cases hg:fs.all m.good=true
 ·refine⟨?_,hg⟩
  unfold enc
  rw[hk]
  dsimp only
  rw[if_pos h]
  dsimp only
  simp only[List.length_append,bK,vK,Mg.size]
 ·rw[if_neg hg]at hr
  cases hr
theorem Dx{m:Mg}(h:(refused m).1≠0):(enc m).1=[]∧qA m=[]:=by
 unfold enc qA
 cases hk:bQ m.kind with
 |none=>exact⟨rfl,rfl⟩
 |some fs=>
  dsimp only
  rw[if_neg h,if_neg h]
  exact⟨rfl,rfl⟩
theorem Dy{m:Mg}(h:(refused m).1=0):∃fs,bQ m.kind=some fs:=by
 unfold refused at h
 cases hk:bQ m.kind with
 |none=>rw[hk]at h;cases h
 |some fs=>exact⟨fs,rfl⟩
theorem Dz(f:Fld):f.jJ.size≤7:=by cases f<;>decide
theorem Ja(k:Nat):(fO k).length≤8:=by
 unfold fO
 split<;>simp
theorem P5(m:Mg)(vn vq vd:Value)(w:World)(ho:m.ok)(hl:Lists w w.heap.size m vn vq vd)(hr:Ready w)(ht:TP w)(hz:m.small)(hp:∀fs,bQ m.kind=some fs→∀f∈fs,P6 m f):
  Calls Tryz.prog 21 #[iM m vn vq vd] w fun e w'=>e= .returned (.string (ofL (qA m)))∧Below w.heap.size w w':=by
 obtain⟨wq,hwq⟩:∃wq,wq=w.alloc (.cells (aF m vn vq vd).toArray 41):=⟨_,rfl⟩
 have oz:Below w.heap.size w wq:=by rw[hwq];exact(Below.refl _ _).alloc (Nat.le_refl _) _
 have HQ:=hid (show aK wq w.heap.size m vn vq vd from by rw[hwq];exact Blk.new w _ _)
 have HSZ:=hid (xG m vn vq vd wq ho ((hl.below oz).more oz.size) (hr.below oz (Nat.le_refl _)) hz)
 have HB:=hid oz
 have HL:=hid (hl.below oz)
 have H8:=hid hr.eight
 have HT:=hid (ht.low oz hr.eight)
 have HO:=hid ho
 have HZ:=hid hz
 have HPP:=hid hp
 clear ho hl hr ht hz oz hp
 unfold iM
 go_enter Tryz.func21,Tryz.ntmps21
 go_upto_region 1 with(fail)
 change Code.wp _ _ _ _ (w.alloc (.cells (aF m vn vq vd).toArray 41))
 rw[←hwq]
 clear hwq
 generalize hq:w.heap.size=q at HQ HB HL H8⊢
 have HQQ:=hid hq;clear hq
 go_wp2_with(refine wlw HQ.out 0 (aF m vn vq vd) rfl rfl _ _ rfl rfl _ Tryz.underlying41 rfl aB ?_)
 refine HSZ.out.mono ?_
 rintro e w1 ⟨rfl,hb⟩
 have HB1:=hid (HB.out.trans (hb.mono (by have:=Blk.lt HQ.out;omega)))
 have HQ1:=hid (Blk.below HQ.out hb (Blk.lt HQ.out))
 have HL1:=hid (HL.out.below (hb.mono (by have:=Blk.lt HQ.out;omega)))
 have HT1:=hid (HT.out.low hb (by have:=Blk.lt HQ.out;have:=H8.out;omega))
 clear hb HSZ HQ HB HL HT
 by_cases href:(refused m).1=0
 ·obtain⟨fs,hk⟩:=Dy href
  have HPQ:=hid (HPP.out fs hk)
  clear HPP
  obtain⟨hlen,hall⟩:=Lu hk href
  have HTX:=hid (GH hk href)
  have EJ:=hid hall
  have hne:(((enc m).1.length:Int)==0)=false:=by
   rw[beq_eq_false_iff_ne,hlen]
   unfold Mg.size
   omega
  generalize((enc m).1.length:Int)=eL at hne⊢
  have HK:=hid hk
  clear hlen hall hk href
  have k0:w1.cell? ⟨q,0,none⟩=some (.int .u8 (m.kind:Int)):=Blk.cell HQ1.out 0
  go_wp2_with fail
  refine(xC m.kind w1).mono ?_
  rintro e w2 ⟨hb,hrow⟩
  unfold I9 at hrow
  rw[HK.out]at hrow
  obtain⟨fvl,rfl,hfl⟩:=hrow
  have hup:Below w1.heap.size w1 (w2.alloc (.cells #[.int .u8 (m.kind:Int),.string (ofL (fO m.kind)),fvl] 79)):=hb.alloc hb.size _
  have HR3:=hid (Blk.new w2 79 #[.int .u8 (m.kind:Int),.string (ofL (fO m.kind)),fvl])
  have HF3:=hid (hfl.keep fun i _ hi=>Below.heap_alloc w2 (.cells #[.int .u8 (m.kind:Int),.string (ofL (fO m.kind)),fvl] 79) i hi)
  have HS3:=hid (World.size_alloc w2 (.cells #[.int .u8 (m.kind:Int),.string (ofL (fO m.kind)),fvl] 79))
  have hq1:q<w1.heap.size:=Blk.lt HQ1.out
  have HQ3:=hid (Blk.below HQ1.out hup hq1)
  have HB3:=hid (HB1.out.trans (hup.mono (Nat.le_of_lt hq1)))
  have HL3:=hid (HL1.out.below (hup.mono (Nat.le_of_lt hq1)))
  have HT3:=hid (HT1.out.low hup (by have:=H8.out;omega))
  have TL:=hid (And.intro hq1 hb.size)
  obtain⟨fA,fc,rfl,hfc,hfm, -⟩:=hfl
  have GN:fs.length≤20:=by
   have hh:=HK.out
   unfold bQ at hh
   split at hh<;>first|(obtain rfl:=Option.some.inj hh;decide)|(exact absurd hh (by simp))
  clear hb hup k0 HQ1 HB1 HL1 HT1 hq1
  obtain⟨N,hN⟩:∃N,N=ofL (fO m.kind):=⟨_,rfl⟩
  have hNs:N.size≤8:=by rw[hN,dU];exact Ja _
  obtain⟨D,hD⟩:∃D,D=ofL (decDigits m.tag):=⟨_,rfl⟩
  have hDs:D.size≤20:=by rw[hD];exact jD _ (by have:=HO.out.tag;omega)
  obtain⟨P0,hP0⟩:∃P,P=N++⟨#[32]⟩:=⟨_,rfl⟩
  have hs0:P0.size=N.size+1:=by rw[hP0,ByteArray.size_append];rfl
  have ha0:∀w,(Op.stringOp .add N ⟨#[32]⟩).run Tryz.prog w= .ok (.string P0) w:=fun w=>by
   rw[hP0]
   exact run_string_add_sum w _ _ (by rw[←ByteArray.size_append,←hP0];omega)
  obtain⟨P1,hP1⟩:∃P,P=P0++D:=⟨_,rfl⟩
  have hs1:P1.size=P0.size+D.size:=by rw[hP1,ByteArray.size_append]
  have ha1:∀w,(Op.stringOp .add P0 D).run Tryz.prog w= .ok (.string P1) w:=fun w=>by
   rw[hP1]
   exact run_string_add_sum w _ _ (by rw[←ByteArray.size_append,←hP1];omega)
  have HP1:=hid (show P1=ofL (fO m.kind++32::decDigits m.tag)∧P1.size≤29 from by
   refine⟨?_,by omega⟩
   rw[hP1,hP0,hN,hD]
   show ofL (fO m.kind)++ofL [32]++ofL (decDigits m.tag)=_
   simp only[Bf]
   simp)
  have HD:=hid hD.symm
  rw[←hN]at HR3 HF3 HS3 HQ3 HB3 HL3 HT3
  have HNN:=hid hN
  clear hs0 hs1 hP0 hP1 hNs hDs hD
  rw[←hN]
  clear hN
  go_upto_region 4 with(fail)
  generalize w2.alloc (.cells #[.int .u8 (m.kind:Int),.string N,.slice fA fs.length fc] 79)=w3 at HR3 HF3 HS3 HQ3 HB3 HL3 HT3⊢
  generalize w2.heap.size=rb at HR3 HF3 HS3 TL⊢
  have HGE:=hid (show q<rb∧rb<w3.heap.size∧8≤w3.heap.size from by have:=TL.out;have:=HS3.out;have:=H8.out;omega)
  have HTP:=hid (show∀wx,Below w3.heap.size w3 wx→TP wx from fun wx h=>HT3.out.low h HGE.out.2.2)
  have j1:w3.cell? ⟨rb,1,none⟩=some (.string N):=HR3.out.cell 1
  have j2:w3.cell? ⟨q,1,none⟩=some (.int .u16 (m.tag:Int)):=Blk.cell HQ3.out 1
  have HJ:=hid (show∀wx:World,Below w3.heap.size w3 wx→wx.cell? ⟨rb,1,none⟩=some (.string N)∧wx.cell? ⟨q,1,none⟩=some (.int .u16 (m.tag:Int))from fun wx h=>⟨(h.cell (p:=⟨rb,1,none⟩) HGE.out.2.1).trans j1,(h.cell (p:=⟨q,1,none⟩) (Nat.lt_trans HGE.out.1 HGE.out.2.1)).trans j2⟩)
  have QG:IntKind.u64.wrap (m.tag:Int)=(m.tag:Int):=eH (by have:=HO.out.tag;omega)
  have HTG:=hid (show m.tag<18446744073709551616 from by have:=HO.out.tag;omega)
  clear j1 j2
  refine wp_region_held_drew (S:=fun wx=>Below w3.heap.size w3 wx) (by kernel_rfl) (aC w3) (fun hHeld=> ?_)
  generalize w3.drew=wd at hHeld⊢
  refine tk 18 0 (.pointer (some ⟨rb,1,none⟩)) ?_
  refine tk2 19 1 (.string N) rfl (fun wq hSw=>by have k:=(HJ.out _ hSw).1;go_simp) ?_
  refine tk 20 2 (.string P0) ?_
  refine tk 21 3 (.pointer (some ⟨q,1,none⟩)) ?_
  refine tk2 22 4 (.int .u16 (m.tag:Int)) rfl (fun wq hSw=>by have k:=(HJ.out _ hSw).2;go_simp) ?_
  refine tk 23 5 (.int .u64 (m.tag:Int)) ?_
  refine wpAnyH_ready (rs:=[6]) (by kernel_rfl) (by simp) ?_
  refine AllReadyH.cons rfl (fun K hK=> ?_) AllReadyH.nil
  rw[if_pos (by rfl)]
  go_simp
  (with_reducible refine(dN m.tag HTG.out wd (HTP.out _ hHeld)).mono ?_)
  rintro e wy ⟨rfl,hb⟩
  rw[HD.out]
  dsimp only
  have cO:=hHeld.trans (hb.mono hHeld.size)
  clear hb hHeld
  refine hK.out _ _ cO (fun hHeld=> ?_)
  clear hK cO
  refine tk 25 7 (.string P1) ?_
  refine tk 5 8 (.string P1) ?_
  refine wpAnyH_done (by kernel_rfl) ?_ _
  have HR5:=hid (Blk.below HR3.out hHeld (Blk.lt HR3.out))
  have HF5:=hid (HF3.out.keep fun i _ hi=>hHeld.block i (by have:=HGE.out;omega))
  have HQ5:=hid (Blk.below HQ3.out hHeld (Blk.lt HQ3.out))
  have HB5:=hid (HB3.out.trans (hHeld.mono (by have:=HGE.out;omega)))
  have HL5:=hid (HL3.out.below (hHeld.mono (by have:=HGE.out;omega)))
  have HT5:=hid (HTP.out _ hHeld)
  have HG5:=hid (show q<rb∧rb<wy.heap.size∧8≤q from by have:=HGE.out;have:=hHeld.size;have:=H8.out;omega)
  clear hHeld ha0 ha1 QG HJ HTP HR3 HF3 HQ3 HB3 HL3 HT3 HS3
  have k2:wy.cell? ⟨rb,2,none⟩=some (.slice fA fs.length fc):=Blk.cell HR5.out 2
  go_upto_region 6 with(fail)
  clear k2
  go_loopw [5,7,8,29] (fun v _ _ i wr=>∃k:Nat,k≤fs.length∧i= .int .i64 k∧(∃S,v= .string S∧S=ofL (fO m.kind++32::(decDigits m.tag++(fs.take k).flatMap m.part))∧S.size≤29+k*4294967296)∧Below wy.heap.size wy wr) (fun _ _ _ i _=>fs.length-(intOf i).toNat)
  case atStart=>
   refine⟨0,by omega,rfl,⟨P1,rfl, ?_,by have:=HP1.out.2;omega⟩,Below.refl _ _⟩
   rw[HP1.out.1,List.take_zero,List.flatMap_nil,List.append_nil]
  case round=>
   obtain⟨k,hk,rfl,⟨S,rfl,hS,hSz⟩,hb⟩:=hrel
   have HSS:=hid (And.intro hS hSz);clear hS hSz
   have HBR:=hid hb;clear hb
   by_cases hlt:k<fs.length
   ·obtain⟨f,hf⟩:∃f,fs[k]? =some f:=⟨fs[k],List.getElem?_eq_getElem _⟩
    obtain⟨ad,rfl,kx⟩:=(HF5.out.keep fun i hlo hi=>HBR.out.block i (by have:=HG5.out;omega)).at_ hf
    have HGF:=hid (List.all_eq_true.1 EJ.out f (List.mem_of_getElem? hf))
    have HPF:=hid (HPQ.out f (List.mem_of_getElem? hf))
    have HNX:=hid (show(fs.take (k+1)).flatMap m.part=(fs.take k).flatMap m.part++m.part f from by
     rw[List.take_add_one,hf,Option.toList_some,List.flatMap_append,List.flatMap_singleton])
    clear hf
    go_wp2_with fail
    refine(jY f wr).mono ?_
    rintro e w7 ⟨rfl,hb,hcap⟩
    generalize wr.heap.size+1=b9 at*
    have hwz:wy.heap.size≤wr.heap.size:=HBR.out.size
    have HB7:=hid (HBR.out.trans (hb.mono hwz))
    have Jb:Below w7.heap.size w7 (w7.alloc (.cells #[.string f.jJ,.func (.func f.kg) #[] (f.sO b9),.func (.func f.kp) #[] (f.cap b9),.func (.func f.kt) #[] (f.cap b9),.func (.func f.km) #[] (f.cap b9),.func (.func f.kr) #[] (f.cap b9),.func (.func f.ks) #[] (f.cap b9)] 90)):=(Below.refl _ _).alloc (Nat.le_refl _) _
    have HN8:=hid (Blk.new w7 90 #[.string f.jJ,.func (.func f.kg) #[] (f.sO b9),.func (.func f.kp) #[] (f.cap b9),.func (.func f.kt) #[] (f.cap b9),.func (.func f.km) #[] (f.cap b9),.func (.func f.kr) #[] (f.cap b9),.func (.func f.ks) #[] (f.cap b9)])
    have HC8:=hid (show yC (w7.alloc (.cells #[.string f.jJ,.func (.func f.kg) #[] (f.sO b9),.func (.func f.kp) #[] (f.cap b9),.func (.func f.kt) #[] (f.cap b9),.func (.func f.km) #[] (f.cap b9),.func (.func f.kr) #[] (f.cap b9),.func (.func f.ks) #[] (f.cap b9)] 90)) f b9 from⟨fun h=>(hcap.1 h).alloc _,fun h h'=>(hcap.2 h h').alloc _⟩)
    have HB8:=hid (HB7.out.trans (Jb.mono HB7.out.size))
    have HW7:=hid (show q<wy.heap.size∧8≤wy.heap.size from by have:=HG5.out;omega)
    clear hb hcap kx hwz Jb
    go_upto_region 9 with(fail)
    change Code.wp _ _ _ _ (w7.alloc (.cells #[.string f.jJ,.func (.func f.kg) #[] (f.sO b9),.func (.func f.kp) #[] (f.cap b9),.func (.func f.kt) #[] (f.cap b9),.func (.func f.km) #[] (f.cap b9),.func (.func f.kr) #[] (f.cap b9),.func (.func f.ks) #[] (f.cap b9)] 90))
    generalize w7.alloc (.cells #[.string f.jJ,.func (.func f.kg) #[] (f.sO b9),.func (.func f.kp) #[] (f.cap b9),.func (.func f.kt) #[] (f.cap b9),.func (.func f.km) #[] (f.cap b9),.func (.func f.kr) #[] (f.cap b9),.func (.func f.ks) #[] (f.cap b9)] 90)=w8 at HN8 HC8 HB8⊢
    generalize w7.heap.size=z at HN8⊢
    have HZL:=hid (Blk.lt HN8.out)
    have hws:=Dz f
    obtain⟨V,hV⟩:∃V,V=ofL (m.val f):=⟨_,rfl⟩
    have hVs:V.size≤2147483648:=by rw[hV,dU];exact Ot m f HO.out HGF.out HZ.out
    have hSs:=HSS.out.2
    obtain⟨Q0,hQ0⟩:∃P,P=(⟨#[32]⟩:ByteArray)++f.jJ:=⟨_,rfl⟩
    have hs0:Q0.size=1+f.jJ.size:=by rw[hQ0,ByteArray.size_append];rfl
    have ha0:∀w,(Op.stringOp .add (⟨#[32]⟩:ByteArray) f.jJ).run Tryz.prog w= .ok (.string Q0) w:=fun w=>by
     rw[hQ0]
     exact run_string_add_sum w _ _ (by rw[←ByteArray.size_append,←hQ0];omega)
    obtain⟨Q1,hQ1⟩:∃P,P=Q0++(⟨#[61]⟩:ByteArray):=⟨_,rfl⟩
    have hs1:Q1.size=Q0.size+1:=by rw[hQ1,ByteArray.size_append];rfl
    have ha1:∀w,(Op.stringOp .add Q0 (⟨#[61]⟩:ByteArray)).run Tryz.prog w= .ok (.string Q1) w:=fun w=>by
     rw[hQ1]
     exact run_string_add_sum w _ _ (by rw[←ByteArray.size_append,←hQ1];omega)
    obtain⟨Q2,hQ2⟩:∃P,P=Q1++V:=⟨_,rfl⟩
    have hs2:Q2.size=Q1.size+V.size:=by rw[hQ2,ByteArray.size_append]
    have ha2:∀w,(Op.stringOp .add Q1 V).run Tryz.prog w= .ok (.string Q2) w:=fun w=>by
     rw[hQ2]
     exact run_string_add_sum w _ _ (by rw[←ByteArray.size_append,←hQ2];omega)
    obtain⟨Q3,hQ3⟩:∃P,P=S++Q2:=⟨_,rfl⟩
    have hs3:Q3.size=S.size+Q2.size:=by rw[hQ3,ByteArray.size_append]
    have ha3:∀w,(Op.stringOp .add S Q2).run Tryz.prog w= .ok (.string Q3) w:=fun w=>by
     rw[hQ3]
     exact run_string_add_sum w _ _ (by rw[←ByteArray.size_append,←hQ3];omega)
    have Vz:=hid (show Q3=ofL (fO m.kind++32::(decDigits m.tag++(fs.take (k+1)).flatMap m.part))∧Q3.size≤29+(k+1)*4294967296 from by
     refine⟨?_,by omega⟩
     rw[hQ3,hQ2,hQ1,hQ0,hV,HSS.out.1,CP,HNX.out]
     show _++(ofL [32]++_++ofL [61]++_)=_
     simp only[Bf]
     unfold Mg.part
     simp only[List.append_assoc,List.cons_append,List.nil_append])
    have HV:=hid hV.symm
    have hfv:∀wx:World,Below w8.heap.size w8 wx→wx.cell? ⟨z,0,none⟩=some (.string f.jJ)∧wx.cell? ⟨z,5,none⟩=some (.func (.func f.kr) #[] (f.cap b9)):=fun wx h=>⟨(h.cell (p:=⟨z,0,none⟩) HZL.out).trans (HN8.out.cell 0),(h.cell (p:=⟨z,5,none⟩) HZL.out).trans (HN8.out.cell 5)⟩
    have HFV:=hid hfv
    have hent:=IG f
    have HPR:=hid (show∀wx:World,Below w8.heap.size w8 wx→Calls Tryz.prog f.kr (#[.pointer (some ⟨q,0,none⟩)]++f.cap b9) wx fun e w'=>e= .returned (.string (ofL (m.val f)))∧Below wx.heap.size wx w' from fun wx h=>by
     have hz8:=HB8.out.size
     have hbq:=HB8.out.trans (h.mono hz8)
     have hzx:=h.size
     have hw7:=HW7.out
     refine HPF.out _ _ _ _ _ (Blk.below HQ5.out hbq hw7.1) ((HL5.out.below (hbq.mono (Nat.le_of_lt hw7.1))).more (by omega)) (HT5.out.low hbq hw7.2) (by omega) HO.out _ ?_ HGF.out HZ.out
     exact⟨fun h'=>Blk.below (HC8.out.1 h') h (Blk.lt (HC8.out.1 h')),fun h' h''=>Blk.below (HC8.out.2 h' h'') h (Blk.lt (HC8.out.2 h' h''))⟩)
    clear hws hVs hSs hs0 hs1 hs2 hs3 hQ0 hQ1 hQ2 hQ3 hV hfv
    refine wp_region_held_drew (S:=fun wx=>Below w8.heap.size w8 wx) (by kernel_rfl) (aC w8) (fun hHeld=> ?_)
    generalize w8.drew=wd at hHeld⊢
    refine tk 35 0 (.string S) ?_
    refine tk 36 1 (.pointer (some ⟨z,0,none⟩)) ?_
    refine tk2 37 2 (.string f.jJ) rfl (fun wq hSw=>by have k:=(HFV.out _ hSw).1;go_simp) ?_
    refine tk 38 3 (.string Q0) ?_
    refine tk 39 4 (.string Q1) ?_
    refine tk 40 5 (.pointer (some ⟨z,5,none⟩)) ?_
    refine tk2 41 6 (.func (.func f.kr) #[] (f.cap b9)) rfl (fun wq hSw=>by have k:=(HFV.out _ hSw).2;go_simp) ?_
    refine wpAnyH_ready (rs:=[7]) (by kernel_rfl) (by simp) ?_
    refine AllReadyH.cons rfl (fun K hK=> ?_) AllReadyH.nil
    rw[if_pos (by rfl)]
    go_simp
    (with_reducible refine(HPR.out wd hHeld).mono ?_)
    rintro e wy ⟨rfl,hb⟩
    rw[HV.out]
    dsimp only
    have cO:=hHeld.trans (hb.mono hHeld.size)
    clear hb hHeld
    refine hK.out _ _ cO (fun hHeld=> ?_)
    clear hK cO
    refine tk 43 8 (.string Q2) ?_
    refine tk 44 9 (.string Q3) ?_
    refine tk 5 10 (.string Q3) ?_
    refine wpAnyH_done (by kernel_rfl) ?_ _
    have HBF:=hid (HB8.out.trans (hHeld.mono HB8.out.size))
    clear hHeld ha0 ha1 ha2 ha3 hent
    go_wp2_with fail
    go_roundw
    case rel=>
     exact⟨k+1,by omega,by go_num,⟨Q3,rfl,Vz.out⟩,HBF.out⟩
    case measure=>simp[intOf];omega
   ·have hkl:k=fs.length:=by omega
    subst hkl
    rw[List.take_length]at HSS
    have qm:=hid (show S=ofL (qA m)from by rw[HSS.out.1,HTX.out])
    go_wp2_with fail
    go_ret
    rw[qm.out]
    exact⟨rfl,by have hq:=HQQ.out;rw[hq];exact HB5.out.trans (HBR.out.mono (by have:=HG5.out;omega))⟩
 ·obtain⟨he,htx⟩:=Dx href
  have HTX:=hid htx
  have hl0:((enc m).1.length:Int)=0:=by rw[he];rfl
  rw[hl0]
  clear he htx href hl0
  go_wp2_with fail
  go_ret
  rw[HTX.out]
  exact⟨rfl,by have hq:=HQQ.out;rw[hq];exact HB1.out⟩
theorem Fp(m:Mg)(vn vq vd:Value)(w:World)(ho:m.ok)(hl:Lists w w.heap.size m vn vq vd)(hr:Ready w)(ht:TP w)(hz:m.small):
  Calls Tryz.prog 21 #[iM m vn vq vd] w fun e w'=>e= .returned (.string (ofL (qA m)))∧Below w.heap.size w w':=P5 m vn vq vd w ho hl hr ht hz fun _ _ f _=>aeo m f
end Go.Proofs.YtkblmloobkiloaaGreatDoor
namespace Go.Proofs.YtkblmloobkiloaaGreatDoor
open Go.Lib (hid)
open Go.RowKit
def ScS(w:World)(p:Nat)(s:ByteArray)(at_:Nat):Prop:=Blk w p 114 #[.string s,.int .i64 (at_:Int)]∧at_≤s.size∧s.size≤16777216
theorem ScS.below{w w':World}{p:Nat}{s:ByteArray}{at_:Nat}(h:ScS w p s at_)(hb:Below w.heap.size w w'):ScS w' p s at_:=⟨Blk.below h.1 hb (Blk.lt h.1),h.2⟩
theorem ScS.off{S:Nat→Prop}{w w':World}{p:Nat}{s:ByteArray}{at_:Nat}(h:ScS w p s at_)(ho:Off S w w')(hp:¬S p):ScS w' p s at_:=⟨ho.blk h.1 hp,h.2⟩
def d_(n:Int):Ending:= .panicked [{v:= .iface 111 (.int .i64 n),recovered:=false}]
def dW{α:Type}(p:Nat)(s:ByteArray)(V:α→Ending→World→Prop)(r:Except Nat (α×List UInt8))(w:World)(e:Ending)(w':World):Prop:=
 Off (fun i=>i=p) w w'∧match r with
  | .ok (x,l)=>V x e w'∧∃a,ScS w' p s a∧s.data.toList.drop a=l
  | .error n=>e=d_ ((s.size:Int)-(n:Int))
def QH(w:World)(p:Nat):Nat:=match w.cell? ⟨p,1,none⟩with
 |some (.int _ z)=>z.toNat
 |_=>0
theorem ScS.at_{w:World}{p:Nat}{s:ByteArray}{a:Nat}(h:ScS w p s a):QH w p=a:=by
 have k1:w.cell? ⟨p,1,none⟩=some (.int .i64 (a:Int)):=h.1.cell 1
 unfold QH
 rw[k1]
 rfl
theorem byte_at(s:ByteArray)(a:Nat)(h:a<s.size):s.data.toList[a]? =some (s[a]'h):=by
 rw[Array.getElem?_toList]
 exact Array.getElem?_eq_getElem h
def SE(w:World):Prop:=(∃ev,w.cell? ⟨1,0,none⟩=some ev∧(ev= .nilIface∨∃te pe,ev= .iface te pe))∧∃ev,w.cell? ⟨2,0,none⟩=some ev∧(ev= .nilIface∨∃te pe,ev= .iface te pe)
theorem SE.low{w w':World}{B:Nat}(h:SE w)(hb:Below B w w')(hB:8≤B):SE w':=by
 obtain⟨⟨e1,h1,h2⟩,⟨e3,h3,h4⟩⟩:=h
 exact⟨⟨e1,(hb.cell (p:=⟨1,0,none⟩) (Nat.lt_of_lt_of_le (show 1<8 by decide) hB)).trans h1,h2⟩,⟨e3,(hb.cell (p:=⟨2,0,none⟩) (Nat.lt_of_lt_of_le (show 2<8 by decide) hB)).trans h3,h4⟩⟩
theorem dW.no{α:Type}{p:Nat}{s:ByteArray}{V:α→Ending→World→Prop}{r:Except Nat (α×List UInt8)}{w w':World}{n:Nat}(hr:r= .error n)(ho:Off (fun i=>i=p) w w'):dW p s V r w (.panicked [{v:= .iface 111 (.int .i64 ((s.size:Int)-(n:Int))),recovered:=false}]) w':=by
 subst hr
 exact⟨ho,rfl⟩
def xI(l:List UInt8):Option (List UInt8×List UInt8):=match l with
 | []=>none
 |c::r=>if c.toNat≠34 then none else unq r
def pJ(l:List UInt8)(e:Ending):Prop:=match xI l with
 |some (t,r)=>e= .returned (.tuple #[.string (ofL t),.int .i64 ((l.length-r.length:Nat):Int)])
 |none=>e= .returned (.tuple #[.string ⟨#[]⟩,.int .i64 0])
theorem pJ.no{l:List UInt8}(h:xI l=none):pJ l (.returned (.tuple #[.string ⟨#[]⟩,.int .i64 0])):=by
 unfold pJ
 rw[h]
def pK(l:List UInt8)(j:Nat)(B:List UInt8):Prop:=xI l=(unq (l.drop j)).map fun p=>(B++p.1,p.2)
theorem pK.no{l:List UInt8}{j:Nat}{B:List UInt8}(h:pK l j B)(hn:unq (l.drop j)=none):xI l=none:=by
 unfold pK at h
 rw[h,hn]
 rfl
theorem pK.next{l:List UInt8}{j i:Nat}{B x:List UInt8}(h:pK l j B)(hn:unq (l.drop j)=(unq (l.drop i)).map fun p=>(x++p.1,p.2)):pK l i (B++x):=by
 unfold pK at h⊢
 rw[h,hn,Option.map_map]
 congr 1
 funext p
 simp
theorem dW.get{α:Type}{p:Nat}{s:ByteArray}{V:α→Ending→World→Prop}{r:Except Nat (α×List UInt8)}{w w':World}{e:Ending}(h:dW p s V r w e w'):
  (∃n,r= .error n∧e= .panicked [{v:= .iface 111 (.int .i64 ((s.size:Int)-(n:Int))),recovered:=false}]∧Off (fun i=>i=p) w w')∨∃x l a,r= .ok (x,l)∧V x e w'∧Off (fun i=>i=p) w w'∧ScS w' p s a∧s.data.toList.drop a=l:=by
 obtain⟨ho,h⟩:=h
 cases r with
 |error n=>exact .inl ⟨n,rfl,h,ho⟩
 |ok x=>
  obtain⟨x,l⟩:=x
  obtain⟨hv,a,hs,hd⟩:=h
  exact .inr ⟨x,l,a,rfl,hv,ho,hs,hd⟩
structure jK(w0 w:World)(p z:Nat)(s:ByteArray)(a:Nat)(cs:Array Value):Prop where
 off:Off (fun i=>i=p∨z≤i) w0 w
 hz:Blk w z 39 #[.int .u16 0,.int .u32 0,.int .u8 0,.int .u32 0,.int .u64 0,.int .u32 0,.int .u32 0,.int .u32 0,.int .u64 0,.string ⟨#[]⟩,.string ⟨#[]⟩,.string ⟨#[]⟩,.string ⟨#[]⟩]
 hf:Blk w (z+1) 39 cs
 sc:ScS w p s a
 se:SE w
 rd:Ready w
 lt:p<z
 h8:8≤p
theorem jK.call{w0 w w':World}{p z:Nat}{s:ByteArray}{a a':Nat}{cs:Array Value}(h:jK w0 w p z s a cs)(ho:Off (fun i=>i=p) w w')(hs:ScS w' p s a'):jK w0 w' p z s a' cs:=by
 have hp:=h.lt
 have h8:=h.h8
 have hb:Below 8 w w':=ho.below (fun i hi=>by have hi:i=p:=hi;omega) h.rd.eight
 exact⟨h.off.trans ho.toN,ho.blk h.hz (fun hi=>by have hi:z=p:=hi;omega),ho.blk h.hf (fun hi=>by have hi:z+1=p:=hi;omega),hs,h.se.low hb (Nat.le_refl 8),h.rd.low hb (Nat.le_refl 8),hp,h8⟩
theorem jK.aW{w0 w:World}{p z:Nat}{s:ByteArray}{a:Nat}{cs:Array Value}(h:jK w0 w p z s a cs)(i:Nat)(v:Value):jK w0 (w.setCell ⟨z+1,i,none⟩ v) p z s a (cs.setIfInBounds i v):=by
 have hp:=h.lt
 have h8:=h.h8
 have hso:=fun(S:Nat→Prop) (hS:S (z+1))=>(Off.refl S w).setCell (p:=⟨z+1,i,none⟩) hS v
 have hb:Below 8 w (w.setCell ⟨z+1,i,none⟩ v):=(hso (fun i=>i=z+1) rfl).below (fun i hi=>by have hi:i=z+1:=hi;omega) h.rd.eight
 exact⟨h.off.trans (hso _ (.inr (Nat.le_succ _))),(hso (fun i=>i=z+1) rfl).blk h.hz (by omega),h.hf.aW i v,h.sc.off (hso (fun i=>i=z+1) rfl) (by omega),h.se.low hb (Nat.le_refl 8),h.rd.low hb (Nat.le_refl 8),hp,h8⟩
theorem jK.alloc{w0 w:World}{p z:Nat}{s:ByteArray}{a:Nat}{cs:Array Value}(h:jK w0 w p z s a cs)(x:Obj):jK w0 (w.alloc x) p z s a cs:=by
 have hb:Below w.heap.size w (w.alloc x):=(Below.refl _ _).alloc (Nat.le_refl _) x
 exact⟨h.off.alloc x,h.hz.alloc _,h.hf.alloc _,h.sc.below hb,h.se.low hb h.rd.eight,h.rd.alloc x,h.lt,h.h8⟩
theorem jK.drew{w0 w:World}{p z:Nat}{s:ByteArray}{a:Nat}{cs:Array Value}(h:jK w0 w p z s a cs):jK w0 w.drew p z s a cs:=by
 have hb:Below w.heap.size w w.drew:=aC w
 exact⟨h.off.drew,h.hz,h.hf,h.sc.below hb,h.se.low hb h.rd.eight,h.rd.below hb (Nat.le_refl _),h.lt,h.h8⟩
def Many{α:Type}(one:List UInt8→Except Nat (α×List UInt8))(L:List UInt8)(xs:List α)(l:List UInt8):Prop:=
 eU one L=(eP one (16-xs.length) (decide (xs.length=0)) l).map fun p=>(xs++p.1,p.2)
theorem Many.full{α:Type}{one:List UInt8→Except Nat (α×List UInt8)}{L:List UInt8}{xs:List α}{l:List UInt8}(h:Many one L xs l)(hl:¬l.head?=some 93)(hx:xs.length=16):eU one L= .error l.length:=by
 rw[h,hx]
 unfold eP
 rw[if_neg hl]
 rfl
theorem DI{α:Type}(one:List UInt8→Except Nat (α×List UInt8))(r:Except Nat (List UInt8))(xs:List α)(n:Nat):
  ((r >>= fun l=>one l >>= fun x=>eP one n false x.2 >>= fun y=>pure (x.1::y.1,y.2)):Except Nat (List α×List UInt8)).map (fun p=>(xs++p.1,p.2))=(r >>= fun l=>one l >>= fun x=>(eP one n false x.2).map fun p=>((xs++[x.1])++p.1,p.2)):=by
 cases r with
 |error n=>rfl
 |ok l1=>
  simp only[bC]
  cases one l1 with
  |error n=>rfl
  |ok x=>
   simp only[bC]
   cases eP one n false x.2 with
   |error n=>rfl
   |ok y=>
    show Except.ok (xs++x.1::y.1,y.2)=Except.ok ((xs++[x.1])++y.1,y.2)
    simp
theorem Many.step{α:Type}{one:List UInt8→Except Nat (α×List UInt8)}{L:List UInt8}{xs:List α}{l:List UInt8}(h:Many one L xs l)(hl:¬l.head?=some 93)(hx:xs.length<16):
  eU one L=((if decide (xs.length=0)then pure l else dQ [32] l) >>= fun l=>one l >>= fun x=>(eP one (15-xs.length) false x.2).map fun p=>((xs++[x.1])++p.1,p.2)):=by
 rw[h,show 16-xs.length=(15-xs.length)+1 from by omega]
 rw[eP.eq_def]
 dsimp only
 rw[if_neg hl]
 cases decide (xs.length=0)with
 |true=>exact DI one (pure l) xs _
 |false=>exact DI one (dQ [32] l) xs _
theorem Many.next{α:Type}{one:List UInt8→Except Nat (α×List UInt8)}{L:List UInt8}{xs:List α}{x:α×List UInt8}(hx:xs.length<16)(h:eU one L=(eP one (15-xs.length) false x.2).map fun p=>((xs++[x.1])++p.1,p.2)):Many one L (xs++[x.1]) x.2:=by
 unfold Many
 rw[h,List.length_append,List.length_cons,List.length_nil,show 16-(xs.length+(0+1))=15-xs.length from by omega,show decide (xs.length+(0+1)=0)=false from by simp]
theorem ScS.noT{w:World}{p:Nat}{s:ByteArray}{a:Nat}{e:TypeId}(h:ScS w p s a)(he:114≠e):∀g cur fr,g=p→w.heap[g]? ≠some (Obj.cells cur e fr):=h.1.noT he
theorem ScS.ne{w:World}{p q:Nat}{s:ByteArray}{a:Nat}{t:TypeId}{cs:Array Value}(h:ScS w p s a)(hm:Blk w q t cs)(ht:114≠t):p≠q:=fun e=>h.noT ht q _ _ e.symm hm
theorem OL.sc{w w':World}{p base:Nat}{m:Mg}{vn vq vd:Value}{s:ByteArray}{a:Nat}(h:OL w base m vn vq vd)(hr:ScS w p s a)(ho:Off (fun i=>i=p) w w'):OL w' base m vn vq vd:=
 h.off ho fun i cur fr e hS he=>by
  rcases he with rfl|rfl|rfl<;>exact hr.noT (by decide) i cur fr hS
def bY(p q base:Nat)(s:ByteArray)(r:Except Nat (Mg×List UInt8))(w:World)(e:Ending)(w':World):Prop:=
 Off (fun i=>i=p∨i=q) w w'∧match r with
  | .ok (m,l)=>e= .returned (.tuple #[])∧(∃vn vq vd,aK w' q m vn vq vd∧OL w' base m vn vq vd)∧∃a,ScS w' p s a∧s.data.toList.drop a=l
  | .error n=>e= .panicked [{v:= .iface 111 (.int .i64 ((s.size:Int)-(n:Int))),recovered:=false}]
theorem bY.end_{w w1 w':World}{p q base a:Nat}{s:ByteArray}{vn vq vd xn xq xd:Value}{l:List UInt8}{m m':Mg}{r:Except Nat (Mg×List UInt8)}(hr:r= .ok (m',l))(h:ScS w1 p s a)(hd:s.data.toList.drop a=l)(hm:aK w1 q m vn vq vd)(ho:OL w1 base m' xn xq xd)(h1:Off (fun i=>i=p) w w1)(hb:aK w' q m' xn xq xd)(hoff:Off (fun i=>i=q) w1 w'):bY p q base s r w (.returned (.tuple #[])) w':=by
 subst hr
 exact⟨(h1.mono fun _ _ h=> .inl h).trans (hoff.mono fun _ _ h=> .inr h),rfl,⟨xn,xq,xd,hb,ho.qp hm hoff⟩,a,h.off hoff (h.ne hm (by decide)),hd⟩
theorem bY.no{w w1:World}{p q base n:Nat}{s:ByteArray}{r:Except Nat (Mg×List UInt8)}(hr:r= .error n)(h1:Off (fun i=>i=p) w w1):bY p q base s r w (.panicked [{v:= .iface 111 (.int .i64 ((s.size:Int)-(n:Int))),recovered:=false}]) w1:=by
 subst hr
 exact⟨h1.mono fun _ _ h=> .inl h,rfl⟩
def Fld.rX:Fld→UInt8
 | .bI=>109
 | .version=>118
 | .dB=>97
 | .uname=>117
 | .bF=>110
 | .bH=>101
 | .aT=>111
 | .fid=>102
 | .aU=>119
 | .names=>78
 | .aV=>81
 | .qid=>113
 | .mode=>100
 | .aQ=>105
 | .name=>99
 | .perm=>112
 | .offset=>79
 | .count=>67
 | .data=>68
 | .stat=>83
def iQ(k:Nat):ByteArray:=ofL (((bQ k).getD []).map Fld.rX)
theorem FN(k:Nat):k=100∨k=101∨k=102∨k=103∨k=104∨k=105∨k=107∨k=108∨k=109∨k=110∨k=111∨k=112∨k=113∨k=114∨k=115∨k=116∨k=117∨k=118∨k=119∨k=120∨k=121∨k=122∨k=123∨k=124∨k=125∨k=126∨k=127∨bQ k=none:=by
 unfold bQ
 split<;>simp_all
theorem OD{k:Nat}(h:bQ k=none):k≠100∧k≠101∧k≠102∧k≠103∧k≠104∧k≠105∧k≠107∧k≠108∧k≠109∧k≠110∧k≠111∧k≠112∧k≠113∧k≠114∧k≠115∧k≠116∧k≠117∧k≠118∧k≠119∧k≠120∧k≠121∧k≠122∧k≠123∧k≠124∧k≠125∧k≠126∧k≠127:=by
 refine⟨?_, ?_, ?_, ?_, ?_, ?_, ?_, ?_, ?_, ?_, ?_, ?_, ?_, ?_, ?_, ?_, ?_, ?_, ?_, ?_, ?_, ?_, ?_, ?_, ?_, ?_, ?_⟩<;>(rintro rfl;cases h)
theorem Zg{k:Nat}(h:bQ k=none):fO k=[]:=by
 have:=OD h
 unfold fO
 split<;>first|rfl|omega
theorem Bv(k:Nat)(hk:k<256)(w:World):Calls Tryz.prog 48 #[.int .u8 (k:Int)] w fun e w'=>e= .returned (.tuple #[.string (iQ k),.bool (bQ k).isSome])∧w=w':=by
 rcases FN k with rfl|rfl|rfl|rfl|rfl|rfl|rfl|rfl|rfl|rfl|rfl|rfl|rfl|rfl|rfl|rfl|rfl|rfl|rfl|rfl|rfl|rfl|rfl|rfl|rfl|rfl|rfl|hn
 ·as_aux_lemma=>
   rw[show iQ 100=⟨#[109,118]⟩from rfl,show(bQ 100).isSome=true from rfl]
   change Calls Tryz.prog 48 #[.int .u8 100] w _
   go_enter Tryz.func48,Tryz.ntmps48
   go_wp2_with fail
   refine bodyPost_ret (v:= .tuple #[.string ⟨#[109,118]⟩,.bool true]) (by simp[results,Tryz.results48]) rfl ⟨rfl,rfl⟩
 ·as_aux_lemma=>
   rw[show iQ 101=⟨#[109,118]⟩from rfl,show(bQ 101).isSome=true from rfl]
   change Calls Tryz.prog 48 #[.int .u8 101] w _
   go_enter Tryz.func48,Tryz.ntmps48
   go_wp2_with fail
   refine bodyPost_ret (v:= .tuple #[.string ⟨#[109,118]⟩,.bool true]) (by simp[results,Tryz.results48]) rfl ⟨rfl,rfl⟩
 ·as_aux_lemma=>
   rw[show iQ 102=⟨#[97,117,110]⟩from rfl,show(bQ 102).isSome=true from rfl]
   change Calls Tryz.prog 48 #[.int .u8 102] w _
   go_enter Tryz.func48,Tryz.ntmps48
   go_wp2_with fail
   refine bodyPost_ret (v:= .tuple #[.string ⟨#[97,117,110]⟩,.bool true]) (by simp[results,Tryz.results48]) rfl ⟨rfl,rfl⟩
 ·as_aux_lemma=>
   rw[show iQ 103=⟨#[113]⟩from rfl,show(bQ 103).isSome=true from rfl]
   change Calls Tryz.prog 48 #[.int .u8 103] w _
   go_enter Tryz.func48,Tryz.ntmps48
   go_wp2_with fail
   refine bodyPost_ret (v:= .tuple #[.string ⟨#[113]⟩,.bool true]) (by simp[results,Tryz.results48]) rfl ⟨rfl,rfl⟩
 ·as_aux_lemma=>
   rw[show iQ 104=⟨#[102,97,117,110]⟩from rfl,show(bQ 104).isSome=true from rfl]
   change Calls Tryz.prog 48 #[.int .u8 104] w _
   go_enter Tryz.func48,Tryz.ntmps48
   go_wp2_with fail
   refine bodyPost_ret (v:= .tuple #[.string ⟨#[102,97,117,110]⟩,.bool true]) (by simp[results,Tryz.results48]) rfl ⟨rfl,rfl⟩
 ·as_aux_lemma=>
   rw[show iQ 105=⟨#[113]⟩from rfl,show(bQ 105).isSome=true from rfl]
   change Calls Tryz.prog 48 #[.int .u8 105] w _
   go_enter Tryz.func48,Tryz.ntmps48
   go_wp2_with fail
   refine bodyPost_ret (v:= .tuple #[.string ⟨#[113]⟩,.bool true]) (by simp[results,Tryz.results48]) rfl ⟨rfl,rfl⟩
 ·as_aux_lemma=>
   rw[show iQ 107=⟨#[101]⟩from rfl,show(bQ 107).isSome=true from rfl]
   change Calls Tryz.prog 48 #[.int .u8 107] w _
   go_enter Tryz.func48,Tryz.ntmps48
   go_wp2_with fail
   refine bodyPost_ret (v:= .tuple #[.string ⟨#[101]⟩,.bool true]) (by simp[results,Tryz.results48]) rfl ⟨rfl,rfl⟩
 ·as_aux_lemma=>
   rw[show iQ 108=⟨#[111]⟩from rfl,show(bQ 108).isSome=true from rfl]
   change Calls Tryz.prog 48 #[.int .u8 108] w _
   go_enter Tryz.func48,Tryz.ntmps48
   go_wp2_with fail
   refine bodyPost_ret (v:= .tuple #[.string ⟨#[111]⟩,.bool true]) (by simp[results,Tryz.results48]) rfl ⟨rfl,rfl⟩
 ·as_aux_lemma=>
   rw[show iQ 109=⟨#[]⟩from rfl,show(bQ 109).isSome=true from rfl]
   change Calls Tryz.prog 48 #[.int .u8 109] w _
   go_enter Tryz.func48,Tryz.ntmps48
   go_wp2_with fail
   refine bodyPost_ret (v:= .tuple #[.string ⟨#[]⟩,.bool true]) (by simp[results,Tryz.results48]) rfl ⟨rfl,rfl⟩
 ·as_aux_lemma=>
   rw[show iQ 110=⟨#[102,119,78]⟩from rfl,show(bQ 110).isSome=true from rfl]
   change Calls Tryz.prog 48 #[.int .u8 110] w _
   go_enter Tryz.func48,Tryz.ntmps48
   go_wp2_with fail
   refine bodyPost_ret (v:= .tuple #[.string ⟨#[102,119,78]⟩,.bool true]) (by simp[results,Tryz.results48]) rfl ⟨rfl,rfl⟩
 ·as_aux_lemma=>
   rw[show iQ 111=⟨#[81]⟩from rfl,show(bQ 111).isSome=true from rfl]
   change Calls Tryz.prog 48 #[.int .u8 111] w _
   go_enter Tryz.func48,Tryz.ntmps48
   go_wp2_with fail
   refine bodyPost_ret (v:= .tuple #[.string ⟨#[81]⟩,.bool true]) (by simp[results,Tryz.results48]) rfl ⟨rfl,rfl⟩
 ·as_aux_lemma=>
   rw[show iQ 112=⟨#[102,100]⟩from rfl,show(bQ 112).isSome=true from rfl]
   change Calls Tryz.prog 48 #[.int .u8 112] w _
   go_enter Tryz.func48,Tryz.ntmps48
   go_wp2_with fail
   refine bodyPost_ret (v:= .tuple #[.string ⟨#[102,100]⟩,.bool true]) (by simp[results,Tryz.results48]) rfl ⟨rfl,rfl⟩
 ·as_aux_lemma=>
   rw[show iQ 113=⟨#[113,105]⟩from rfl,show(bQ 113).isSome=true from rfl]
   change Calls Tryz.prog 48 #[.int .u8 113] w _
   go_enter Tryz.func48,Tryz.ntmps48
   go_wp2_with fail
   refine bodyPost_ret (v:= .tuple #[.string ⟨#[113,105]⟩,.bool true]) (by simp[results,Tryz.results48]) rfl ⟨rfl,rfl⟩
 ·as_aux_lemma=>
   rw[show iQ 114=⟨#[102,99,112,100]⟩from rfl,show(bQ 114).isSome=true from rfl]
   change Calls Tryz.prog 48 #[.int .u8 114] w _
   go_enter Tryz.func48,Tryz.ntmps48
   go_wp2_with fail
   refine bodyPost_ret (v:= .tuple #[.string ⟨#[102,99,112,100]⟩,.bool true]) (by simp[results,Tryz.results48]) rfl ⟨rfl,rfl⟩
 ·as_aux_lemma=>
   rw[show iQ 115=⟨#[113,105]⟩from rfl,show(bQ 115).isSome=true from rfl]
   change Calls Tryz.prog 48 #[.int .u8 115] w _
   go_enter Tryz.func48,Tryz.ntmps48
   go_wp2_with fail
   refine bodyPost_ret (v:= .tuple #[.string ⟨#[113,105]⟩,.bool true]) (by simp[results,Tryz.results48]) rfl ⟨rfl,rfl⟩
 ·as_aux_lemma=>
   rw[show iQ 116=⟨#[102,79,67]⟩from rfl,show(bQ 116).isSome=true from rfl]
   change Calls Tryz.prog 48 #[.int .u8 116] w _
   go_enter Tryz.func48,Tryz.ntmps48
   go_wp2_with fail
   refine bodyPost_ret (v:= .tuple #[.string ⟨#[102,79,67]⟩,.bool true]) (by simp[results,Tryz.results48]) rfl ⟨rfl,rfl⟩
 ·as_aux_lemma=>
   rw[show iQ 117=⟨#[68]⟩from rfl,show(bQ 117).isSome=true from rfl]
   change Calls Tryz.prog 48 #[.int .u8 117] w _
   go_enter Tryz.func48,Tryz.ntmps48
   go_wp2_with fail
   refine bodyPost_ret (v:= .tuple #[.string ⟨#[68]⟩,.bool true]) (by simp[results,Tryz.results48]) rfl ⟨rfl,rfl⟩
 ·as_aux_lemma=>
   rw[show iQ 118=⟨#[102,79,68]⟩from rfl,show(bQ 118).isSome=true from rfl]
   change Calls Tryz.prog 48 #[.int .u8 118] w _
   go_enter Tryz.func48,Tryz.ntmps48
   go_wp2_with fail
   refine bodyPost_ret (v:= .tuple #[.string ⟨#[102,79,68]⟩,.bool true]) (by simp[results,Tryz.results48]) rfl ⟨rfl,rfl⟩
 ·as_aux_lemma=>
   rw[show iQ 119=⟨#[67]⟩from rfl,show(bQ 119).isSome=true from rfl]
   change Calls Tryz.prog 48 #[.int .u8 119] w _
   go_enter Tryz.func48,Tryz.ntmps48
   go_wp2_with fail
   refine bodyPost_ret (v:= .tuple #[.string ⟨#[67]⟩,.bool true]) (by simp[results,Tryz.results48]) rfl ⟨rfl,rfl⟩
 ·as_aux_lemma=>
   rw[show iQ 120=⟨#[102]⟩from rfl,show(bQ 120).isSome=true from rfl]
   change Calls Tryz.prog 48 #[.int .u8 120] w _
   go_enter Tryz.func48,Tryz.ntmps48
   go_wp2_with fail
   refine bodyPost_ret (v:= .tuple #[.string ⟨#[102]⟩,.bool true]) (by simp[results,Tryz.results48]) rfl ⟨rfl,rfl⟩
 ·as_aux_lemma=>
   rw[show iQ 121=⟨#[]⟩from rfl,show(bQ 121).isSome=true from rfl]
   change Calls Tryz.prog 48 #[.int .u8 121] w _
   go_enter Tryz.func48,Tryz.ntmps48
   go_wp2_with fail
   refine bodyPost_ret (v:= .tuple #[.string ⟨#[]⟩,.bool true]) (by simp[results,Tryz.results48]) rfl ⟨rfl,rfl⟩
 ·as_aux_lemma=>
   rw[show iQ 122=⟨#[102]⟩from rfl,show(bQ 122).isSome=true from rfl]
   change Calls Tryz.prog 48 #[.int .u8 122] w _
   go_enter Tryz.func48,Tryz.ntmps48
   go_wp2_with fail
   refine bodyPost_ret (v:= .tuple #[.string ⟨#[102]⟩,.bool true]) (by simp[results,Tryz.results48]) rfl ⟨rfl,rfl⟩
 ·as_aux_lemma=>
   rw[show iQ 123=⟨#[]⟩from rfl,show(bQ 123).isSome=true from rfl]
   change Calls Tryz.prog 48 #[.int .u8 123] w _
   go_enter Tryz.func48,Tryz.ntmps48
   go_wp2_with fail
   refine bodyPost_ret (v:= .tuple #[.string ⟨#[]⟩,.bool true]) (by simp[results,Tryz.results48]) rfl ⟨rfl,rfl⟩
 ·as_aux_lemma=>
   rw[show iQ 124=⟨#[102]⟩from rfl,show(bQ 124).isSome=true from rfl]
   change Calls Tryz.prog 48 #[.int .u8 124] w _
   go_enter Tryz.func48,Tryz.ntmps48
   go_wp2_with fail
   refine bodyPost_ret (v:= .tuple #[.string ⟨#[102]⟩,.bool true]) (by simp[results,Tryz.results48]) rfl ⟨rfl,rfl⟩
 ·as_aux_lemma=>
   rw[show iQ 125=⟨#[83]⟩from rfl,show(bQ 125).isSome=true from rfl]
   change Calls Tryz.prog 48 #[.int .u8 125] w _
   go_enter Tryz.func48,Tryz.ntmps48
   go_wp2_with fail
   refine bodyPost_ret (v:= .tuple #[.string ⟨#[83]⟩,.bool true]) (by simp[results,Tryz.results48]) rfl ⟨rfl,rfl⟩
 ·as_aux_lemma=>
   rw[show iQ 126=⟨#[102,83]⟩from rfl,show(bQ 126).isSome=true from rfl]
   change Calls Tryz.prog 48 #[.int .u8 126] w _
   go_enter Tryz.func48,Tryz.ntmps48
   go_wp2_with fail
   refine bodyPost_ret (v:= .tuple #[.string ⟨#[102,83]⟩,.bool true]) (by simp[results,Tryz.results48]) rfl ⟨rfl,rfl⟩
 ·as_aux_lemma=>
   rw[show iQ 127=⟨#[]⟩from rfl,show(bQ 127).isSome=true from rfl]
   change Calls Tryz.prog 48 #[.int .u8 127] w _
   go_enter Tryz.func48,Tryz.ntmps48
   go_wp2_with fail
   refine bodyPost_ret (v:= .tuple #[.string ⟨#[]⟩,.bool true]) (by simp[results,Tryz.results48]) rfl ⟨rfl,rfl⟩
 ·as_aux_lemma=>
   rw[show iQ k=⟨#[]⟩from by unfold iQ;rw[hn];rfl,show(bQ k).isSome=false from by rw[hn];rfl]
   obtain⟨VH,VI,VJ,VK,VL,VN,VO,VP,VQ,VR,VT,h112,VU,VW,VX,h116,VY,VZ,h119,PN,V3,h122,V4,V5,V6,V7,h127⟩:=OD hn
   have Xk:((k:Int)==100)=false:=by rw[beq_eq_false_iff_ne];omega
   have Xl:((k:Int)==101)=false:=by rw[beq_eq_false_iff_ne];omega
   have Xm:((k:Int)==102)=false:=by rw[beq_eq_false_iff_ne];omega
   have Xn:((k:Int)==103)=false:=by rw[beq_eq_false_iff_ne];omega
   have Xo:((k:Int)==104)=false:=by rw[beq_eq_false_iff_ne];omega
   have Xp:((k:Int)==105)=false:=by rw[beq_eq_false_iff_ne];omega
   have Xq:((k:Int)==107)=false:=by rw[beq_eq_false_iff_ne];omega
   have Xr:((k:Int)==108)=false:=by rw[beq_eq_false_iff_ne];omega
   have Xt:((k:Int)==109)=false:=by rw[beq_eq_false_iff_ne];omega
   have Xu:((k:Int)==110)=false:=by rw[beq_eq_false_iff_ne];omega
   have Xv:((k:Int)==111)=false:=by rw[beq_eq_false_iff_ne];omega
   have Xw:((k:Int)==112)=false:=by rw[beq_eq_false_iff_ne];omega
   have Xx:((k:Int)==113)=false:=by rw[beq_eq_false_iff_ne];omega
   have Xy:((k:Int)==114)=false:=by rw[beq_eq_false_iff_ne];omega
   have Xz:((k:Int)==115)=false:=by rw[beq_eq_false_iff_ne];omega
   have XA:((k:Int)==116)=false:=by rw[beq_eq_false_iff_ne];omega
   have XB:((k:Int)==117)=false:=by rw[beq_eq_false_iff_ne];omega
   have XC:((k:Int)==118)=false:=by rw[beq_eq_false_iff_ne];omega
   have XD:((k:Int)==119)=false:=by rw[beq_eq_false_iff_ne];omega
   have XE:((k:Int)==120)=false:=by rw[beq_eq_false_iff_ne];omega
   have XF:((k:Int)==121)=false:=by rw[beq_eq_false_iff_ne];omega
   have XG:((k:Int)==122)=false:=by rw[beq_eq_false_iff_ne];omega
   have XH:((k:Int)==123)=false:=by rw[beq_eq_false_iff_ne];omega
   have XI:((k:Int)==124)=false:=by rw[beq_eq_false_iff_ne];omega
   have XJ:((k:Int)==125)=false:=by rw[beq_eq_false_iff_ne];omega
   have XK:((k:Int)==126)=false:=by rw[beq_eq_false_iff_ne];omega
   have XL:((k:Int)==127)=false:=by rw[beq_eq_false_iff_ne];omega
   clear VH VI VJ VK VL VN VO VP VQ VR VT h112 VU VW VX h116 VY VZ h119 PN V3 h122 V4 V5 V6 V7 h127
   have hw:wrap64 (k:Int)=(k:Int):=IntWalk.wrap64_in _ (by omega)
   go_enter Tryz.func48,Tryz.ntmps48
   go_wp2_with fail
   refine bodyPost_ret (v:= .tuple #[.string ⟨#[]⟩,.bool false]) (by simp[results,Tryz.results48]) rfl ⟨rfl,rfl⟩
def Yp:List ByteArray:=[⟨#[118,101,114,115,105,111,110]⟩,⟨#[97,117,116,104]⟩,⟨#[97,116,116,97,99,104]⟩,⟨#[101,114,114,111,114]⟩,⟨#[102,108,117,115,104]⟩,⟨#[119,97,108,107]⟩,⟨#[111,112,101,110]⟩,⟨#[99,114,101,97,116,101]⟩,⟨#[114,101,97,100]⟩,⟨#[119,114,105,116,101]⟩,⟨#[99,108,117,110,107]⟩,⟨#[114,101,109,111,118,101]⟩,⟨#[115,116,97,116]⟩,⟨#[119,115,116,97,116]⟩]
def aag(k:Nat):ByteArray:=if k%2=0 then⟨#[84]⟩else⟨#[82]⟩
theorem ZQ{k:Nat}{fs:List Fld}(h:bQ k=some fs):100≤k∧k<128∧∃x,Yp[(k-100)/2]? =some x∧x.size≤10∧aag k++x=ofL (fO k):=by
 rcases FN k with rfl|rfl|rfl|rfl|rfl|rfl|rfl|rfl|rfl|rfl|rfl|rfl|rfl|rfl|rfl|rfl|rfl|rfl|rfl|rfl|rfl|rfl|rfl|rfl|rfl|rfl|rfl|hn
 all_goals first
  |exact⟨by decide,by decide,_,rfl,by decide,by kernel_rfl⟩
  |(rw[hn]at h;cases h)
theorem YW(k:Nat)(hk:k<256)(w:World):Calls Tryz.prog 36 #[.int .u8 (k:Int)] w fun e w'=>e= .returned (.string (ofL (fO k)))∧Below w.heap.size w w':=by
 have hup:Below w.heap.size w (w.alloc (.cells (h_ Yp).toArray 9)):=(Below.refl _ _).alloc (Nat.le_refl _) _
 have HUP:=hid hup
 have HN:=hid (Blk.new w 9 (h_ Yp).toArray)
 have ZY:=hid (fun w1=>Bv k hk w1)
 clear hup
 go_enter Tryz.func36,Tryz.ntmps36
 go_upto_region 2 with(fail)
 change Code.wp _ _ _ _ (w.alloc (.cells (h_ Yp).toArray 9))
 generalize w.alloc (.cells (h_ Yp).toArray 9)=w1 at HUP HN⊢
 generalize hz:w.heap.size=z at HN⊢
 have HZ:=hid hz
 clear hz
 go_wp2_with fail
 refine(ZY.out w1).mono ?_
 rintro e w' ⟨rfl,rfl⟩
 clear ZY
 cases hf:bQ k with
 |none=>
  rw[show(none:Option (List Fld)).isSome=false from rfl]
  have HR:=hid (Zg hf)
  clear hf
  go_wp2_with fail
  refine bodyPost_ret (v:= .string ⟨#[]⟩) (by simp[results,Tryz.results36]) rfl ⟨by rw[HR.out];rfl, ?_⟩
  exact HUP.out
 |some fs=>
  obtain⟨h1,h2,x,hx,hxs,hr⟩:=ZQ hf
  rw[show(some fs:Option (List Fld)).isSome=true from rfl]
  have HR:=hid hr
  have kx:w1.cell? ⟨z,(k-100)/2,none⟩=some (.string x):=(Blk.cell HN.out ((k-100)/2)).trans (by rw[List.getElem?_toArray,h_,List.getElem?_map,hx];rfl)
  have hw0:wrap64 (k:Int)=(k:Int):=IntWalk.wrap64_in _ (by omega)
  have hw1:(k:Int)-100=(((k-100:Nat)):Int):=by omega
  generalize hn:k-100=n at*
  have hnl:n<28:=by omega
  obtain⟨P,hP⟩:∃P,P=aag k++x:=⟨_,rfl⟩
  rw[←hP]at HR
  clear hf hx hr
  by_cases hpar:k%2=0
  ·have hm:Int.tmod ((k:Int)-100) 2=0:=by rw[hw1];show((n%2:Nat):Int)=0;omega
   have hq:Int.tdiv ((k:Int)-100) 2=((n/2:Nat):Int):=by rw[hw1];rfl
   have hlt:n/2<14:=by omega
   have ha:∀w,(Op.stringOp .add (⟨#[84]⟩:ByteArray) x).run Tryz.prog w= .ok (.string P) w:=fun w=>by
    rw[hP,aag,if_pos hpar]
    exact run_string_add_sum w _ _ (by have:(⟨#[84]⟩:ByteArray).size=1:=rfl;omega)
   have hk1:100≤k∧k<128:=by omega
   have h1:=hk1.1
   have h2:=hk1.2
   clear hP hpar hn hw1 hk1
   generalize n/2=q at*
   go_wp2_with fail
   refine bodyPost_ret (v:= .string P) (by simp[results,Tryz.results36]) rfl ⟨by rw[HR.out], ?_⟩
   exact HUP.out
  ·have hm:Int.tmod ((k:Int)-100) 2=1:=by rw[hw1];show((n%2:Nat):Int)=1;omega
   have hq:Int.tdiv ((k:Int)-100) 2=((n/2:Nat):Int):=by rw[hw1];rfl
   have hlt:n/2<14:=by omega
   have ha:∀w,(Op.stringOp .add (⟨#[82]⟩:ByteArray) x).run Tryz.prog w= .ok (.string P) w:=fun w=>by
    rw[hP,aag,if_neg hpar]
    exact run_string_add_sum w _ _ (by have:(⟨#[82]⟩:ByteArray).size=1:=rfl;omega)
   have hk1:100≤k∧k<128:=by omega
   have h1:=hk1.1
   have h2:=hk1.2
   clear hP hpar hn hw1 hk1
   generalize n/2=q at*
   go_wp2_with fail
   refine bodyPost_ret (v:= .string P) (by simp[results,Tryz.results36]) rfl ⟨by rw[HR.out], ?_⟩
   exact HUP.out
end Go.Proofs.YtkblmloobkiloaaGreatDoor
