/-
  MWL MWK MFR MLO MRX MRY MRZ MSA MSB MSC MSD MSE MSF: what the laws of package msg need of them.
-/
import Derived.Test.YtkblmloobkiloaaGreatDoorT00
import Derived.Test.YtkblmloobkiloaaGreatDoorT06
import Derived.KernelRfl
import Derived.Test.YtkblmloobkiloaaGreatDoorT26
import Derived.Test.YtkblmloobkiloaaGreatDoorT27
import Derived.Test.YtkblmloobkiloaaGreatDoorT03
import Derived.Test.YtkblmloobkiloaaGreatDoorTie
import Derived.ProofKit
import Derived.OpenShut
import Derived.LaidMore
import Derived.Lay
import Derived.SevenTiedAt
import Derived.Stop.Joined
import Derived.HandedShaped
import Derived.Lib.LaidU8
import Derived.Lib.LaidTab
import Derived.Shelf.Vars
import Derived.Test.YtkblmloobkiloaaGreatDoorT05
import Derived.Test.YtkblmloobkiloaaGreatDoorT19
import Derived.Test.YtkblmloobkiloaaGreatDoorT25
import Derived.Test.YtkblmloobkiloaaGreatDoorT13
import Derived.IntWalk
import Derived.Test.YtkblmloobkiloaaGreatDoorT02
import Derived.Test.YtkblmloobkiloaaGreatDoorT14
import Derived.Test.YtkblmloobkiloaaGreatDoorT22
set_option maxRecDepth 100000
set_option maxHeartbeats 6400000
namespace Go.Proofs.YtkblmloobkiloaaGreatDoor
open Go.Lib (hid)
abbrev exV:ByteArray:=⟨#[57,80,50,48,48,48]⟩
def exA:Mg:= {head 100 65535 with bI:=8192,version:=exV}
def exB:Mg:= {head 110 3 with fid:=1,aU:=2,names:=[⟨#[97]⟩,⟨#[46,46]⟩]}
def exF:List UInt8:=[24,0,0,0,110,3,0,1,0,0,0,2,0,0,0,2,0,1,0,97,2,0,46,46]
def exL:List UInt8:=[84,118,101,114,115,105,111,110,32,54,53,53,51,53,32,109,115,105,122,101,61,56,49,57,50,32,118,101,114,115,105,111,110,61,34,57,80,50,48,48,48,34]
theorem FX:exA.ok:=⟨by decide,by decide,by decide,by decide,by decide,by decide,by decide,by decide,by decide,by decide,by decide,by decide,fun q h=>(by cases h),⟨by decide,by decide,by decide⟩,⟨by decide,by decide,⟨by decide,by decide,by decide⟩,by decide,by decide,by decide,by decide⟩⟩
theorem MS:exB.ok:=⟨by decide,by decide,by decide,by decide,by decide,by decide,by decide,by decide,by decide,by decide,by decide,by decide,fun q h=>(by cases h),⟨by decide,by decide,by decide⟩,⟨by decide,by decide,⟨by decide,by decide,by decide⟩,by decide,by decide,by decide,by decide⟩⟩
theorem OT:refused exA=(0,19):=by kernel_rfl
theorem OU:refused exB=(0,24):=by kernel_rfl
theorem H9:enc exA=([19,0,0,0,100,255,255,0,32,0,0,6,0,57,80,50,48,48,48],0):=by kernel_rfl
theorem OV:enc exB=(exF,0):=by kernel_rfl
theorem MV:qA exA=exL:=by kernel_rfl
theorem MW:qA exB=[84,119,97,108,107,32,51,32,102,105,100,61,49,32,110,101,119,102,105,100,61,50,32,110,97,109,101,115,61,91,34,97,34,32,34,46,46,34,93]:=by kernel_rfl
theorem OW:dec exF=(exB,0):=by
 have h:=NR MS (by rw[OU])
 rw[OV]at h
 exact h
theorem Jw:parseM exL=(exA,0,0):=by
 have h:=Et FX (by rw[OT])
 rw[MV]at h
 exact h
open Go.RowKit
theorem zM:exA.small:=fun f=>by cases f<;>decide
theorem Jy:exB.small:=fun f=>by cases f<;>decide
theorem iW.new(w:World)(t:TypeId)(l:List ByteArray)(hl:l.length≤maxLen):iW (w.alloc (.cells (h_ l).toArray t)) (w.heap.size+1) (.slice (some ⟨w.heap.size,0,none⟩) l.length l.length) l:=
 ⟨_,_,rfl,Nat.le_refl _,hl,dI w t (h_ l) l.length 1 (by simp)⟩
theorem Bys.new(w:World)(t:TypeId)(l:List UInt8)(hl:l.length≤maxLen):Bys (w.alloc (.cells (aX l).toArray t)) (w.heap.size+1) (.slice (some ⟨w.heap.size,0,none⟩) l.length l.length) l:=
 ⟨_,_,rfl,Nat.le_refl _,hl,dI w t (aX l) l.length 1 (by simp)⟩
theorem DX(w:World)(hse:SE w)(hrd:Ready w)(htp:TP w):Calls Tryz.prog 12 #[] w fun e w'=>e= .returned (.bool true)∧Below w.heap.size w w':=by
 have H8:=hid hrd.eight
 have HSE:=hid hse
 have HTP:=hid htp
 have HR:=hid hrd
 clear hse hrd htp
 go_enter Tryz.func12,Tryz.ntmps12
 go_upto_region 2 with(change wpList _ _ _ _ _ (w.alloc (.cells (mgN (head 0 0)).toArray 41));have hup:Below w.heap.size w (w.alloc (.cells (mgN (head 0 0)).toArray 41)):=(Below.refl _ _).alloc (Nat.le_refl _) _;have HM0:=hid (show aK (w.alloc (.cells (mgN (head 0 0)).toArray 41)) w.heap.size (head 0 0) (.slice none 0 0) (.slice none 0 0) (.slice none 0 0)from Blk.new w _ _);have HB0:=hid hup;have HR0:=hid (HR.out.below hup (Nat.le_refl _));clear hup;generalize w.alloc (.cells (mgN (head 0 0)).toArray 41)=w0 at HM0 HB0 HR0⊢;refine dA HM0.out 0 (mgN exA) _ (bW ..) (Nat.le_refl 36) (bT _ rfl rfl rfl) rfl _ _ _ rfl rfl rfl aB ?_;intro w1 hs ho;have HM1:=hid (show aK w1 w.heap.size exA (.slice none 0 0) (.slice none 0 0) (.slice none 0 0)from hs);have HO1:=hid (ho (fun i=>i=w.heap.size) rfl w0 (Off.refl _ _));clear hs ho)
 have hb1:Below w.heap.size w0 w1:=HO1.out.below (fun k hk=>by have hk:k=w.heap.size:=hk;omega) HB0.out.size
 have HB1:=hid (HB0.out.trans hb1)
 have HR1:=hid (HR0.out.low hb1 HR.out.eight)
 generalize hz:w.heap.size=z at HM1⊢
 have HZ:=hid hz
 clear hz hb1 HM0 HB0 HR0 HO1
 have HEN:=hid (oh exA _ _ _ w1 FX ⟨iW.nil_ _ _,lX.nil_ _ _,Bys.nil_ _ _⟩ HR1.out zM)
 rw[H9]at HEN
 go_wp2_with(refine wlw HM1.out 0 (aF exA (.slice none 0 0) (.slice none 0 0) (.slice none 0 0)) rfl rfl _ _ rfl rfl _ Tryz.underlying41 rfl aB ?_)
 refine HEN.out.mono ?_
 rintro e w2 ⟨⟨v,rfl,hown⟩,hb⟩
 dsimp only at hown
 have HF2:=hid (Bys.iH hown)
 have HM2:=hid (Blk.below HM1.out hb (Blk.lt HM1.out))
 have HB2:=hid (HB1.out.trans (hb.mono HB1.out.size))
 have HR2:=hid (HR1.out.below hb (Nat.le_refl _))
 clear hown hb HEN HM1 HB1 HR1
 go_wp2_with fail
 have hup:Below w2.heap.size w2 (w2.alloc (.cells (h_ exB.names).toArray 9)):=(Below.refl _ _).alloc (Nat.le_refl _) _
 have HN3:=hid (show iW (w2.alloc (.cells (h_ exB.names).toArray 9)) (w2.alloc (.cells (h_ exB.names).toArray 9)).heap.size (.slice (some ⟨w2.heap.size,0,none⟩) 2 2) exB.names from by rw[World.size_alloc];exact iW.new w2 _ exB.names (by decide))
 have HF3:=hid ((HF2.out.below hup).more hup.size)
 have HM3:=hid (Blk.below HM2.out hup (Blk.lt HM2.out))
 have HB3:=hid (HB2.out.trans (hup.mono HB2.out.size))
 have HR3:=hid (HR2.out.below hup (Nat.le_refl _))
 clear hup
 change Calls _ _ _ (w2.alloc (.cells (h_ exB.names).toArray 9)) _
 generalize w2.alloc (.cells (h_ exB.names).toArray 9)=w3 at HN3 HF3 HM3 HB3 HR3⊢
 generalize w2.heap.size=b2 at HN3⊢
 clear HF2 HM2 HB2 HR2
 have HT:=hid (Fp exB _ _ _ w3 MS ⟨HN3.out,lX.nil_ _ _,Bys.nil_ _ _⟩ HR3.out (TP.low HTP.out HB3.out HR.out.eight) Jy)
 rw[MW]at HT
 refine HT.out.mono ?_
 rintro e w4 ⟨rfl,hb⟩
 have HF4:=hid ((HF3.out.below hb).more hb.size)
 have HM4:=hid (Blk.below HM3.out hb (Blk.lt HM3.out))
 have HB4:=hid (HB3.out.trans (hb.mono HB3.out.size))
 have HR4:=hid (HR3.out.below hb (Nat.le_refl _))
 clear hb HN3 HF3 HM3 HB3 HR3 HT
 go_wp2_with fail
 have hup:Below w4.heap.size w4 (w4.alloc (.cells (aX exF).toArray 5)):=(Below.refl _ _).alloc (Nat.le_refl _) _
 have HX5:=hid (show Bys (w4.alloc (.cells (aX exF).toArray 5)) (w4.alloc (.cells (aX exF).toArray 5)).heap.size (.slice (some ⟨w4.heap.size,0,none⟩) 24 24) exF from by rw[World.size_alloc];exact Bys.new w4 _ exF (by decide))
 have HF5:=hid ((HF4.out.below hup).more hup.size)
 have HM5:=hid (Blk.below HM4.out hup (Blk.lt HM4.out))
 have HB5:=hid (HB4.out.trans (hup.mono HB4.out.size))
 have HR5:=hid (HR4.out.below hup (Nat.le_refl _))
 clear hup
 change Calls _ _ _ (w4.alloc (.cells (aX exF).toArray 5)) _
 generalize w4.alloc (.cells (aX exF).toArray 5)=w5 at HX5 HF5 HM5 HB5 HR5⊢
 generalize w4.heap.size=b4 at HX5⊢
 clear HF4 HM4 HB4 HR4
 have HT:=hid (rV _ exF w5 HX5.out HR5.out (by decide))
 rw[OW]at HT
 refine HT.out.mono ?_
 rintro e w6 ⟨⟨bn,bq,bd,rfl,hol⟩,hb⟩
 have qZ:=hid hol
 have HF6:=hid ((HF5.out.below hb).more hb.size)
 have HM6:=hid (Blk.below HM5.out hb (Blk.lt HM5.out))
 have HB6:=hid (HB5.out.trans (hb.mono HB5.out.size))
 have HR6:=hid (HR5.out.below hb (Nat.le_refl _))
 clear hol hb HX5 HF5 HM5 HB5 HR5 HT
 dsimp only
 go_upto_region 5 with(change wpList _ _ _ _ _ (w6.alloc (.cells (mgN (head 0 0)).toArray 41));have hup:Below w6.heap.size w6 (w6.alloc (.cells (mgN (head 0 0)).toArray 41)):=(Below.refl _ _).alloc (Nat.le_refl _) _;have HMZ:=hid (show aK (w6.alloc (.cells (mgN (head 0 0)).toArray 41)) w6.heap.size (head 0 0) (.slice none 0 0) (.slice none 0 0) (.slice none 0 0)from Blk.new w6 _ _);generalize(w6.alloc (.cells (mgN (head 0 0)).toArray 41))=w6z at hup HMZ⊢;refine dA HMZ.out 0 (aF exB bn bq bd) _ (bW ..) (Nat.le_refl 36) (bT _ (bG qZ.out.n) (bG qZ.out.q) (bG qZ.out.d)) rfl _ _ _ rfl rfl rfl aB ?_;intro w7 hs ho;have HD7:=hid (show aK w7 w6.heap.size exB bn bq bd from hs);have FY:=hid (hup.trans ((ho (fun i=>i=w6.heap.size) rfl w6z (Off.refl _ _)).below (fun k hk=>(by have hk:k=w6.heap.size:=hk;omega)) hup.size));clear hs ho hup HMZ)
 have FQ:=hid (qZ.out.below FY.out)
 have HF7:=hid ((HF6.out.below FY.out).more FY.out.size)
 have HM7:=hid (Blk.below HM6.out FY.out (Blk.lt HM6.out))
 have HB7:=hid (HB6.out.trans (FY.out.mono HB6.out.size))
 have HR7:=hid (HR6.out.below FY.out (Nat.le_refl _))
 generalize w6.heap.size=b6 at HD7⊢
 clear qZ HF6 HM6 HB6 HR6 FY
 go_wp2_with fail
 have HPA:=hid (DR (ofL exL) w7 (HSE.out.low HB7.out HR.out.eight) HR7.out (by decide))
 rw[show parseM (ofL exL).data.toList=(exA,0,0)from Jw]at HPA
 refine HPA.out.mono ?_
 rintro e w8 ⟨⟨pn,pq,pd,rfl,hol⟩,hb⟩
 have FZ:=hid hol
 have HF8:=hid ((HF7.out.below hb).more hb.size)
 have HM8:=hid (Blk.below HM7.out hb (Blk.lt HM7.out))
 have HD8:=hid (Blk.below HD7.out hb (Blk.lt HD7.out))
 have HL8:=hid (FQ.out.below hb)
 have HB8:=hid (HB7.out.trans (hb.mono HB7.out.size))
 have HR8:=hid (HR7.out.below hb (Nat.le_refl _))
 clear hol hb HF7 HM7 HD7 FQ HB7 HR7 HPA
 dsimp only
 go_upto_region 6 with(change wpList _ _ _ _ _ (w8.alloc (.cells (mgN (head 0 0)).toArray 41));have hup:Below w8.heap.size w8 (w8.alloc (.cells (mgN (head 0 0)).toArray 41)):=(Below.refl _ _).alloc (Nat.le_refl _) _;have HMZ:=hid (show aK (w8.alloc (.cells (mgN (head 0 0)).toArray 41)) w8.heap.size (head 0 0) (.slice none 0 0) (.slice none 0 0) (.slice none 0 0)from Blk.new w8 _ _);generalize(w8.alloc (.cells (mgN (head 0 0)).toArray 41))=w8z at hup HMZ⊢;refine dA HMZ.out 0 (aF exA pn pq pd) _ (bW ..) (Nat.le_refl 36) (bT _ (bG FZ.out.n) (bG FZ.out.q) (bG FZ.out.d)) rfl _ _ _ rfl rfl rfl aB ?_;intro w9 hs ho;have HP9:=hid (show aK w9 w8.heap.size exA pn pq pd from hs);have DY:=hid (hup.trans ((ho (fun i=>i=w8.heap.size) rfl w8z (Off.refl _ _)).below (fun k hk=>(by have hk:k=w8.heap.size:=hk;omega)) hup.size));clear hs ho hup HMZ)
 have HF9:=hid ((HF8.out.below DY.out).more DY.out.size)
 have HM9:=hid (Blk.below HM8.out DY.out (Blk.lt HM8.out))
 have HD9:=hid (Blk.below HD8.out DY.out (Blk.lt HD8.out))
 have HL9:=hid (HL8.out.below DY.out)
 have HB9:=hid (HB8.out.trans (DY.out.mono HB8.out.size))
 have HR9:=hid (HR8.out.below DY.out (Nat.le_refl _))
 generalize w8.heap.size=b8 at HP9⊢
 clear FZ HF8 HM8 HD8 HL8 HB8 HR8 DY
 have HSZ:=hid (xG exA _ _ _ w9 FX ⟨iW.nil_ _ _,lX.nil_ _ _,Bys.nil_ _ _⟩ HR9.out zM)
 rw[H9]at HSZ
 go_wp2_with(refine wlw HM9.out 0 (aF exA (.slice none 0 0) (.slice none 0 0) (.slice none 0 0)) rfl rfl _ _ rfl rfl _ Tryz.underlying41 rfl aB ?_)
 refine HSZ.out.mono ?_
 rintro e w10 ⟨rfl,hb⟩
 have HFX:=hid (HF9.out.below hb)
 have HDX:=hid (Blk.below HD9.out hb (Blk.lt HD9.out))
 have HPX:=hid (Blk.below HP9.out hb (Blk.lt HP9.out))
 have HLX:=hid (HL9.out.below hb).n
 have HBX:=hid (HB9.out.trans (hb.mono HB9.out.size))
 clear hb HF9 HM9 HD9 HP9 HL9 HB9 HR9 HSZ
 obtain⟨nA,nc,hbn, -⟩:=aJ HLX.out
 have hnm:=iW.iH HLX.out
 rw[hbn]at hnm
 obtain⟨ad,hA, -,kx⟩:=hnm.at_ (k:=1) (x:=⟨#[46,46]⟩) rfl
 subst hA
 have kx1:w10.cell? ⟨ad.block,ad.off+1,none⟩=some (.string ⟨#[46,46]⟩):=kx
 have k11:w10.cell? ⟨b6,11,none⟩=some (.slice (some ad) 2 nc):=(Blk.cell HDX.out 11).trans (congrArg some hbn)
 have k1:w10.cell? ⟨b6,1,none⟩=some (.int .u16 3):=Blk.cell HDX.out 1
 have k10:w10.cell? ⟨b6,10,none⟩=some (.int .u32 2):=Blk.cell HDX.out 10
 have p2:w10.cell? ⟨b8,2,none⟩=some (.int .u32 8192):=Blk.cell HPX.out 2
 have p3:w10.cell? ⟨b8,3,none⟩=some (.string ⟨#[57,80,50,48,48,48]⟩):=Blk.cell HPX.out 3
 have hcv:=jH HFX.out
 have ofs:∀l:List UInt8,(ofL l).toList=l:=fun l=>by rw[ByteArray.toList_eq];rfl
 have s1:=ofs [19,0,0,0,100,255,255,0,32,0,0,6,0,57,80,50,48,48,48]
 have s2:=ofs [84,119,97,108,107,32,51,32,102,105,100,61,49,32,110,101,119,102,105,100,61,50,32,110,97,109,101,115,61,91,34,97,34,32,34,46,46,34,93]
 clear hnm hbn ofs
 go_upto_region 7 with(fail)
 go_wp2_with fail
 refine bodyPost_ret (v:= .bool true) (by simp[results,Tryz.results12]) rfl ⟨rfl, ?_⟩
 exact HBX.out
end Go.Proofs.YtkblmloobkiloaaGreatDoor
namespace Go.Proofs.YtkblmloobkiloaaGreatDoor
open Go.Lib (hid)
open Go.ChangeShapes Go.WideShapes Go.ChangeAt Go.RowKit
section
variable {H:Type} {enc:TypeId×Value→H}
end
theorem Wi:ownKnob Tryz.prog.godebug=none:=by kernel_rfl
theorem MZ:(Rows.laid_unicode_utf8_first:DataW Unit)=Lib.firstData:=by kernel_rfl
theorem Jz:(Rows.laid_unicode_utf8_acceptRanges:DataW Unit)=Lib.acceptData:=by kernel_rfl
section
variable {H:Type} {enc:TypeId×Value→H}
theorem xU{a:Assume}{C:Checked}{os:Os}{f:FuncId}{fn:Func}{s:ChangeSpec}{conds:List PathCond}{apart fresh handsOn again:Bool}{X:World→Array Value→Prop}
  (hX:∀(w w':World) (args:Array Value),w.heap=w'.heap→X w args→X w' args)
  (own:ownKnob C.prog.godebug=none) (started:os.Started) (noInit:C.prog.inits.idxOf? f=none) (hfn:C.prog.funcs[f]? =some fn)
  (witness:∃(w:World) (tape:Tape) (i:Input),w.os=os∧(w.forCall tape i).Shaped C.prog∧i.vars=[]∧Input.okWide C.prog (w.forCall tape i) .any w.heap.size f i∧
   ((s.pre enc C.prog fn conds apart (w.forCall tape i).memory i.args∧X (w.forCall tape i).memory i.args)∧sizedMet enc C.prog fn (OpenSpec.ofChange s) apart (w.forCall tape i).memory i.args)∧a.holds C.prog (lone (Frame.enter C.prog f i.args .normal) [] (w.forCall tape i)))
  (contract:∀(W:World) (base:Nat) (args:Array Value) (ds gs:List (DataW H)) (before:List MemPlace),
   (∀(j:Nat) t v,fn.params[j]? =some t→args[j]? =some v→Value.okWide C.prog W .any base t v)→
   DataW.Whole enc C.prog fn.params.toList s.vars apart W args.toList ds gs before→
   (DataW.weightsEach C.prog (fn.params.toList++s.plain.varTypes C.prog) (ds++gs)).all (· ≤reachBytes)=true→
   X W args→W.ShapedOpen C.prog→
   Calls C.prog f args W fun e W'=>∃v,e= .returned v∧s.post enc C.prog fn apart fresh handsOn again W args v W'):
  ReturnsInHanded a C os f .any (fun w args=>(s.pre enc C.prog fn conds apart w args∧X w args)∧sizedMet enc C.prog fn (OpenSpec.ofChange s) apart w args) (s.post enc C.prog fn apart fresh handsOn again):=by
 refine returnsInHanded_of_calls own started noInit witness ?_
 intro w tape i _ hsh _ hok hpre hholds
 obtain⟨_,_,_,fn',hfn',_,_,_,_,hval⟩:=hok
 have e:fn'=fn:=Option.some.inj (hfn'.symm.trans hfn)
 subst e
 obtain⟨⟨⟨ds,gs,before,hw,hc⟩,hx⟩,hz⟩:=hpre
 have hw':=DataW.Whole.of_heap (w':=w.forCall tape i) (by rfl) hw
 refine(contract (w.forCall tape i) w.heap.size i.args ds gs before hval hw' (hz.weights hw) (hX _ _ _ (by rfl) hx) hsh).mono fun e W' ⟨v,he,hp⟩=> ?_
 subst he
 exact ChangeSpec.post_blind hp
end
abbrev DZ:List (String×DataW Unit):=[("math/bits.deBruijn32tab",Rows.laid_math_bits_deBruijn32tab),("math/bits.deBruijn64tab",Rows.laid_math_bits_deBruijn64tab),("internal/strconv.uint64pow10",Rows.laid_internal_strconv_uint64pow10),("unicode/utf8.acceptRanges",Rows.laid_unicode_utf8_acceptRanges),("strconv.ErrRange",Rows.laid_strconv_ErrRange),("strconv.ErrSyntax",Rows.laid_strconv_ErrSyntax),("unicode/utf8.first",Rows.laid_unicode_utf8_first)]
theorem M_{W:World}{g:Nat}{nm:String}{d:DataW Unit}(hg:Tryz.prog.globalNamed nm=some g)(ht:(Tryz.prog.globals[g]?).map (·.type)=some 186)(hd:∃u x,d= .iface u x)(h:Lib.VarReads Tryz.prog W nm d):∃ev,W.cell? ⟨g,0,none⟩=some ev∧(ev= .nilIface∨∃te pe,ev= .iface te pe):=by
 obtain⟨g',t,cs,fuel,p,h1,h2,h3,h4⟩:=h
 obtain rfl:g=g':=Option.some.inj (hg.symm.trans h1)
 obtain rfl:186=t:=Option.some.inj (ht.symm.trans h2)
 obtain⟨u,x,rfl⟩:=hd
 obtain⟨fuel',u,v,hcs, -, -⟩:=iface_of_trod (H:=Unit) Tryz.underlying186 h4
 have hc:=World.var?_cell h1 h3 0
 refine⟨.iface u v, ?_,.inr ⟨u,v,rfl⟩⟩
 rw[hc]
 have:cs= #[.iface u v]:=by
  rw[←Array.toList_inj,hcs]
 rw[this]
 rfl
theorem pow_eq:(Rows.laid_internal_strconv_uint64pow10:DataW Unit)=Lib.tabData .u64 Lib.pow10Tab:=by kernel_rfl
theorem Ui{W:World}(h:Lib.VarReads Tryz.prog W "internal/strconv.uint64pow10" Rows.laid_internal_strconv_uint64pow10):TP W:=by
 rw[pow_eq]at h
 obtain⟨g,t,cs,fuel,p,h1,h2,h3,h4⟩:=h
 obtain rfl:0=g:=Option.some.inj ((show Tryz.prog.globalNamed "internal/strconv.uint64pow10" =some 0 from by kernel_rfl).symm.trans h1)
 obtain rfl:244=t:=Option.some.inj ((show(Tryz.prog.globals[0]?).map (·.type)=some 244 from by kernel_rfl).symm.trans h2)
 have hc:=Lib.cells_of_tab (P:=Tryz.prog) (n:=20) (e:=35) Tryz.underlying244 Tryz.underlying35 (by kernel_rfl) (by kernel_rfl) h4
 unfold TP Lib.TabIs
 rw[h3,←hc]
structure kN(W:World):Prop where
 rd:Ready W
 se:SE W
 tp:TP W
theorem JA{W:World}(hL:laidMetH Tryz.prog DZ W)(hS:W.ShapedOpen Tryz.prog):kN W:=by
 rw[MakeChecks.laidMetH_plain _ _ _ (by kernel_rfl)]at hL
 have h1:=Lib.laidMet.reads hL (.tail _ (.tail _ (.tail _ (.head _))))
 have h2:=Lib.laidMet.reads hL (.tail _ (.tail _ (.tail _ (.tail _ (.tail _ (.tail _ (.head _)))))))
 have h3:=Lib.laidMet.reads hL (.tail _ (.tail _ (.head _)))
 have h4:=Lib.laidMet.reads hL (.tail _ (.tail _ (.tail _ (.tail _ (.tail _ (.head _))))))
 have h5:=Lib.laidMet.reads hL (.tail _ (.tail _ (.tail _ (.tail _ (.head _)))))
 rw[Jz]at h1
 rw[MZ]at h2
 exact⟨⟨utf8Tabs_of_reads Tryz.lays260 ⟨by kernel_rfl,by kernel_rfl,by kernel_rfl,by kernel_rfl,by kernel_rfl,by kernel_rfl,by kernel_rfl⟩ h2 h1,
  cell_of_shapedOpen_int (t:=3) (zero:= #[.int .i64 0]) hS (of_decide_eq_true (by kernel_rfl)) (by kernel_rfl) rfl (by kernel_rfl) (by kernel_rfl) Tryz.underlying3⟩,
  ⟨M_ (by kernel_rfl) (by kernel_rfl) ⟨_,_,rfl⟩ h4,M_ (by kernel_rfl) (by kernel_rfl) ⟨_,_,rfl⟩ h5⟩,Ui h3⟩
theorem kN.low{w w':World}{B:Nat}(h:kN w)(hb:Below B w w')(hB:8≤B):kN w':=⟨h.rd.low hb hB,h.se.low hb hB,h.tp.low hb hB⟩
theorem kN.next{w w':World}(h:kN w)(hb:Below w.heap.size w w'):kN w':=h.low hb h.rd.eight
end Go.Proofs.YtkblmloobkiloaaGreatDoor
namespace Go.Proofs.YtkblmloobkiloaaGreatDoor
open Go.Lib (hid)
open Go.RowKit
structure LS(w0 w:World):Prop where
 up:Below w0.heap.size w0 w
 wd:kN w
theorem LS.next{w0 w w':World}(h:LS w0 w)(hb:Below w.heap.size w w'):LS w0 w':=⟨h.up.trans (hb.mono h.up.size),h.wd.next hb⟩
theorem LS.start{w:World}(h:kN w):LS w w:=⟨Below.refl _ _,h⟩
theorem LS.bys{w0 w:World}{v:Value}{x:List UInt8}(h:LS w0 w)(hx:Bys w0 w0.heap.size v x):Bys w w.heap.size v x:=(hx.below h.up).more h.up.size
theorem Bys.sub{w:World}{B:Nat}{A:Option Addr}{c:Nat}{l:List UInt8}(k n m:Nat)(h:Bys w B (.slice A l.length c) l)(hk:k+n≤l.length)(hm:k+n≤m)(hmc:m≤c):Bys w B (AY A k n m) ((l.drop k).take n):=by
 obtain⟨A',c',e,h1,h2,h3⟩:=h
 injection e with e1 e2 e3
 subst e1 e3
 have hl:((l.drop k).take n).length=n:=by rw[List.length_take,List.length_drop];omega
 refine⟨if m=k then A else A.map (·.add k),m-k,(by rw[hl]),(by rw[hl];omega),(by omega),(by rw[jQ,Nat.mul_one]),fun hn=> ?_⟩
 rw[hl]at hn
 obtain⟨ad,rfl,hb,hc⟩:=h3.2 (by omega)
 rw[if_neg (by omega)]
 refine⟨ad.add k,rfl,by rw[nR];exact hb,fun j u hj=> ?_⟩
 have hj':j<n:=by
  have:=(List.getElem?_eq_some_iff.1 hj).1
  rw[jQ,hl]at this
  exact this
 rw[lU]
 refine hc (k+j) u ?_
 rw[aX,List.getElem?_map]at hj⊢
 rw[List.getElem?_take_of_lt hj',List.getElem?_drop]at hj
 exact hj
def BdS(w:World)(p:Nat)(hv:Value)(x:List UInt8)(st:Option (List UInt8)):Prop:=
 ∃(a:Nat) (b:Bool),Blk w p 97 #[hv,.int .i64 (a:Int),.bool b]∧a≤x.length∧x.length≤16777216∧st=if b then none else some (x.drop a)
theorem BdS.below{w w':World}{p:Nat}{hv:Value}{x:List UInt8}{st:Option (List UInt8)}(h:BdS w p hv x st)(hb:Below w.heap.size w w'):BdS w' p hv x st:=by
 obtain⟨a,b,h1,h2⟩:=h
 exact⟨a,b,Blk.below h1 hb (Blk.lt h1),h2⟩
theorem BdS.off{S:Nat→Prop}{w w':World}{p:Nat}{hv:Value}{x:List UInt8}{st:Option (List UInt8)}(h:BdS w p hv x st)(ho:Off S w w')(hp:¬S p):BdS w' p hv x st:=by
 obtain⟨a,b,h1,h2⟩:=h
 exact⟨a,b,ho.blk h1 hp,h2⟩
theorem D5(v:Value)(l:List ByteArray)(w:World)(hl:iW w w.heap.size v l)(hz:∀s∈l,s.size≤16777216):
  Calls Tryz.prog 107 #[v] w fun e w'=>e= .returned (.bool (l.all good))∧w=w':=by
 have HL:=hid hl
 have HZ:=hid hz
 obtain⟨A,c,rfl,h1,h2, -⟩:=hl
 have h3:l.length≤9223372036854775807:=by unfold maxLen at h2;omega
 clear h1 h2 hz
 go_enter Tryz.func107,Tryz.ntmps107
 go_upto_region 2 with(fail)
 go_loopw [3,4] (fun i _ wr=>wr=w∧∃k:Nat,k≤l.length∧i= .int .i64 (k:Int)∧l.all good=(l.drop k).all good) (fun i _ _=>l.length-(intOf i).toNat)
 case atStart=>exact⟨rfl,0,Nat.zero_le _,rfl,rfl⟩
 case round=>
  obtain⟨rfl,k,hk,rfl,hg⟩:=hrel
  have HG:=hid hg
  clear hg
  by_cases hlt:k<l.length
  ·obtain⟨x,hx⟩:∃x,l[k]? =some x:=⟨l[k],List.getElem?_eq_getElem _⟩
   obtain⟨ad,rfl, -,kx⟩:=HL.out.at_ hx
   have hxs:=HZ.out x (List.mem_of_getElem? hx)
   have HD:=hid (show(l.drop k).all good=(good x&&(l.drop (k+1)).all good)from by
    obtain⟨hh,rfl⟩:=List.getElem?_eq_some_iff.1 hx
    rw[List.drop_eq_getElem_cons hh,List.all_cons])
   clear hx
   go_wp2_with fail
   refine(qM x wr hxs).mono ?_
   rintro e w2 ⟨rfl,rfl⟩
   cases hq:good x with
   |true=>
    have HQ:=hid (show l.all good=(l.drop (k+1)).all good from by rw[HG.out,HD.out,hq];rfl)
    clear hq
    go_wp2_with fail
    go_roundw
    case rel=>exact⟨by trivial,k+1,by omega,by go_num,HQ.out⟩
    case measure=>simp[intOf];omega
   |false=>
    have HQ:=hid (show l.all good=false from by rw[HG.out,HD.out,hq];rfl)
    clear hq
    go_wp2_with fail
    refine bodyPost_ret (v:= .bool false) (by simp[results,Tryz.results107]) rfl ⟨by rw[HQ.out],rfl⟩
  ·have hkk:k=l.length:=by omega
   subst hkk
   rw[List.drop_length]at HG
   clear hlt hk
   go_wp2_with fail
   refine bodyPost_ret (v:= .bool true) (by simp[results,Tryz.results107]) rfl ⟨by rw[HG.out]<;>rfl,rfl⟩
theorem BdS.bad{w:World}{p:Nat}{hv:Value}{x:List UInt8}{st:Option (List UInt8)}(h:BdS w p hv x st):BdS (w.setCell ⟨p,2,none⟩ (.bool true)) p hv x none:=by
 obtain⟨a,b,hb,ha,hz, -⟩:=h
 exact⟨a,true,Blk.aW hb 2 (.bool true),ha,hz,rfl⟩
theorem Off.bys{w w':World}{S:Nat→Prop}{B:Nat}{v:Value}{l:List UInt8}(h:Bys w B v l)(ho:Off S w w')(hB:B≤w.heap.size)(hS:∀i,S i→B≤i):Bys w' B v l:=
 h.keep fun q hq=>World.cell?_of_block (ho.block _ (Nat.lt_of_lt_of_le hq hB) (fun hi=>by have:=hS _ hi;omega))
theorem iW.keep{w w':World}{B:Nat}{v:Value}{l:List ByteArray}(h:iW w B v l)(hk:∀p:Addr,p.block<B→w'.cell? p=w.cell? p):iW w' B v l:=by
 obtain⟨A,c,e,h1,h2,h3⟩:=h
 exact⟨A,c,e,h1,h2,h3.keep hk⟩
def Ur(m m':Mg)(f:Fld):Prop:=(f≠ .names→m'.names=m.names)∧(f≠ .aV→m'.aV=m.aV)∧(f≠ .data→m'.data=m.data)
def Nh(base:Nat)(w w':World):Prop:=Below base w w'∧∀g cs,Blk w g 41 cs→Blk w' g 41 cs
structure FS(w0 w:World)(p z q base:Nat)(hv:Value)(x:List UInt8)(st:Option (List UInt8))(m:Mg)(vn vq vd:Value):Prop where
 s:BdS w p hv x st
 x:Bys w base hv x
 m:aK w z m vn vq vd
 r:aK w q (head 0 0) (.slice none 0 0) (.slice none 0 0) (.slice none 0 0)
 bp:base≤p
 bb:base≤w0.heap.size
 bz:w0.heap.size≤z
 zq:z+1=q
 b:Below base w0 w
 k:∀g cs,Blk w0 g 41 cs→Blk w g 41 cs
theorem BdS.lt{w:World}{p:Nat}{hv:Value}{x:List UInt8}{st:Option (List UInt8)}(h:BdS w p hv x st):p<w.heap.size:=by
 obtain⟨a,b,hb, -⟩:=h
 exact Blk.lt hb
theorem BdS.noT{w:World}{p:Nat}{hv:Value}{x:List UInt8}{st:Option (List UInt8)}{e:TypeId}(h:BdS w p hv x st)(he:97≠e):∀g cur fr,g=p→w.heap[g]? ≠some (Obj.cells cur e fr):=by
 obtain⟨a,b,hb, -⟩:=h
 exact hb.noT he
theorem Ro{w:World}{i:Nat}(h:w.heap.size≤i){ob:Obj}:w.heap[i]? ≠some ob:=by
 rw[Array.getElem?_eq_none h]
 intro h
 cases h
theorem OL.bd{w w':World}{p base:Nat}{m:Mg}{vn vq vd hv:Value}{x:List UInt8}{st:Option (List UInt8)}(h:OL w base m vn vq vd)(hs:BdS w p hv x st)(ho:Off (fun i=>i=p∨w.heap.size≤i) w w'):OL w' base m vn vq vd:=
 h.off ho fun i cur fr e hi he=>by
  rcases hi with hi|hi
  ·rcases he with rfl|rfl|rfl<;>exact hs.noT (by decide) i cur fr hi
  ·exact Ro hi
theorem fC{w:World}{b b' n n' s s':Nat}{e e':TypeId}{u v:Value}{xs ys:List Value}(h:w.ownsRow b e s u n xs)(h':w.ownsRow b' e' s' v n' ys)(he:e≠e'):u.ownBlock=none∨u.ownBlock≠v.ownBlock:=by
 cases hu:u.ownBlock with
 |none=>exact .inl rfl
 |some g=>
  refine .inr fun hv=> ?_
  rcases h'.2 with⟨rfl, -⟩|⟨g',cap,cur,rfl, -,hg, -⟩
  ·cases hv
  ·injection hv with hv
   subst hv
   exact bZ h he g cur (0,0) hu hg
section
variable {w w' w0:World} {p z q base:Nat} {hv vn vq vd:Value} {x:List UInt8} {st st':Option (List UInt8)} {m:Mg}
theorem FS.step(h:FS w0 w p z q base hv x st m vn vq vd)(hs:BdS w' p hv x st')(ho:Off (fun i=>i=p∨w.heap.size≤i) w w'):FS w0 w' p z q base hv x st' m vn vq vd:=by
 have hz:=Blk.lt h.m
 have hbz:=h.bz
 have hbb:=h.bb
 have hbp:=h.bp
 have hS:∀i,(i=p∨w.heap.size≤i)→base≤i:=fun i hi=>by omega
 have hK:∀g cs,Blk w g 41 cs→Blk w' g 41 cs:=fun g cs hg=>ho.blk hg (fun hi=>hi.elim (fun e=>h.s.noT (by decide) _ _ _ e hg) (fun e=>Nat.lt_irrefl _ (Nat.lt_of_lt_of_le (Blk.lt hg) e)))
 exact⟨hs,Off.bys h.x ho (by omega) hS,hK _ _ h.m,hK _ _ h.r,hbp,hbb,hbz,h.zq,h.b.trans (ho.below hS (by omega)),fun g cs hg=>hK g cs (h.k g cs hg)⟩
theorem FS.new(h:FS w0 w p z q base hv x st m vn vq vd)(hb:Below w.heap.size w w'):FS w0 w' p z q base hv x st m vn vq vd:=h.step (h.s.below hb) (Off.of_below hb)
theorem FS.size(h:FS w0 w p z q base hv x st m vn vq vd):base≤w.heap.size:=by
 have hz:=Blk.lt h.m
 have hbz:=h.bz
 have hbb:=h.bb
 omega
theorem FS.turn{m':Mg}{xn xq xd:Value}(h:FS w0 w p z q base hv x st m vn vq vd)(hm:aK w' z m' xn xq xd)(ho:Off (fun i=>i=z) w w'):FS w0 w' p z q base hv x st m' xn xq xd:=by
 have hz:=Blk.lt h.m
 have hbz:=h.bz
 have hbb:=h.bb
 have hzq:=h.zq
 have hS:∀i,i=z→base≤i:=fun i hi=>by omega
 exact⟨h.s.off ho (fun e=>h.s.noT (by decide) z _ _ e.symm h.m),Off.bys h.x ho (by omega) hS,hm,ho.blk h.r (fun e=>by have e:q=z:=e;omega),h.bp,hbb,hbz,hzq,h.b.trans (ho.below hS (by omega)),fun g cs hg=>ho.blk (h.k g cs hg) (fun e=>by have e:g=z:=e;have:=Blk.lt hg;omega)⟩
theorem FS.app{e:TypeId}{v:Value}{n s:Nat}{xs:List Value}(h:FS w0 w p z q base hv x st m vn vq vd)(hr:w.ownsRow base e s v n xs)(h1:e≠97)(h2:e≠41)(hg:w.grownBy w' v.ownBlock):FS w0 w' p z q base hv x st m vn vq vd:=by
 have hS:∀i,v.ownBlock=some i→base≤i:=fun i hi=>dH hr i hi
 have ho:=(Off.refl (fun i=>v.ownBlock=some i) w).grown hg (fun g hg=>hg)
 obtain⟨a,b,hb, -⟩:=id h.s
 have hK:∀g cs,Blk w g 41 cs→Blk w' g 41 cs:=fun g cs hg=>ho.blk hg (fun e=>bZ hr h2 g _ _ e hg)
 exact⟨h.s.off ho (fun e=>bZ hr h1 p _ _ e hb),Off.bys h.x ho h.size hS,hK _ _ h.m,hK _ _ h.r,h.bp,h.bb,h.bz,h.zq,h.b.trans (ho.below hS h.size),fun g cs hg=>hK g cs (h.k g cs hg)⟩
theorem FS.end_{wz:World}{m':Mg}{xn xq xd:Value}(h:FS w0 w p z q base hv x st m vn vq vd)(hl:OL w base m' xn xq xd)(ho:Off (fun i=>i=q) w wz):OL wz base m' xn xq xd∧Nh base w0 wz∧BdS wz p hv x st:=by
 have hq:=Blk.lt h.r
 have hzq:=h.zq
 have hbz:=h.bz
 have hbb:=h.bb
 exact⟨hl.qp h.r ho,⟨h.b.trans (ho.below (fun i hi=>by have hi:i=q:=hi;omega) (by omega)),fun g cs hg=>ho.blk (h.k g cs hg) (fun e=>by have e:g=q:=e;have:=Blk.lt hg;omega)⟩,h.s.off ho (fun e=>h.s.noT (by decide) q _ _ e.symm h.r)⟩
end
theorem OL.as{w:World}{base:Nat}{m m':Mg}{vn vq vd:Value}(h:OL w base m vn vq vd)(h1:m'.names=m.names)(h2:m'.aV=m.aV)(h3:m'.data=m.data):OL w base m' vn vq vd:=⟨by rw[h1];exact h.n,by rw[h2];exact h.q,by rw[h3];exact h.d⟩
theorem JE(m:Mg)(n:Nat)(f:Fld):(m.aG n f).names=m.names∧(m.aG n f).aV=m.aV∧(m.aG n f).data=m.data:=by cases f<;>exact⟨rfl,rfl,rfl⟩
theorem JF(m:Mg)(s:ByteArray)(f:Fld):(m.bV s f).names=m.names∧(m.bV s f).aV=m.aV∧(m.bV s f).data=m.data:=by cases f<;>exact⟨rfl,rfl,rfl⟩
theorem F6{f:Fld}(hf:f.isText=true):f.width=0:=by cases f<;>first|rfl|exact absurd hf (by decide)
def zT(fs:List Fld)(m:Mg):Prop:=(.names∈fs→m.names=[])∧(.aV∈fs→m.aV=[])∧(.data∈fs→m.data=[])
theorem zT.next{f:Fld}{fs:List Fld}{m m':Mg}(h:zT (f::fs) m)(hn:(f::fs).Nodup)(ho:Ur m m' f):zT fs m':=by
 obtain⟨hf, -⟩:=List.nodup_cons.1 hn
 refine⟨fun hi=> ?_,fun hi=> ?_,fun hi=> ?_⟩
 ·rw[ho.1 (fun e=>hf (e▸hi))]
  exact h.1 (List.mem_cons_of_mem _ hi)
 ·rw[ho.2.1 (fun e=>hf (e▸hi))]
  exact h.2.1 (List.mem_cons_of_mem _ hi)
 ·rw[ho.2.2 (fun e=>hf (e▸hi))]
  exact h.2.2 (List.mem_cons_of_mem _ hi)
theorem kQ(m m':Mg)(an aq ad vn vq vd:Value):over (aF m an aq ad).toArray 0 (aF m' vn vq vd)=(aF m' vn vq vd).toArray:=by kernel_rfl
theorem WA{w:World}{q:Nat}{t:TypeId}{cs:Array Value}{op:Oper}{a:Act}{K:Act→World→Prop}{Q:Exit→Act→World→Prop}(hk:Blk w q t cs)(o:Nat)(l:List Value)(cs':Array Value)(hcs:over cs o l=cs')(hb:o+l.length≤cs.size)(h1:l.toArray.all (·.oneCell')=true)(ty:TypeId)(x y:Operand)(ho:op.op= .store ty x y)(hx:a.eval x= .pointer (some ⟨q,o,none⟩))(hy:a.eval y= .agg l.toArray)
  (hi:(Tryz.prog.info? ty).map (·.size)=some l.length)
  (h:∀w':World,Blk w' q t cs'→(∀S:Nat→Prop,S q→∀v,Off S v w→Off S v w')→K (a.put op.dst undef) w'):op.wp Tryz.prog a w K Q:=
 wp_store_mid ty x y ho q o l.toArray hx hy (fun j hj=>by
  have hj':j<l.length:=by simpa using hj
  refine⟨?_,Blk.frozen hk _⟩
  rw[Blk.cell hk,Array.getElem?_eq_getElem (by omega)]
  rfl) (by simpa using hi) h1 (h _ (by rw[←hcs];exact Blk.sN _ _ hk) (fun S hS v hv=>og hv hS _ o))
structure DS(w0 w:World)(r p:Nat)(hv:Value)(x:List UInt8)(st:Option (List UInt8)):Prop where
 s:BdS w p hv x st
 x:Bys w w0.heap.size hv x
 res:aK w r (head 0 0) (.slice none 0 0) (.slice none 0 0) (.slice none 0 0)
 br:w0.heap.size≤r
 bp:w0.heap.size≤p
 b:Below w0.heap.size w0 w
section
variable {w w' w0:World} {p r:Nat} {hv:Value} {x:List UInt8} {st st':Option (List UInt8)}
theorem DS.step(h:DS w0 w r p hv x st)(hs:BdS w' p hv x st')(ho:Off (fun i=>i=p) w w'):DS w0 w' r p hv x st':=
 ⟨hs,Off.bys h.x ho h.b.size (fun i hi=>by have hi:i=p:=hi;have:=h.bp;omega),ho.blk h.res (fun e=>h.s.noT (by decide) r _ _ e h.res),h.br,h.bp,h.b.trans (ho.below (fun i hi=>by have hi:i=p:=hi;have:=h.bp;omega) h.b.size)⟩
theorem DS.new(h:DS w0 w r p hv x st)(hb:Below w.heap.size w w'):DS w0 w' r p hv x st:=
 ⟨h.s.below hb,h.x.below (hb.mono h.b.size),Blk.below h.res hb (Blk.lt h.res),h.br,h.bp,h.b.trans (hb.mono h.b.size)⟩
theorem DS.keep(h:DS w0 w r p hv x st)(hs:BdS w' p hv x st')(hk:Nh w0.heap.size w w'):DS w0 w' r p hv x st':=
 ⟨hs,h.x.below hk.1,hk.2 _ _ h.res,h.br,h.bp,h.b.trans hk.1⟩
theorem DS.msg{g:Nat}{cs:Array Value}(h:DS w0 w r p hv x st)(hg:Blk w g 41 cs)(hl:w0.heap.size≤g)(hr:r≠g)(ho:Off (fun i=>i=g) w w'):DS w0 w' r p hv x st:=
 ⟨h.s.off ho (fun e=>h.s.noT (by decide) g _ _ e.symm hg),Off.bys h.x ho h.b.size (fun i hi=>by have hi:i=g:=hi;omega),ho.blk h.res hr,h.br,h.bp,h.b.trans (ho.below (fun i hi=>by have hi:i=g:=hi;omega) h.b.size)⟩
theorem DS.fin{m:Mg}{vn vq vd:Value}(h:DS w0 w r p hv x st)(hl:OL w w0.heap.size m vn vq vd)(ho:Off (fun i=>i=r) w w'):OL w' w0.heap.size m vn vq vd∧Below w0.heap.size w0 w':=
 ⟨hl.qp h.res ho,h.b.trans (ho.below (fun i hi=>by have hi:i=r:=hi;have:=h.br;omega) h.b.size)⟩
end
theorem Rt{k i:Nat}{fs:List Fld}{f:Fld}(hk:bQ k=some fs)(hf:fs[i]? =some f):∃h:i<(iQ k).size,f.rX=(iQ k)[i]'h:=by
 have e:(iQ k).data.toList=fs.map Fld.rX:=by
  unfold iQ
  rw[hk]
  rfl
 have hi:=(List.getElem?_eq_some_iff.1 hf).1
 have hs:(iQ k).data.toList.length=(iQ k).size:=Array.length_toList ..
 have hl:i<(iQ k).size:=by rw[←hs,e,List.length_map];exact hi
 refine⟨hl, ?_⟩
 have h2:=byte_at (iQ k) i hl
 rw[e,List.getElem?_map,hf]at h2
 exact Option.some.inj h2
theorem lay_size{k:Nat}{fs:List Fld}(hk:bQ k=some fs):(iQ k).size=fs.length:=by
 have hs:(iQ k).data.toList.length=(iQ k).size:=Array.length_toList ..
 rw[←hs]
 unfold iQ
 rw[hk]
 show(fs.map Fld.rX).length=_
 rw[List.length_map]
end Go.Proofs.YtkblmloobkiloaaGreatDoor
