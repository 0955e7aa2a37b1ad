/-
  MWL MWK MFR MLO MRX MRY MRZ: what the laws of package msg need of them.
-/
import Derived.Test.YtkblmloobkiloaaGreatDoorR00
import Derived.Test.YtkblmloobkiloaaGreatDoorR06
import Derived.KernelRfl
import Derived.Test.YtkblmloobkiloaaGreatDoorR26
import Derived.Test.YtkblmloobkiloaaGreatDoorR27
import Derived.Test.YtkblmloobkiloaaGreatDoorR03
import Derived.Test.YtkblmloobkiloaaGreatDoorTie
import Derived.ProofKit
import Derived.OpenShut
import Derived.LaidMore
import Derived.Lay
import Derived.SevenTiedAt
import Derived.Stop.Joined
import Derived.HandedShaped
import Derived.Lib.LaidU8
import Derived.Lib.LaidTab
import Derived.Shelf.Vars
import Derived.Test.YtkblmloobkiloaaGreatDoorR05
import Derived.Test.YtkblmloobkiloaaGreatDoorR19
import Derived.Test.YtkblmloobkiloaaGreatDoorR25
import Derived.Test.YtkblmloobkiloaaGreatDoorR13
import Derived.IntWalk
import Derived.Test.YtkblmloobkiloaaGreatDoorR02
set_option maxRecDepth 100000
set_option maxHeartbeats 6400000
namespace Go.Proofs.YtkblmloobkiloaaGreatDoor
open Go.Lib (hid)
abbrev exV:ByteArray:=⟨#[57,80,50,48,48,48]⟩
def exA:Mg:= {head 100 65535 with bI:=8192,version:=exV}
def exB:Mg:= {head 110 3 with fid:=1,aU:=2,names:=[⟨#[97]⟩,⟨#[46,46]⟩]}
def exF:List UInt8:=[24,0,0,0,110,3,0,1,0,0,0,2,0,0,0,2,0,1,0,97,2,0,46,46]
def exL:List UInt8:=[84,118,101,114,115,105,111,110,32,54,53,53,51,53,32,109,115,105,122,101,61,56,49,57,50,32,118,101,114,115,105,111,110,61,34,57,80,50,48,48,48,34]
theorem FX:exA.ok:=⟨by decide,by decide,by decide,by decide,by decide,by decide,by decide,by decide,by decide,by decide,by decide,by decide,fun q h=>(by cases h),⟨by decide,by decide,by decide⟩,⟨by decide,by decide,⟨by decide,by decide,by decide⟩,by decide,by decide,by decide,by decide⟩⟩
theorem MS:exB.ok:=⟨by decide,by decide,by decide,by decide,by decide,by decide,by decide,by decide,by decide,by decide,by decide,by decide,fun q h=>(by cases h),⟨by decide,by decide,by decide⟩,⟨by decide,by decide,⟨by decide,by decide,by decide⟩,by decide,by decide,by decide,by decide⟩⟩
theorem OT:refused exA=(0,19):=by kernel_rfl
theorem OU:refused exB=(0,24):=by kernel_rfl
theorem H9:enc exA=([19,0,0,0,100,255,255,0,32,0,0,6,0,57,80,50,48,48,48],0):=by kernel_rfl
theorem OV:enc exB=(exF,0):=by kernel_rfl
theorem MV:qA exA=exL:=by kernel_rfl
theorem MW:qA exB=[84,119,97,108,107,32,51,32,102,105,100,61,49,32,110,101,119,102,105,100,61,50,32,110,97,109,101,115,61,91,34,97,34,32,34,46,46,34,93]:=by kernel_rfl
theorem OW:dec exF=(exB,0):=by
 have h:=NR MS (by rw[OU])
 rw[OV]at h
 exact h
theorem Jw:parseM exL=(exA,0,0):=by
 have h:=Et FX (by rw[OT])
 rw[MV]at h
 exact h
end Go.Proofs.YtkblmloobkiloaaGreatDoor
namespace Go.Proofs.YtkblmloobkiloaaGreatDoor
open Go.Lib (hid)
open Go.RowKit
theorem zM:exA.small:=fun f=>by cases f<;>decide
theorem Jy:exB.small:=fun f=>by cases f<;>decide
theorem iW.new(w:World)(t:TypeId)(l:List ByteArray)(hl:l.length≤maxLen):iW (w.alloc (.cells (h_ l).toArray t)) (w.heap.size+1) (.slice (some ⟨w.heap.size,0,none⟩) l.length l.length) l:=
 ⟨_,_,rfl,Nat.le_refl _,hl,dI w t (h_ l) l.length 1 (by simp)⟩
theorem Bys.new(w:World)(t:TypeId)(l:List UInt8)(hl:l.length≤maxLen):Bys (w.alloc (.cells (aX l).toArray t)) (w.heap.size+1) (.slice (some ⟨w.heap.size,0,none⟩) l.length l.length) l:=
 ⟨_,_,rfl,Nat.le_refl _,hl,dI w t (aX l) l.length 1 (by simp)⟩
theorem DX(w:World)(hse:SE w)(hrd:Ready w)(htp:TP w):Calls Tryz.prog 12 #[] w fun e w'=>e= .returned (.bool true)∧Below w.heap.size w w':=by
 have H8:=hid hrd.eight
 have HSE:=hid hse
 have HTP:=hid htp
 have HR:=hid hrd
 clear hse hrd htp
 go_enter Tryz.func12,Tryz.ntmps12
 go_upto_region 2 with(change wpList _ _ _ _ _ (w.alloc (.cells (mgN (head 0 0)).toArray 41));have hup:Below w.heap.size w (w.alloc (.cells (mgN (head 0 0)).toArray 41)):=(Below.refl _ _).alloc (Nat.le_refl _) _;have HM0:=hid (show aK (w.alloc (.cells (mgN (head 0 0)).toArray 41)) w.heap.size (head 0 0) (.slice none 0 0) (.slice none 0 0) (.slice none 0 0)from Blk.new w _ _);have HB0:=hid hup;have HR0:=hid (HR.out.below hup (Nat.le_refl _));clear hup;generalize w.alloc (.cells (mgN (head 0 0)).toArray 41)=w0 at HM0 HB0 HR0⊢;refine dA HM0.out 0 (mgN exA) _ (bW ..) (Nat.le_refl 36) (bT _ rfl rfl rfl) rfl _ _ _ rfl rfl rfl aB ?_;intro w1 hs ho;have HM1:=hid (show aK w1 w.heap.size exA (.slice none 0 0) (.slice none 0 0) (.slice none 0 0)from hs);have HO1:=hid (ho (fun i=>i=w.heap.size) rfl w0 (Off.refl _ _));clear hs ho)
 have hb1:Below w.heap.size w0 w1:=HO1.out.below (fun k hk=>by have hk:k=w.heap.size:=hk;omega) HB0.out.size
 have HB1:=hid (HB0.out.trans hb1)
 have HR1:=hid (HR0.out.low hb1 HR.out.eight)
 generalize hz:w.heap.size=z at HM1⊢
 have HZ:=hid hz
 clear hz hb1 HM0 HB0 HR0 HO1
 have HEN:=hid (oh exA _ _ _ w1 FX ⟨iW.nil_ _ _,lX.nil_ _ _,Bys.nil_ _ _⟩ HR1.out zM)
 rw[H9]at HEN
 go_wp2_with(refine wlw HM1.out 0 (aF exA (.slice none 0 0) (.slice none 0 0) (.slice none 0 0)) rfl rfl _ _ rfl rfl _ Tryz.underlying41 rfl aB ?_)
 refine HEN.out.mono ?_
 rintro e w2 ⟨⟨v,rfl,hown⟩,hb⟩
 dsimp only at hown
 have HF2:=hid (Bys.iH hown)
 have HM2:=hid (Blk.below HM1.out hb (Blk.lt HM1.out))
 have HB2:=hid (HB1.out.trans (hb.mono HB1.out.size))
 have HR2:=hid (HR1.out.below hb (Nat.le_refl _))
 clear hown hb HEN HM1 HB1 HR1
 go_wp2_with fail
 have hup:Below w2.heap.size w2 (w2.alloc (.cells (h_ exB.names).toArray 9)):=(Below.refl _ _).alloc (Nat.le_refl _) _
 have HN3:=hid (show iW (w2.alloc (.cells (h_ exB.names).toArray 9)) (w2.alloc (.cells (h_ exB.names).toArray 9)).heap.size (.slice (some ⟨w2.heap.size,0,none⟩) 2 2) exB.names from by rw[World.size_alloc];exact iW.new w2 _ exB.names (by decide))
 have HF3:=hid ((HF2.out.below hup).more hup.size)
 have HM3:=hid (Blk.below HM2.out hup (Blk.lt HM2.out))
 have HB3:=hid (HB2.out.trans (hup.mono HB2.out.size))
 have HR3:=hid (HR2.out.below hup (Nat.le_refl _))
 clear hup
 change Calls _ _ _ (w2.alloc (.cells (h_ exB.names).toArray 9)) _
 generalize w2.alloc (.cells (h_ exB.names).toArray 9)=w3 at HN3 HF3 HM3 HB3 HR3⊢
 generalize w2.heap.size=b2 at HN3⊢
 clear HF2 HM2 HB2 HR2
 have HT:=hid (Fp exB _ _ _ w3 MS ⟨HN3.out,lX.nil_ _ _,Bys.nil_ _ _⟩ HR3.out (TP.low HTP.out HB3.out HR.out.eight) Jy)
 rw[MW]at HT
 refine HT.out.mono ?_
 rintro e w4 ⟨rfl,hb⟩
 have HF4:=hid ((HF3.out.below hb).more hb.size)
 have HM4:=hid (Blk.below HM3.out hb (Blk.lt HM3.out))
 have HB4:=hid (HB3.out.trans (hb.mono HB3.out.size))
 have HR4:=hid (HR3.out.below hb (Nat.le_refl _))
 clear hb HN3 HF3 HM3 HB3 HR3 HT
 go_wp2_with fail
 have hup:Below w4.heap.size w4 (w4.alloc (.cells (aX exF).toArray 5)):=(Below.refl _ _).alloc (Nat.le_refl _) _
 have HX5:=hid (show Bys (w4.alloc (.cells (aX exF).toArray 5)) (w4.alloc (.cells (aX exF).toArray 5)).heap.size (.slice (some ⟨w4.heap.size,0,none⟩) 24 24) exF from by rw[World.size_alloc];exact Bys.new w4 _ exF (by decide))
 have HF5:=hid ((HF4.out.below hup).more hup.size)
 have HM5:=hid (Blk.below HM4.out hup (Blk.lt HM4.out))
 have HB5:=hid (HB4.out.trans (hup.mono HB4.out.size))
 have HR5:=hid (HR4.out.below hup (Nat.le_refl _))
 clear hup
 change Calls _ _ _ (w4.alloc (.cells (aX exF).toArray 5)) _
 generalize w4.alloc (.cells (aX exF).toArray 5)=w5 at HX5 HF5 HM5 HB5 HR5⊢
 generalize w4.heap.size=b4 at HX5⊢
 clear HF4 HM4 HB4 HR4
 have HT:=hid (rV _ exF w5 HX5.out HR5.out (by decide))
 rw[OW]at HT
 refine HT.out.mono ?_
 rintro e w6 ⟨⟨bn,bq,bd,rfl,hol⟩,hb⟩
 have qZ:=hid hol
 have HF6:=hid ((HF5.out.below hb).more hb.size)
 have HM6:=hid (Blk.below HM5.out hb (Blk.lt HM5.out))
 have HB6:=hid (HB5.out.trans (hb.mono HB5.out.size))
 have HR6:=hid (HR5.out.below hb (Nat.le_refl _))
 clear hol hb HX5 HF5 HM5 HB5 HR5 HT
 dsimp only
 go_upto_region 5 with(change wpList _ _ _ _ _ (w6.alloc (.cells (mgN (head 0 0)).toArray 41));have hup:Below w6.heap.size w6 (w6.alloc (.cells (mgN (head 0 0)).toArray 41)):=(Below.refl _ _).alloc (Nat.le_refl _) _;have HMZ:=hid (show aK (w6.alloc (.cells (mgN (head 0 0)).toArray 41)) w6.heap.size (head 0 0) (.slice none 0 0) (.slice none 0 0) (.slice none 0 0)from Blk.new w6 _ _);generalize(w6.alloc (.cells (mgN (head 0 0)).toArray 41))=w6z at hup HMZ⊢;refine dA HMZ.out 0 (aF exB bn bq bd) _ (bW ..) (Nat.le_refl 36) (bT _ (bG qZ.out.n) (bG qZ.out.q) (bG qZ.out.d)) rfl _ _ _ rfl rfl rfl aB ?_;intro w7 hs ho;have HD7:=hid (show aK w7 w6.heap.size exB bn bq bd from hs);have FY:=hid (hup.trans ((ho (fun i=>i=w6.heap.size) rfl w6z (Off.refl _ _)).below (fun k hk=>(by have hk:k=w6.heap.size:=hk;omega)) hup.size));clear hs ho hup HMZ)
 have FQ:=hid (qZ.out.below FY.out)
 have HF7:=hid ((HF6.out.below FY.out).more FY.out.size)
 have HM7:=hid (Blk.below HM6.out FY.out (Blk.lt HM6.out))
 have HB7:=hid (HB6.out.trans (FY.out.mono HB6.out.size))
 have HR7:=hid (HR6.out.below FY.out (Nat.le_refl _))
 generalize w6.heap.size=b6 at HD7⊢
 clear qZ HF6 HM6 HB6 HR6 FY
 go_wp2_with fail
 have HPA:=hid (DR (ofL exL) w7 (HSE.out.low HB7.out HR.out.eight) HR7.out (by decide))
 rw[show parseM (ofL exL).data.toList=(exA,0,0)from Jw]at HPA
 refine HPA.out.mono ?_
 rintro e w8 ⟨⟨pn,pq,pd,rfl,hol⟩,hb⟩
 have FZ:=hid hol
 have HF8:=hid ((HF7.out.below hb).more hb.size)
 have HM8:=hid (Blk.below HM7.out hb (Blk.lt HM7.out))
 have HD8:=hid (Blk.below HD7.out hb (Blk.lt HD7.out))
 have HL8:=hid (FQ.out.below hb)
 have HB8:=hid (HB7.out.trans (hb.mono HB7.out.size))
 have HR8:=hid (HR7.out.below hb (Nat.le_refl _))
 clear hol hb HF7 HM7 HD7 FQ HB7 HR7 HPA
 dsimp only
 go_upto_region 6 with(change wpList _ _ _ _ _ (w8.alloc (.cells (mgN (head 0 0)).toArray 41));have hup:Below w8.heap.size w8 (w8.alloc (.cells (mgN (head 0 0)).toArray 41)):=(Below.refl _ _).alloc (Nat.le_refl _) _;have HMZ:=hid (show aK (w8.alloc (.cells (mgN (head 0 0)).toArray 41)) w8.heap.size (head 0 0) (.slice none 0 0) (.slice none 0 0) (.slice none 0 0)from Blk.new w8 _ _);generalize(w8.alloc (.cells (mgN (head 0 0)).toArray 41))=w8z at hup HMZ⊢;refine dA HMZ.out 0 (aF exA pn pq pd) _ (bW ..) (Nat.le_refl 36) (bT _ (bG FZ.out.n) (bG FZ.out.q) (bG FZ.out.d)) rfl _ _ _ rfl rfl rfl aB ?_;intro w9 hs ho;have HP9:=hid (show aK w9 w8.heap.size exA pn pq pd from hs);have DY:=hid (hup.trans ((ho (fun i=>i=w8.heap.size) rfl w8z (Off.refl _ _)).below (fun k hk=>(by have hk:k=w8.heap.size:=hk;omega)) hup.size));clear hs ho hup HMZ)
 have HF9:=hid ((HF8.out.below DY.out).more DY.out.size)
 have HM9:=hid (Blk.below HM8.out DY.out (Blk.lt HM8.out))
 have HD9:=hid (Blk.below HD8.out DY.out (Blk.lt HD8.out))
 have HL9:=hid (HL8.out.below DY.out)
 have HB9:=hid (HB8.out.trans (DY.out.mono HB8.out.size))
 have HR9:=hid (HR8.out.below DY.out (Nat.le_refl _))
 generalize w8.heap.size=b8 at HP9⊢
 clear FZ HF8 HM8 HD8 HL8 HB8 HR8 DY
 have HSZ:=hid (xG exA _ _ _ w9 FX ⟨iW.nil_ _ _,lX.nil_ _ _,Bys.nil_ _ _⟩ HR9.out zM)
 rw[H9]at HSZ
 go_wp2_with(refine wlw HM9.out 0 (aF exA (.slice none 0 0) (.slice none 0 0) (.slice none 0 0)) rfl rfl _ _ rfl rfl _ Tryz.underlying41 rfl aB ?_)
 refine HSZ.out.mono ?_
 rintro e w10 ⟨rfl,hb⟩
 have HFX:=hid (HF9.out.below hb)
 have HDX:=hid (Blk.below HD9.out hb (Blk.lt HD9.out))
 have HPX:=hid (Blk.below HP9.out hb (Blk.lt HP9.out))
 have HLX:=hid (HL9.out.below hb).n
 have HBX:=hid (HB9.out.trans (hb.mono HB9.out.size))
 clear hb HF9 HM9 HD9 HP9 HL9 HB9 HR9 HSZ
 obtain⟨nA,nc,hbn, -⟩:=aJ HLX.out
 have hnm:=iW.iH HLX.out
 rw[hbn]at hnm
 obtain⟨ad,hA, -,kx⟩:=hnm.at_ (k:=1) (x:=⟨#[46,46]⟩) rfl
 subst hA
 have kx1:w10.cell? ⟨ad.block,ad.off+1,none⟩=some (.string ⟨#[46,46]⟩):=kx
 have k11:w10.cell? ⟨b6,11,none⟩=some (.slice (some ad) 2 nc):=(Blk.cell HDX.out 11).trans (congrArg some hbn)
 have k1:w10.cell? ⟨b6,1,none⟩=some (.int .u16 3):=Blk.cell HDX.out 1
 have k10:w10.cell? ⟨b6,10,none⟩=some (.int .u32 2):=Blk.cell HDX.out 10
 have p2:w10.cell? ⟨b8,2,none⟩=some (.int .u32 8192):=Blk.cell HPX.out 2
 have p3:w10.cell? ⟨b8,3,none⟩=some (.string ⟨#[57,80,50,48,48,48]⟩):=Blk.cell HPX.out 3
 have hcv:=jH HFX.out
 have ofs:∀l:List UInt8,(ofL l).toList=l:=fun l=>by rw[ByteArray.toList_eq];rfl
 have s1:=ofs [19,0,0,0,100,255,255,0,32,0,0,6,0,57,80,50,48,48,48]
 have s2:=ofs [84,119,97,108,107,32,51,32,102,105,100,61,49,32,110,101,119,102,105,100,61,50,32,110,97,109,101,115,61,91,34,97,34,32,34,46,46,34,93]
 clear hnm hbn ofs
 go_upto_region 7 with(fail)
 go_wp2_with fail
 refine bodyPost_ret (v:= .bool true) (by simp[results,Tryz.results12]) rfl ⟨rfl, ?_⟩
 exact HBX.out
end Go.Proofs.YtkblmloobkiloaaGreatDoor
namespace Go.Proofs.YtkblmloobkiloaaGreatDoor
open Go.Lib (hid)
open Go.ChangeShapes Go.WideShapes Go.ChangeAt Go.RowKit
section
variable {H:Type} {enc:TypeId×Value→H}
end
theorem Wi:ownKnob Tryz.prog.godebug=none:=by kernel_rfl
theorem MX:laidOutB Tryz.prog=true:=by kernel_rfl
theorem MZ:(Rows.laid_unicode_utf8_first:DataW Unit)=Lib.firstData:=by kernel_rfl
theorem Jz:(Rows.laid_unicode_utf8_acceptRanges:DataW Unit)=Lib.acceptData:=by kernel_rfl
section
variable {H:Type} {enc:TypeId×Value→H}
theorem xU{a:Assume}{C:Checked}{os:Os}{f:FuncId}{fn:Func}{s:ChangeSpec}{conds:List PathCond}{apart fresh handsOn again:Bool}{X:World→Array Value→Prop}
  (hX:∀(w w':World) (args:Array Value),w.heap=w'.heap→X w args→X w' args)
  (own:ownKnob C.prog.godebug=none) (started:os.Started) (noInit:C.prog.inits.idxOf? f=none) (hfn:C.prog.funcs[f]? =some fn)
  (witness:∃(w:World) (tape:Tape) (i:Input),w.os=os∧(w.forCall tape i).Shaped C.prog∧i.vars=[]∧Input.okWide C.prog (w.forCall tape i) .any w.heap.size f i∧
   ((s.pre enc C.prog fn conds apart (w.forCall tape i).memory i.args∧X (w.forCall tape i).memory i.args)∧sizedMet enc C.prog fn (OpenSpec.ofChange s) apart (w.forCall tape i).memory i.args)∧a.holds C.prog (lone (Frame.enter C.prog f i.args .normal) [] (w.forCall tape i)))
  (contract:∀(W:World) (base:Nat) (args:Array Value) (ds gs:List (DataW H)) (before:List MemPlace),
   (∀(j:Nat) t v,fn.params[j]? =some t→args[j]? =some v→Value.okWide C.prog W .any base t v)→
   DataW.Whole enc C.prog fn.params.toList s.vars apart W args.toList ds gs before→
   (DataW.weightsEach C.prog (fn.params.toList++s.plain.varTypes C.prog) (ds++gs)).all (· ≤reachBytes)=true→
   X W args→W.ShapedOpen C.prog→
   Calls C.prog f args W fun e W'=>∃v,e= .returned v∧s.post enc C.prog fn apart fresh handsOn again W args v W'):
  ReturnsInHanded a C os f .any (fun w args=>(s.pre enc C.prog fn conds apart w args∧X w args)∧sizedMet enc C.prog fn (OpenSpec.ofChange s) apart w args) (s.post enc C.prog fn apart fresh handsOn again):=by
 refine returnsInHanded_of_calls own started noInit witness ?_
 intro w tape i _ hsh _ hok hpre hholds
 obtain⟨_,_,_,fn',hfn',_,_,_,_,hval⟩:=hok
 have e:fn'=fn:=Option.some.inj (hfn'.symm.trans hfn)
 subst e
 obtain⟨⟨⟨ds,gs,before,hw,hc⟩,hx⟩,hz⟩:=hpre
 have hw':=DataW.Whole.of_heap (w':=w.forCall tape i) (by rfl) hw
 refine(contract (w.forCall tape i) w.heap.size i.args ds gs before hval hw' (hz.weights hw) (hX _ _ _ (by rfl) hx) hsh).mono fun e W' ⟨v,he,hp⟩=> ?_
 subst he
 exact ChangeSpec.post_blind hp
end
abbrev DZ:List (String×DataW Unit):=[("math/bits.deBruijn32tab",Rows.laid_math_bits_deBruijn32tab),("math/bits.deBruijn64tab",Rows.laid_math_bits_deBruijn64tab),("internal/strconv.uint64pow10",Rows.laid_internal_strconv_uint64pow10),("unicode/utf8.acceptRanges",Rows.laid_unicode_utf8_acceptRanges),("strconv.ErrRange",Rows.laid_strconv_ErrRange),("strconv.ErrSyntax",Rows.laid_strconv_ErrSyntax),("unicode/utf8.first",Rows.laid_unicode_utf8_first)]
theorem M_{W:World}{g:Nat}{nm:String}{d:DataW Unit}(hg:Tryz.prog.globalNamed nm=some g)(ht:(Tryz.prog.globals[g]?).map (·.type)=some 186)(hd:∃u x,d= .iface u x)(h:Lib.VarReads Tryz.prog W nm d):∃ev,W.cell? ⟨g,0,none⟩=some ev∧(ev= .nilIface∨∃te pe,ev= .iface te pe):=by
 obtain⟨g',t,cs,fuel,p,h1,h2,h3,h4⟩:=h
 obtain rfl:g=g':=Option.some.inj (hg.symm.trans h1)
 obtain rfl:186=t:=Option.some.inj (ht.symm.trans h2)
 obtain⟨u,x,rfl⟩:=hd
 obtain⟨fuel',u,v,hcs, -, -⟩:=iface_of_trod (H:=Unit) Tryz.underlying186 h4
 have hc:=World.var?_cell h1 h3 0
 refine⟨.iface u v, ?_,.inr ⟨u,v,rfl⟩⟩
 rw[hc]
 have:cs= #[.iface u v]:=by
  rw[←Array.toList_inj,hcs]
 rw[this]
 rfl
theorem pow_eq:(Rows.laid_internal_strconv_uint64pow10:DataW Unit)=Lib.tabData .u64 Lib.pow10Tab:=by kernel_rfl
theorem Ui{W:World}(h:Lib.VarReads Tryz.prog W "internal/strconv.uint64pow10" Rows.laid_internal_strconv_uint64pow10):TP W:=by
 rw[pow_eq]at h
 obtain⟨g,t,cs,fuel,p,h1,h2,h3,h4⟩:=h
 obtain rfl:0=g:=Option.some.inj ((show Tryz.prog.globalNamed "internal/strconv.uint64pow10" =some 0 from by kernel_rfl).symm.trans h1)
 obtain rfl:244=t:=Option.some.inj ((show(Tryz.prog.globals[0]?).map (·.type)=some 244 from by kernel_rfl).symm.trans h2)
 have hc:=Lib.cells_of_tab (P:=Tryz.prog) (n:=20) (e:=35) Tryz.underlying244 Tryz.underlying35 (by kernel_rfl) (by kernel_rfl) h4
 unfold TP Lib.TabIs
 rw[h3,←hc]
structure kN(W:World):Prop where
 rd:Ready W
 se:SE W
 tp:TP W
theorem JA{W:World}(hL:laidMetH Tryz.prog DZ W)(hS:W.ShapedOpen Tryz.prog):kN W:=by
 rw[MakeChecks.laidMetH_plain _ _ _ (by kernel_rfl)]at hL
 have h1:=Lib.laidMet.reads hL (.tail _ (.tail _ (.tail _ (.head _))))
 have h2:=Lib.laidMet.reads hL (.tail _ (.tail _ (.tail _ (.tail _ (.tail _ (.tail _ (.head _)))))))
 have h3:=Lib.laidMet.reads hL (.tail _ (.tail _ (.head _)))
 have h4:=Lib.laidMet.reads hL (.tail _ (.tail _ (.tail _ (.tail _ (.tail _ (.head _))))))
 have h5:=Lib.laidMet.reads hL (.tail _ (.tail _ (.tail _ (.tail _ (.head _)))))
 rw[Jz]at h1
 rw[MZ]at h2
 exact⟨⟨utf8Tabs_of_reads Tryz.lays260 ⟨by kernel_rfl,by kernel_rfl,by kernel_rfl,by kernel_rfl,by kernel_rfl,by kernel_rfl,by kernel_rfl⟩ h2 h1,
  cell_of_shapedOpen_int (t:=3) (zero:= #[.int .i64 0]) hS (of_decide_eq_true (by kernel_rfl)) (by kernel_rfl) rfl (by kernel_rfl) (by kernel_rfl) Tryz.underlying3⟩,
  ⟨M_ (by kernel_rfl) (by kernel_rfl) ⟨_,_,rfl⟩ h4,M_ (by kernel_rfl) (by kernel_rfl) ⟨_,_,rfl⟩ h5⟩,Ui h3⟩
theorem kN.low{w w':World}{B:Nat}(h:kN w)(hb:Below B w w')(hB:8≤B):kN w':=⟨h.rd.low hb hB,h.se.low hb hB,h.tp.low hb hB⟩
theorem kN.next{w w':World}(h:kN w)(hb:Below w.heap.size w w'):kN w':=h.low hb h.rd.eight
end Go.Proofs.YtkblmloobkiloaaGreatDoor
namespace Go.Proofs.YtkblmloobkiloaaGreatDoor
open Go.Lib (hid)
open Go.RowKit
theorem Bys.at2{w:World}{B:Nat}{A:Option Addr}{n c:Nat}{l:List UInt8}(h:Bys w B (.slice A n c) l){k:Nat}{b:UInt8}(hx:l[k]? =some b):∃ad,A=some ad∧ad.block<B∧w.cell? (ad.add k)=some (.int .u8 (b.toNat:Int)):=by
 obtain⟨A',c',e, -, -,hr⟩:=h
 injection e with e1 e2 e3
 subst e1
 have hk:k<l.length:=(List.getElem?_eq_some_iff.1 hx).1
 obtain⟨ad,u,h1,h2,h3,h4⟩:=hr.at_ hk
 refine⟨ad,h1,h2,h4.trans ?_⟩
 rw[aX,List.getElem?_map,hx]at h3
 exact h3.symm▸rfl
structure LS(w0 w:World):Prop where
 up:Below w0.heap.size w0 w
 wd:kN w
theorem LS.next{w0 w w':World}(h:LS w0 w)(hb:Below w.heap.size w w'):LS w0 w':=⟨h.up.trans (hb.mono h.up.size),h.wd.next hb⟩
theorem LS.start{w:World}(h:kN w):LS w w:=⟨Below.refl _ _,h⟩
theorem LS.bys{w0 w:World}{v:Value}{x:List UInt8}(h:LS w0 w)(hx:Bys w0 w0.heap.size v x):Bys w w.heap.size v x:=(hx.below h.up).more h.up.size
end Go.Proofs.YtkblmloobkiloaaGreatDoor
namespace Go.Proofs.YtkblmloobkiloaaGreatDoor
open Go.Lib (hid)
open Go.RowKit
theorem Bys.sub{w:World}{B:Nat}{A:Option Addr}{c:Nat}{l:List UInt8}(k n m:Nat)(h:Bys w B (.slice A l.length c) l)(hk:k+n≤l.length)(hm:k+n≤m)(hmc:m≤c):Bys w B (AY A k n m) ((l.drop k).take n):=by
 obtain⟨A',c',e,h1,h2,h3⟩:=h
 injection e with e1 e2 e3
 subst e1 e3
 have hl:((l.drop k).take n).length=n:=by rw[List.length_take,List.length_drop];omega
 refine⟨if m=k then A else A.map (·.add k),m-k,(by rw[hl]),(by rw[hl];omega),(by omega),(by rw[jQ,Nat.mul_one]),fun hn=> ?_⟩
 rw[hl]at hn
 obtain⟨ad,rfl,hb,hc⟩:=h3.2 (by omega)
 rw[if_neg (by omega)]
 refine⟨ad.add k,rfl,by rw[nR];exact hb,fun j u hj=> ?_⟩
 have hj':j<n:=by
  have:=(List.getElem?_eq_some_iff.1 hj).1
  rw[jQ,hl]at this
  exact this
 rw[lU]
 refine hc (k+j) u ?_
 rw[aX,List.getElem?_map]at hj⊢
 rw[List.getElem?_take_of_lt hj',List.getElem?_drop]at hj
 exact hj
def BdS(w:World)(p:Nat)(hv:Value)(x:List UInt8)(st:Option (List UInt8)):Prop:=
 ∃(a:Nat) (b:Bool),Blk w p 97 #[hv,.int .i64 (a:Int),.bool b]∧a≤x.length∧x.length≤16777216∧st=if b then none else some (x.drop a)
theorem BdS.below{w w':World}{p:Nat}{hv:Value}{x:List UInt8}{st:Option (List UInt8)}(h:BdS w p hv x st)(hb:Below w.heap.size w w'):BdS w' p hv x st:=by
 obtain⟨a,b,h1,h2⟩:=h
 exact⟨a,b,Blk.below h1 hb (Blk.lt h1),h2⟩
theorem BdS.off{S:Nat→Prop}{w w':World}{p:Nat}{hv:Value}{x:List UInt8}{st:Option (List UInt8)}(h:BdS w p hv x st)(ho:Off S w w')(hp:¬S p):BdS w' p hv x st:=by
 obtain⟨a,b,h1,h2⟩:=h
 exact⟨a,b,ho.blk h1 hp,h2⟩
def Wj(p B:Nat)(hv:Value)(x:List UInt8)(r:List UInt8×Option (List UInt8))(w:World)(e:Ending)(w':World):Prop:=
 (∃v,e= .returned v∧Bys w' B v r.1)∧BdS w' p hv x r.2∧Off (fun i=>i=p) w w'
theorem oH{w:World}{p B:Nat}{hv:Value}{x:List UInt8}{st:Option (List UInt8)}(n:Nat)(hn:n<18446744073709551616)(hx:Bys w B hv x)(hpB:B≤p)(h:BdS w p hv x st):
  Calls Tryz.prog 90 #[.pointer (some ⟨p,0,none⟩),.int .u64 (n:Int)] w (Wj p B hv x (dn st n) w):=by
 obtain⟨a,b,hb,ha,hz,rfl⟩:=h
 have HX:=hid hx
 obtain⟨A,c,rfl,hc,hm, -⟩:=hx
 have HB:=hid hb
 have HM:=hid hm
 clear hm
 have k0:w.cell? ⟨p,0,none⟩=some (.slice A x.length c):=hb.cell 0
 have k1:w.cell? ⟨p,1,none⟩=some (.int .i64 (a:Int)):=hb.cell 1
 have k2:w.cell? ⟨p,2,none⟩=some (.bool b):=hb.cell 2
 have j0:w.drew.cell? ⟨p,0,none⟩=some (.slice A x.length c):=hb.cell 0
 have j1:w.drew.cell? ⟨p,1,none⟩=some (.int .i64 (a:Int)):=hb.cell 1
 have j2:w.drew.cell? ⟨p,2,none⟩=some (.bool b):=hb.cell 2
 have f2:w.drew.frozen? ⟨p,2,none⟩=false:=hb.frozen 2
 clear hb
 go_enter Tryz.func90,Tryz.ntmps90
 go_upto_region 1 with(fail)
 cases b with
 |true=>
  have HBS:=hid (show∀w':World,Blk w' p 97 #[.slice A x.length c,.int .i64 (a:Int),.bool true]→BdS w' p (.slice A x.length c) x none from fun w' h=>⟨a,true,h,ha,hz,rfl⟩)
  have HOB:=hid (show Off (fun i=>i=p) w (w.setCell ⟨p,2,none⟩ (.bool true)).drew from((Off.refl (fun i=>i=p) w).setCell (p:=⟨p,2,none⟩) rfl (.bool true)).drew)
  go_region
  go_wp2_with fail
  refine bodyPost_ret (v:= .slice none 0 0) (by simp[results,Tryz.results90]) rfl ⟨⟨_,rfl,Bys.nil_ _ _⟩, ?_, ?_⟩
  ·rw[jB (fun r h=>by cases h)]
   exact HBS.out _ (Blk.aW HB.out 2 (.bool true))
  ·exact HOB.out
 |false=>
  have HRR:=hid (show(if false=true then none else some (x.drop a))=some (x.drop a)from rfl)
  by_cases hle:n≤x.length-a
  ·have HRO:=hid (show dn (some (x.drop a)) n=((x.drop a).take n,some (x.drop (a+n)))from by
    rw[gU (by rw[List.length_drop];exact hle),List.drop_drop])
   have hu:IntKind.u64.wrap ((x.length:Int)-(a:Int))=((x.length-a:Nat):Int):=by rw[IntKind.wrap_u64];omega
   go_region
   clear k0 k1 k2 hu
   have HBD:=hid (show Blk w.drew p 97 #[.slice A x.length c,.int .i64 (a:Int),.bool false]from HB.out)
   have HOF:=hid (Off.of_below (S:=fun i=>i=p) (aC w))
   have HXD:=hid (HX.out.below ((aC w).mono (by have:=Blk.lt HB.out;omega)))
   generalize w.drew=w1 at HBD HOF HXD j0 j1 j2 f2⊢
   have i0:w1.drew.cell? ⟨p,0,none⟩=some (.slice A x.length c):=HBD.out.cell 0
   have i1:w1.drew.cell? ⟨p,1,none⟩=some (.int .i64 (a:Int)):=HBD.out.cell 1
   have hw:wrap64 (n:Int)=(n:Int):=IntWalk.wrap64_in _ (by omega)
   have hw2:wrap64 ((a:Int)+(n:Int))=((a+n:Nat):Int):=by rw[IntWalk.wrap64_in _ (by omega)];omega
   have hac:a+n≤c:=by omega
   go_upto_region 4 with(fail)
   go_region
   rw[show a+n-a=n from by omega]
   generalize hV:Value.slice (if c=a then A else A.map (fun x=>x.add a)) n (c-a)=V
   have HBE:=hid (show Blk w1.drew p 97 #[.slice A x.length c,.int .i64 (a:Int),.bool false]from HBD.out)
   have HOE:=hid (HOF.out.trans (Off.of_below (S:=fun i=>i=p) (aC w1)))
   have HV:=hid (show Bys w1.drew B V ((x.drop a).take n)from by
    rw[←hV]
    exact Bys.sub a n c (HXD.out.below ((aC w1).mono (by have:=Blk.lt HBD.out;omega))) (by omega) hac (Nat.le_refl _))
   clear hV j0 j1 j2 f2 i0 hw hw2 hac HBD HOF HXD
   generalize w1.drew=w2 at HBE HOE HV i1⊢
   have f1:w2.frozen? ⟨p,1,none⟩=false:=HBE.out.frozen 1
   have hw:wrap64 (n:Int)=(n:Int):=IntWalk.wrap64_in _ (by omega)
   go_wp2_with fail
   refine bodyPost_ret (v:=V) (by simp[results,Tryz.results90]) rfl ?_
   rw[HRO.out]
   refine⟨⟨_,rfl, ?_⟩,⟨a+n,false, ?_,by omega,hz,rfl⟩,HOE.out.setCell (p:=⟨p,1,none⟩) rfl _⟩
   ·exact HV.out.keep fun q hq=>World.cell?_of_block (Below.heap_setCell _ _ _ _ (by show q.block≠p;omega))
   ·rw[show(a:Int)+(n:Int)=((a+n:Nat):Int)from by omega]
    exact Blk.aW HBE.out 1 (.int .i64 ((a+n:Nat):Int))
  ·have hgt:x.length-a<n:=by omega
   have HRO:=hid (show dn (some (x.drop a)) n=([],none)from jB (fun r h=>by injection h with h;rw[←h,List.length_drop];omega))
   have HBS:=hid (show∀w':World,Blk w' p 97 #[.slice A x.length c,.int .i64 (a:Int),.bool true]→BdS w' p (.slice A x.length c) x none from fun w' h=>⟨a,true,h,ha,hz,rfl⟩)
   have hu:IntKind.u64.wrap ((x.length:Int)-(a:Int))=((x.length-a:Nat):Int):=by rw[IntKind.wrap_u64];omega
   have HOB:=hid (show Off (fun i=>i=p) w (w.setCell ⟨p,2,none⟩ (.bool true)).drew from((Off.refl (fun i=>i=p) w).setCell (p:=⟨p,2,none⟩) rfl (.bool true)).drew)
   go_region
   go_wp2_with fail
   refine bodyPost_ret (v:= .slice none 0 0) (by simp[results,Tryz.results90]) rfl ?_
   rw[HRO.out]
   exact⟨⟨_,rfl,Bys.nil_ _ _⟩,HBS.out _ (Blk.aW HB.out 2 (.bool true)),HOB.out⟩
theorem zN{l:List UInt8}{j:Nat}{c:UInt8}(h:l[j]? =some c):aH (l.drop j)=aH (l.drop (j+1))*256+c.toNat:=by
 obtain⟨hj,rfl⟩:=List.getElem?_eq_some_iff.1 h
 rw[List.drop_eq_getElem_cons hj]
 show l[j].toNat+256*aH (l.drop (j+1))=_
 omega
theorem iy{w:World}{p B:Nat}{hv:Value}{x:List UInt8}{st:Option (List UInt8)}(k:Nat)(hk:k≤8)(hx:Bys w B hv x)(hpB:B≤p)(h:BdS w p hv x st):
  Calls Tryz.prog 47 #[.pointer (some ⟨p,0,none⟩),.int .i64 (k:Int)] w fun e w'=>e= .returned (.int .u64 (aH (dn st k).1:Int))∧BdS w' p hv x (dn st k).2∧Off (fun i=>i=p) w w':=by
 have Na:=hid (oH k (by omega) hx hpB h)
 have HL:=hid (show(dn st k).1.length≤8 from by
  unfold dn
  cases st with
  |none=>exact Nat.zero_le _
  |some r=>
   dsimp only
   unfold gJ
   split<;>rename_i hh
   ·exact Nat.zero_le _
   ·split at hh
    ·injection hh with hh
     injection hh with hh
     rw[←hh,List.length_take]
     omega
    ·cases hh)
 have hw:IntKind.u64.wrap (k:Int)=(k:Int):=by rw[IntKind.wrap_u64];omega
 clear hx hpB h
 go_enter Tryz.func47,Tryz.ntmps47
 go_wp2_with fail
 refine Na.out.mono ?_
 rintro e w1 ⟨⟨v,rfl,hv⟩,hs,ho⟩
 have HS:=hid (And.intro hs ho)
 clear hs ho Na
 generalize hl:(dn st k).1=l at*
 have HLL:=hid hl
 clear hl
 have HV:=hid hv
 obtain⟨A,c,rfl, -⟩:=hv
 have hl8:=HL.out
 go_upto_region 4 with(fail)
 go_loopw [6,7] (fun n i wr=>wr=w1∧∃j:Nat,j≤l.length∧i= .int .i64 ((j:Int)-1)∧n= .int .u64 (aH (l.drop j):Int)) (fun _ i _=>(intOf i+1).toNat)
 case atStart=>exact⟨rfl,l.length,Nat.le_refl _,by go_num,by rw[List.drop_length];rfl⟩
 case round=>
  obtain⟨rfl,j,hj,rfl,rfl⟩:=hrel
  cases j with
  |zero=>
   have HN:=hid (show aH (l.drop 0)=aH l from rfl)
   go_wp2_with fail
   refine bodyPost_ret (v:= .int .u64 (aH (l.drop 0):Int)) (by simp[results,Tryz.results47]) rfl ?_
   rw[HLL.out]
   exact⟨rfl,HS.out.1,HS.out.2⟩
  |succ j=>
   obtain⟨b,hb⟩:∃b,l[j]? =some b:=⟨l[j],List.getElem?_eq_getElem _⟩
   obtain⟨ad,rfl, -,kx⟩:=HV.out.at2 hb
   have HD:=hid (zN hb)
   have hb8:b.toNat<256:=b.toNat_lt
   have hlt:aH (l.drop (j+1))<72057594037927936:=Nat.lt_of_lt_of_le (dD _) (show 256^_≤256^7 from Nat.pow_le_pow_right (by decide) (by rw[List.length_drop];omega))
   clear hb
   generalize hT:aH (l.drop (j+1))=T at*
   clear hT
   go_wp2_with fail
   go_roundw
   case rel=>
    refine⟨by trivial,j,by omega,by go_num, ?_⟩
    rw[HD.out]
    show Value.int _ _=Value.int _ _
    congr 1
   case measure=>first|(simp[intOf];done)|(simp[intOf];omega)
end Go.Proofs.YtkblmloobkiloaaGreatDoor
namespace Go.Proofs.YtkblmloobkiloaaGreatDoor
open Go.Lib (hid)
open Go.RowKit
theorem D5(v:Value)(l:List ByteArray)(w:World)(hl:iW w w.heap.size v l)(hz:∀s∈l,s.size≤16777216):
  Calls Tryz.prog 107 #[v] w fun e w'=>e= .returned (.bool (l.all good))∧w=w':=by
 have HL:=hid hl
 have HZ:=hid hz
 obtain⟨A,c,rfl,h1,h2, -⟩:=hl
 have h3:l.length≤9223372036854775807:=by unfold maxLen at h2;omega
 clear h1 h2 hz
 go_enter Tryz.func107,Tryz.ntmps107
 go_upto_region 2 with(fail)
 go_loopw [3,4] (fun i _ wr=>wr=w∧∃k:Nat,k≤l.length∧i= .int .i64 (k:Int)∧l.all good=(l.drop k).all good) (fun i _ _=>l.length-(intOf i).toNat)
 case atStart=>exact⟨rfl,0,Nat.zero_le _,rfl,rfl⟩
 case round=>
  obtain⟨rfl,k,hk,rfl,hg⟩:=hrel
  have HG:=hid hg
  clear hg
  by_cases hlt:k<l.length
  ·obtain⟨x,hx⟩:∃x,l[k]? =some x:=⟨l[k],List.getElem?_eq_getElem _⟩
   obtain⟨ad,rfl, -,kx⟩:=HL.out.at_ hx
   have hxs:=HZ.out x (List.mem_of_getElem? hx)
   have HD:=hid (show(l.drop k).all good=(good x&&(l.drop (k+1)).all good)from by
    obtain⟨hh,rfl⟩:=List.getElem?_eq_some_iff.1 hx
    rw[List.drop_eq_getElem_cons hh,List.all_cons])
   clear hx
   go_wp2_with fail
   refine(qM x wr hxs).mono ?_
   rintro e w2 ⟨rfl,rfl⟩
   cases hq:good x with
   |true=>
    have HQ:=hid (show l.all good=(l.drop (k+1)).all good from by rw[HG.out,HD.out,hq];rfl)
    clear hq
    go_wp2_with fail
    go_roundw
    case rel=>exact⟨by trivial,k+1,by omega,by go_num,HQ.out⟩
    case measure=>simp[intOf];omega
   |false=>
    have HQ:=hid (show l.all good=false from by rw[HG.out,HD.out,hq];rfl)
    clear hq
    go_wp2_with fail
    refine bodyPost_ret (v:= .bool false) (by simp[results,Tryz.results107]) rfl ⟨by rw[HQ.out],rfl⟩
  ·have hkk:k=l.length:=by omega
   subst hkk
   rw[List.drop_length]at HG
   clear hlt hk
   go_wp2_with fail
   refine bodyPost_ret (v:= .bool true) (by simp[results,Tryz.results107]) rfl ⟨by rw[HG.out]<;>rfl,rfl⟩
theorem jM(st:Option (List UInt8))(k:Nat):(dn st k).1.length≤k:=by
 cases st with
 |none=>exact Nat.zero_le _
 |some r=>
  by_cases h:k≤r.length
  ·rw[gU h,List.length_take]
   omega
  ·rw[jB (fun q hq=>by injection hq with hq;subst hq;omega)]
   exact Nat.zero_le _
theorem JB(st:Option (List UInt8)):st.bind aN=if good (ofL (dn (dn st 2).2 (aH (dn st 2).1)).1)=true then(dn (dn st 2).2 (aH (dn st 2).1)).2.map (fun r=>(ofL (dn (dn st 2).2 (aH (dn st 2).1)).1,r))else none:=by
 cases st with
 |none=>unfold dn;dsimp only;split<;>rfl
 |some l=>
  show aN l=_
  by_cases h2:2≤l.length
  ·rw[gU h2]
   dsimp only
   have e2:aN l=(match gJ (aH (l.take 2)) (l.drop 2)with|none=>none|some (s,r)=>if good (ofL s)=true then some (ofL s,r)else none):=by
    unfold aN bU
    rw[show gJ 2 l=some (l.take 2,l.drop 2)from if_pos h2]
    rfl
   rw[e2]
   by_cases hn:aH (l.take 2)≤(l.drop 2).length
   ·rw[gU hn,show gJ (aH (l.take 2)) (l.drop 2)=some ((l.drop 2).take (aH (l.take 2)),(l.drop 2).drop (aH (l.take 2)))from if_pos hn]
    rfl
   ·rw[jB (fun q hq=>by injection hq with hq;subst hq;omega),show gJ (aH (l.take 2)) (l.drop 2)=none from if_neg hn]
    dsimp only
    split<;>rfl
  ·rw[jB (st:=some l) (n:=2) (fun q hq=>by injection hq with hq;subst hq;omega)]
   have e2:aN l=none:=by
    unfold aN bU
    rw[show gJ 2 l=none from if_neg h2]
    rfl
   rw[e2]
   split<;>rfl
def Wn(p:Nat)(hv:Value)(x:List UInt8)(st:Option (List UInt8))(w:World)(e:Ending)(w':World):Prop:=
 ∃s,e= .returned (.string s)∧s.size≤65535∧Off (fun i=>i=p∨w.heap.size≤i) w w'∧match st.bind aN with
  |some (t,r)=>s=t∧BdS w' p hv x (some r)
  |none=>BdS w' p hv x none
theorem xW{w:World}{p B:Nat}{hv:Value}{x:List UInt8}{st:Option (List UInt8)}(hx:Bys w B hv x)(hpB:B≤p)(h:BdS w p hv x st):
  Calls Tryz.prog 94 #[.pointer (some ⟨p,0,none⟩)] w (Wn p hv x st w):=by
 have HX:=hid hx
 have HPB:=hid hpB
 have HPL:=hid (show p<w.heap.size from by obtain⟨a,b,hb, -⟩:=h;exact Blk.lt hb)
 have HN:=hid (iy 2 (by decide) hx hpB h)
 have HNL:=hid (show aH (dn st 2).1<65536 from Nat.lt_of_lt_of_le (dD _) (show 256^_≤256^2 from Nat.pow_le_pow_right (by decide) (jM st 2)))
 have HSP:=hid (JB st)
 clear hx hpB h
 go_enter Tryz.func94,Tryz.ntmps94
 go_wp2_with fail
 refine HN.out.mono ?_
 rintro e w1 ⟨rfl,hs,ho⟩
 have HX1:=hid (HX.out.keep fun q hq=>World.cell?_of_block (ho.block _ (by have:=HPB.out;have:=HPL.out;omega) (fun hi=>by have hi:q.block=p:=hi;have:=HPB.out;omega)))
 have Na:=hid (oH (aH (dn st 2).1) (by have:=HNL.out;omega) HX1.out HPB.out hs)
 have HO1:=hid ho
 clear hs ho HN
 go_wp2_with fail
 refine Na.out.mono ?_
 rintro e w2 ⟨⟨v,rfl,hv2⟩,hs,ho⟩
 have hcv:=jH hv2
 have HRL:=hid (jM (dn st 2).2 (aH (dn st 2).1))
 have HO2:=hid (HO1.out.trans ho)
 have HS2:=hid hs
 have HLT:=hid (show p<w2.heap.size from by obtain⟨a,b,hb, -⟩:=hs;exact Blk.lt hb)
 have HSZ:=hid (HO1.out.trans ho).size
 clear hs ho Na
 generalize hR:dn (dn st 2).2 (aH (dn st 2).1)=R at*
 clear hR
 generalize hn:aH (dn st 2).1=n at*
 clear hn
 obtain⟨S,hS⟩:∃S,S=ofL R.1:=⟨_,rfl⟩
 have HSS:=hid (show S.size≤65535 from by rw[hS,dU];have:=HRL.out;have:=HNL.out;omega)
 have HSE:=hid hS
 rw[←hS]at hcv
 clear hS
 have hup:Below w2.heap.size w2 (w2.alloc (.cells (h_ [S]).toArray 9)):=(Below.refl _ _).alloc (Nat.le_refl _) _
 have HN3:=hid (show iW (w2.alloc (.cells (h_ [S]).toArray 9)) (w2.alloc (.cells (h_ [S]).toArray 9)).heap.size (.slice (some ⟨w2.heap.size,0,none⟩) 1 1) [S]from by rw[World.size_alloc];exact iW.new w2 _ [S] (show 1≤maxLen by decide))
 have HS3:=hid (HS2.out.below hup)
 have HO3:=hid (show Off (fun i=>i=p∨w.heap.size≤i) w (w2.alloc (.cells (h_ [S]).toArray 9))from(HO2.out.mono fun _ _ hi=> .inl hi).trans (Off.of_below hup))
 clear hup
 go_wp2_with fail
 change Calls _ _ _ (w2.alloc (.cells (h_ [S]).toArray 9)) _
 refine(D5 _ [S] _ HN3.out (fun s hs=>by rw[List.mem_singleton]at hs;subst hs;have:=HSS.out;omega)).mono ?_
 rintro e w4 ⟨rfl,rfl⟩
 rw[show([S]:List ByteArray).all good=good S from by rw[List.all_cons,List.all_nil,Bool.and_true]]
 generalize w2.alloc (.cells (h_ [S]).toArray 9)=w3 at HN3 HS3 HO3⊢
 rw[←HSE.out]at HSP
 cases hg:good S with
 |true=>
  rw[hg,if_pos rfl]at HSP
  clear hg hcv
  go_wp2_with fail
  refine bodyPost_ret (v:= .string S) (by simp[results,Tryz.results94]) rfl ⟨S,rfl,HSS.out,HO3.out, ?_⟩
  rw[HSP.out]
  have hs3:=HS3.out
  cases hr2:R.2 with
  |none=>rw[hr2]at hs3;exact hs3
  |some r=>rw[hr2]at hs3;exact⟨rfl,hs3⟩
 |false=>
  rw[hg,if_neg (by decide)]at HSP
  clear hg hcv
  obtain⟨a,b,hb,ha,hz,hst⟩:=HS3.out
  have HBK:=hid (Blk.aW hb 2 (.bool true))
  have HAZ:=hid (And.intro ha hz)
  have k2:w3.cell? ⟨p,2,none⟩=some (.bool b):=hb.cell 2
  have f2:w3.frozen? ⟨p,2,none⟩=false:=hb.frozen 2
  clear hb ha hz hst
  go_wp2_with fail
  refine bodyPost_ret (v:= .string S) (by simp[results,Tryz.results94]) rfl ⟨S,rfl,HSS.out,HO3.out.setCell (p:=⟨p,2,none⟩) (.inl rfl) _, ?_⟩
  rw[HSP.out]
  exact⟨a,true,HBK.out,HAZ.out.1,HAZ.out.2,rfl⟩
end Go.Proofs.YtkblmloobkiloaaGreatDoor
namespace Go.Proofs.YtkblmloobkiloaaGreatDoor
open Go.Lib (hid)
open Go.RowKit
theorem oI(st:Option (List UInt8))(k:Nat):st.bind (bU k)=(dn st k).2.map (fun r=>(aH (dn st k).1,r)):=by
 cases st with
 |none=>rfl
 |some l=>
  show bU k l=_
  by_cases h:k≤l.length
  ·rw[gU h]
   unfold bU
   rw[show gJ k l=some (l.take k,l.drop k)from if_pos h]
   rfl
  ·rw[jB (st:=some l) (n:=k) (fun q hq=>by injection hq with hq;subst hq;omega)]
   unfold bU
   rw[show gJ k l=none from if_neg h]
   rfl
theorem BdS.bad{w:World}{p:Nat}{hv:Value}{x:List UInt8}{st:Option (List UInt8)}(h:BdS w p hv x st):BdS (w.setCell ⟨p,2,none⟩ (.bool true)) p hv x none:=by
 obtain⟨a,b,hb,ha,hz, -⟩:=h
 exact⟨a,true,Blk.aW hb 2 (.bool true),ha,hz,rfl⟩
def Uj(p:Nat)(hv:Value)(x:List UInt8)(st:Option (List UInt8))(w:World)(e:Ending)(w':World):Prop:=
 ∃n:Nat,e= .returned (.int .i64 (n:Int))∧n≤16∧Off (fun i=>i=p) w w'∧match st.bind (bU 2)with
  |some (k,r)=>if k≤16 then n=k∧BdS w' p hv x (some r)else BdS w' p hv x none
  |none=>BdS w' p hv x none
theorem rY{w:World}{p B:Nat}{hv:Value}{x:List UInt8}{st:Option (List UInt8)}(hx:Bys w B hv x)(hpB:B≤p)(h:BdS w p hv x st):
  Calls Tryz.prog 96 #[.pointer (some ⟨p,0,none⟩)] w (Uj p hv x st w):=by
 have HN:=hid (iy 2 (by decide) hx hpB h)
 have HNL:=hid (show aH (dn st 2).1<65536 from Nat.lt_of_lt_of_le (dD _) (show 256^_≤256^2 from Nat.pow_le_pow_right (by decide) (jM st 2)))
 have HG:=hid (oI st 2)
 clear hx hpB h
 go_enter Tryz.func96,Tryz.ntmps96
 go_wp2_with fail
 refine HN.out.mono ?_
 rintro e w1 ⟨rfl,hs,ho⟩
 have HS:=hid hs
 have HO:=hid ho
 clear hs ho HN
 have hnl:=HNL.out
 generalize aH (dn st 2).1=n at*
 generalize(dn st 2).2=s2 at*
 by_cases h16:16<n
 ·obtain⟨a,b,hb,ha,hz,hst⟩:=HS.out
  have k2:w1.cell? ⟨p,2,none⟩=some (.bool b):=hb.cell 2
  have f2:w1.frozen? ⟨p,2,none⟩=false:=hb.frozen 2
  have H16:=hid h16
  clear hb ha hz hst
  go_wp2_with fail
  refine bodyPost_ret (v:= .int .i64 0) (by simp[results,Tryz.results96]) rfl ⟨0,rfl,by decide,HO.out.setCell (p:=⟨p,2,none⟩) rfl _, ?_⟩
  rw[HG.out]
  cases s2 with
  |none=>exact HS.out.bad
  |some r=>
   show if n≤16 then _ else _
   rw[if_neg (by have:=H16.out;omega)]
   exact HS.out.bad
 ·have hw:wrap64 (n:Int)=(n:Int):=IntWalk.wrap64_in _ (by omega)
  have H16:=hid h16
  go_wp2_with fail
  refine bodyPost_ret (v:= .int .i64 (n:Int)) (by simp[results,Tryz.results96]) rfl ⟨n,rfl,by have:=H16.out;omega,HO.out, ?_⟩
  rw[HG.out]
  have hs:=HS.out
  cases s2 with
  |none=>exact hs
  |some r=>
   show if n≤16 then _ else _
   rw[if_pos (by have:=H16.out;omega)]
   exact⟨rfl,hs⟩
def Uk(p:Nat)(hv:Value)(x:List UInt8)(st:Option (List UInt8))(w:World)(e:Ending)(w':World):Prop:=
 ∃q:Qd,e= .returned (.agg (nU q).toArray)∧q.ok∧Off (fun i=>i=p∨w.heap.size≤i) w w'∧match st.bind dR with
  |some (t,r)=>q=t∧BdS w' p hv x (some r)
  |none=>BdS w' p hv x none
theorem JC(st:Option (List UInt8)):match st.bind dR with
  |some (t,r)=>t=⟨aH (dn st 1).1,aH (dn (dn st 1).2 4).1,aH (dn (dn (dn st 1).2 4).2 8).1⟩∧(dn (dn (dn st 1).2 4).2 8).2=some r
  |none=>(dn (dn (dn st 1).2 4).2 8).2=none:=by
 cases st with
 |none=>rfl
 |some l=>
  show match dR l with|some (t,r)=>_|none=>_
  unfold dR
  by_cases h:13≤l.length
  ·rw[if_pos h,gU (n:=1) (by omega)]
   dsimp only
   rw[gU (n:=4) (by rw[List.length_drop];omega),List.drop_drop]
   dsimp only
   rw[gU (n:=8) (by rw[List.length_drop];omega),List.drop_drop]
   exact⟨rfl,rfl⟩
  ·rw[if_neg h]
   dsimp only
   by_cases h1:1≤l.length
   ·rw[gU h1]
    dsimp only
    by_cases h4:4≤(l.drop 1).length
    ·rw[gU h4,List.drop_drop]
     dsimp only
     rw[jB (fun q hq=>by injection hq with hq;subst hq;rw[List.length_drop];omega)]
    ·rw[jB (n:=4) (fun q hq=>by injection hq with hq;subst hq;omega)]
     rfl
   ·rw[jB (n:=1) (fun q hq=>by injection hq with hq;subst hq;omega)]
    rfl
theorem Off.bys{w w':World}{S:Nat→Prop}{B:Nat}{v:Value}{l:List UInt8}(h:Bys w B v l)(ho:Off S w w')(hB:B≤w.heap.size)(hS:∀i,S i→B≤i):Bys w' B v l:=
 h.keep fun q hq=>World.cell?_of_block (ho.block _ (Nat.lt_of_lt_of_le hq hB) (fun hi=>by have:=hS _ hi;omega))
theorem xX{w:World}{p B:Nat}{hv:Value}{x:List UInt8}{st:Option (List UInt8)}(hx:Bys w B hv x)(hpB:B≤p)(h:BdS w p hv x st):
  Calls Tryz.prog 97 #[.pointer (some ⟨p,0,none⟩)] w (Uk p hv x st w):=by
 have HP:=hid (JC st)
 have HPL:=hid (show p<w.heap.size from by obtain⟨a,b,hb, -⟩:=h;exact Blk.lt hb)
 have HPB:=hid hpB
 have hup:Below w.heap.size w (w.alloc (.cells #[.int .u8 0,.int .u32 0,.int .u64 0] 37)):=(Below.refl _ _).alloc (Nat.le_refl _) _
 have HZ0:=hid (Blk.new w 37 #[.int .u8 0,.int .u32 0,.int .u64 0])
 have HX0:=hid (hx.below (hup.mono (by have:=HPB.out;have:=HPL.out;omega)))
 have HS0:=hid (h.below hup)
 have HO0:=hid (Off.of_below (S:=fun i=>i=p∨w.heap.size≤i) hup)
 have HSZ:=hid (World.size_alloc w (.cells #[.int .u8 0,.int .u32 0,.int .u64 0] 37))
 have l1:aH (dn st 1).1<256:=Nat.lt_of_lt_of_le (dD _) (show 256^_≤256^1 from Nat.pow_le_pow_right (by decide) (jM st 1))
 have l4:aH (dn (dn st 1).2 4).1<4294967296:=Nat.lt_of_lt_of_le (dD _) (show 256^_≤256^4 from Nat.pow_le_pow_right (by decide) (jM _ 4))
 have l8:aH (dn (dn (dn st 1).2 4).2 8).1<18446744073709551616:=Nat.lt_of_lt_of_le (dD _) (show 256^_≤256^8 from Nat.pow_le_pow_right (by decide) (jM _ 8))
 clear hx hpB h hup
 go_enter Tryz.func97,Tryz.ntmps97
 go_upto_region 1 with(fail)
 generalize w.alloc (.cells #[.int .u8 0,.int .u32 0,.int .u64 0] 37)=w0 at HZ0 HX0 HS0 HO0 HSZ⊢
 have HN:=hid (iy 1 (by decide) HX0.out HPB.out HS0.out)
 go_wp2_with fail
 refine HN.out.mono ?_
 rintro e w1 ⟨rfl,hs,ho⟩
 have HS1:=hid hs
 have HX1:=hid (Off.bys HX0.out ho (by have:=HPB.out;have:=HPL.out;have:=HSZ.out;omega) (fun i hi=>by have hi:i=p:=hi;have:=HPB.out;omega))
 have HZ1:=hid (ho.blk HZ0.out (fun hi=>by have hi:w.heap.size=p:=hi;have:=HPL.out;omega))
 have HO1:=hid (HO0.out.trans (ho.mono fun _ _ hi=> .inl hi))
 have uF:=hid ho.size
 clear hs ho HN HS0 HX0 HZ0 HO0
 have HN:=hid (iy 4 (by decide) HX1.out HPB.out HS1.out)
 go_wp2_with fail
 refine HN.out.mono ?_
 rintro e w2 ⟨rfl,hs,ho⟩
 have HS2:=hid hs
 have HX2:=hid (Off.bys HX1.out ho (by have:=HPB.out;have:=HPL.out;have:=HSZ.out;have:=uF.out;omega) (fun i hi=>by have hi:i=p:=hi;have:=HPB.out;omega))
 have HZ2:=hid (ho.blk HZ1.out (fun hi=>by have hi:w.heap.size=p:=hi;have:=HPL.out;omega))
 have HO2:=hid (HO1.out.trans (ho.mono fun _ _ hi=> .inl hi))
 clear hs ho HN HS1 HX1 HZ1 HO1
 have HN:=hid (iy 8 (by decide) HX2.out HPB.out HS2.out)
 go_wp2_with fail
 refine HN.out.mono ?_
 rintro e w3 ⟨rfl,hs,ho⟩
 have HS3:=hid hs
 have HZ3:=hid (ho.blk HZ2.out (fun hi=>by have hi:w.heap.size=p:=hi;have:=HPL.out;omega))
 have HO3:=hid (HO2.out.trans (ho.mono fun _ _ hi=> .inl hi))
 clear hs ho HN HS2 HX2 HZ2 HO2
 generalize(dn (dn (dn st 1).2 4).2 8).2=s8 at*
 generalize aH (dn (dn (dn st 1).2 4).2 8).1=n8 at*
 generalize aH (dn (dn st 1).2 4).1=n4 at*
 generalize aH (dn st 1).1=n1 at*
 have hw1:IntKind.u8.wrap (n1:Int)=(n1:Int):=by rw[IntKind.wrap_u8];omega
 have hw4:IntKind.u32.wrap (n4:Int)=(n4:Int):=by rw[IntKind.wrap_u32];omega
 generalize hz:w.heap.size=z at HZ3 HPL⊢
 have HZZ:=hid hz
 clear hz
 have k0:w3.cell? ⟨z,0,none⟩=some (.int .u8 0):=HZ3.out.cell 0
 have k1:w3.cell? ⟨z,1,none⟩=some (.int .u32 0):=HZ3.out.cell 1
 have k2:w3.cell? ⟨z,2,none⟩=some (.int .u64 0):=HZ3.out.cell 2
 have f0:w3.frozen? ⟨z,0,none⟩=false:=HZ3.out.frozen 0
 have f1:w3.frozen? ⟨z,1,none⟩=false:=HZ3.out.frozen 1
 have f2:w3.frozen? ⟨z,2,none⟩=false:=HZ3.out.frozen 2
 have HBK:=hid (show Blk (((w3.setCell ⟨z,0,none⟩ (.int .u8 (n1:Int))).setCell ⟨z,1,none⟩ (.int .u32 (n4:Int))).setCell ⟨z,2,none⟩ (.int .u64 (n8:Int))) z 37 (nU ⟨n1,n4,n8⟩).toArray from Blk.aW (Blk.aW (Blk.aW HZ3.out 0 _) 1 _) 2 _)
 have HOW:=hid (show Off (fun i=>i=z) w3 (((w3.setCell ⟨z,0,none⟩ (.int .u8 (n1:Int))).setCell ⟨z,1,none⟩ (.int .u32 (n4:Int))).setCell ⟨z,2,none⟩ (.int .u64 (n8:Int)))from(((Off.refl (fun i=>i=z) w3).setCell (p:=⟨z,0,none⟩) rfl _).setCell (p:=⟨z,1,none⟩) rfl _).setCell (p:=⟨z,2,none⟩) rfl _)
 go_wp2_with fail
 generalize((w3.setCell ⟨z,0,none⟩ (.int .u8 (n1:Int))).setCell ⟨z,1,none⟩ (.int .u32 (n4:Int))).setCell ⟨z,2,none⟩ (.int .u64 (n8:Int))=w4 at HBK HOW⊢
 refine bodyPost_ret (bf (l:=nU ⟨n1,n4,n8⟩) rfl Tryz.underlying37 rfl tH rfl HBK.out) rfl ⟨⟨n1,n4,n8⟩,rfl,⟨l1,l4,l8⟩, ?_, ?_⟩
 ·rw[HZZ.out]
  exact(by have h:=HO3.out;rw[HZZ.out]at h;exact h:Off (fun i=>i=p∨z≤i) w w3).trans (HOW.out.mono fun i _ hi=> .inr (by have hi:i=z:=hi;omega))
 ·have hs:=HS3.out.off HOW.out (fun hi=>by have hi:p=z:=hi;have:=HPL.out;omega)
  have hp:=HP.out
  cases hq:st.bind dR with
  |none=>
   rw[hq]at hp
   dsimp only at hp
   rw[hp]at hs
   exact hs
  |some y=>
   obtain⟨t,r⟩:=y
   rw[hq]at hp
   dsimp only at hp
   rw[hp.2]at hs
   exact⟨hp.1.symm,hs⟩
end Go.Proofs.YtkblmloobkiloaaGreatDoor
