/-
  MWF: what the laws of package msg need of them.
-/
import Derived.Test.YtkblmloobkiloaaGreatDoorK00
import Derived.Test.YtkblmloobkiloaaGreatDoorK18
import Derived.Test.YtkblmloobkiloaaGreatDoorK11
namespace Go.Proofs.YtkblmloobkiloaaGreatDoor
open Go.Lib (hid)
open Go.RowKit
open Go.Lib (decDigits)
theorem adp{m:Mg}(h:(refused m).1≠0):qA m=[]:=by
 unfold qA
 split
 ·rfl
 ·rw[if_neg h]
theorem adM{m:Mg}{fs:List Fld}(hk:bQ m.kind=some fs)(h:(refused m).1=0):qA m=fO m.kind++32::(decDigits m.tag++fs.flatMap m.part):=by
 unfold qA
 rw[hk]
 dsimp only
 rw[if_pos h]
theorem aeh{m:Mg}{fs:List Fld}{j:Nat}{f:Fld}(h:fs[j]? =some f):(fs.take (j+1)).flatMap m.part=(fs.take j).flatMap m.part++(32::(f.word++61::m.val f)):=by
 rw[List.take_add_one,h,Option.toList_some,List.flatMap_append]
 simp[Mg.part]
theorem ad3(f:Fld):f.word.length≤8:=by cases f<;>decide
set_option maxRecDepth 100000 in
set_option maxHeartbeats 12800000 in
theorem ac1(m:Mg)(hm:m.ok)(vn vq vd:Value)(w:World)(hl:Lists w w.heap.size m vn vq vd)(hs:m.small):
  Calls Tryz.prog 69 #[iM m vn vq vd] w fun e w'=>e= .returned (.string (ofL (qA m)))∧Below w.heap.size w w':=by
 have hup:Below w.heap.size w (w.alloc (.cells (aF m vn vq vd).toArray 41)):=(Below.refl _ _).alloc (Nat.le_refl _) _
 have HU:=hid hup
 have HM:=hid (show aK (w.alloc (.cells (aF m vn vq vd).toArray 41)) w.heap.size m vn vq vd from Blk.new w _ _)
 have HL:=hid (hl.below hup)
 have HMO:=hid hm
 have HS:=hid hs
 have HBAD:=hid (adp (m:=m))
 have aa5:=hid (abo (m:=m))
 have HTF:=hid (fun fs=>adM (m:=m) (fs:=fs))
 have ZY:=hid (fun w1=>Bv m.kind hm.kind w1)
 obtain⟨An,cn,rfl, -⟩:=hl.n
 obtain⟨Aq,cq,rfl, -⟩:=hl.q
 obtain⟨Ad,cd,rfl, -⟩:=hl.d
 clear hup hl hm hs
 go_enter Tryz.func69,Tryz.ntmps69
 go_upto_region 1 with(fail)
 change Code.wp _ _ _ _ (w.alloc (.cells (aF m (.slice An m.names.length cn) (.slice Aq m.aV.length cq) (.slice Ad m.data.length cd)).toArray 41))
 generalize w.alloc (.cells (aF m (.slice An m.names.length cn) (.slice Aq m.aV.length cq) (.slice Ad m.data.length cd)).toArray 41)=w1 at HU HM HL⊢
 generalize hz:w.heap.size=z at HU HM HL⊢
 have HZZ:=hid hz;clear hz
 have HLE:=hid (show z≤w1.heap.size from Nat.le_of_lt (Blk.lt HM.out))
 go_wp2_with(refine wlw HM.out 0 (aF m (.slice An m.names.length cn) (.slice Aq m.aV.length cq) (.slice Ad m.data.length cd)) rfl rfl _ _ rfl rfl _ Tryz.underlying41 rfl aB ?_)
 refine(Y1 m (.slice An m.names.length cn) (.slice Aq m.aV.length cq) (.slice Ad m.data.length cd) w1 HMO.out.kind (HL.out.more HLE.out) HS.out).mono ?_
 rintro e w2 ⟨rfl,hb⟩
 have HB2:=hid (HU.out.trans (hb.mono HLE.out))
 have HM2:=hid (Blk.below HM.out hb (Blk.lt HM.out))
 have HL2:=hid (HL.out.below (hb.mono HLE.out))
 have HS2:=hid (Nat.le_trans HLE.out hb.size)
 clear hb HU HM HL
 unfold Z9
 generalize(refused m).1=er at HBAD aa5 HTF⊢
 generalize(refused m).2=sz at aa5⊢
 by_cases her:er=0
 ·have hb0:((er:Int) != 0)=false:=by rw[bne_eq_false_iff_eq];omega
  obtain⟨fs,hkf, -,hgd, -, -⟩:=aa5.out her
  have HTX:=hid (HTF.out fs hkf her)
  have HGD:=hid hgd
  rw[hkf]at ZY
  have HLL:=hid (show(iQ m.kind).data.toList=fs.map Fld.rX from by
   unfold iQ
   rw[hkf]
   simp[ofL])
  have hLs:(iQ m.kind).size=fs.length:=by
   have h:=congrArg List.length HLL.out
   rw[Array.length_toList,List.length_map]at h
   exact h
  have h4:=YC hkf
  clear her hgd hkf HBAD aa5 HTF
  generalize iQ m.kind=L at HLL hLs ZY
  have k0:w2.cell? ⟨z,0,none⟩=some (.int .u8 (m.kind:Int)):=Blk.cell HM2.out 0
  go_wp2_with fail
  refine(ZY.out w2).mono ?_
  rintro e w' ⟨rfl,rfl⟩
  clear ZY k0
  have HCC:=hid (show∀wx:World,Below w2.heap.size w2 wx→wx.cell? ⟨z,0,none⟩=some (.int .u8 (m.kind:Int))∧wx.cell? ⟨z,1,none⟩=some (.int .u16 (m.tag:Int))from fun wx h=>⟨(h.cell (p:=⟨z,0,none⟩) (Blk.lt HM2.out)).trans (Blk.cell HM2.out 0),(h.cell (p:=⟨z,1,none⟩) (Blk.lt HM2.out)).trans (Blk.cell HM2.out 1)⟩)
  have htg:=HMO.out.tag
  have hwt:IntKind.u64.wrap (m.tag:Int)=(m.tag:Int):=eH (by omega)
  have aeP:=hid (show m.tag<18446744073709551616 from by omega)
  obtain⟨X0,hX0⟩:∃X,X=ofL (fO m.kind):=⟨_,rfl⟩
  obtain⟨X1,hX1⟩:∃X,X=ofL (decDigits m.tag):=⟨_,rfl⟩
  obtain⟨P0,hP0⟩:∃P,P=X0++⟨#[32]⟩:=⟨_,rfl⟩
  obtain⟨P1,hP1⟩:∃P,P=P0++X1:=⟨_,rfl⟩
  have s0:X0.size≤8:=by rw[hX0,dU];exact Ja _
  have s1:X1.size≤20:=by rw[hX1];exact jD _ aeP.out
  have s2:P0.size≤9:=by rw[hP0,ByteArray.size_append];show X0.size+1≤9;omega
  have s3:P1.size≤29:=by rw[hP1,ByteArray.size_append];omega
  have a1:∀w,(Op.stringOp .add X0 ⟨#[32]⟩).run Tryz.prog w= .ok (.string P0) w:=fun w=>by rw[hP0];exact run_string_add_sum w _ _ (by show X0.size+1≤_;omega)
  have a2:∀w,(Op.stringOp .add P0 X1).run Tryz.prog w= .ok (.string P1) w:=fun w=>by rw[hP1];exact run_string_add_sum w _ _ (by omega)
  have HP1:=hid (show P1=ofL (fO m.kind++32::decDigits m.tag)from by
   rw[hP1,hP0,hX0,hX1,show(⟨#[32]⟩:ByteArray)=ofL [32]from rfl,Bf,Bf]
   simp)
  have afm:=hid s3
  have HX0:=hid hX0.symm
  have HX1:=hid hX1.symm
  clear hX0 hX1 hP0 hP1 s0 s1 s2 s3
  go_upto_region 5 with(fail)
  try simp only[Act.put]
  refine wp_region_held_drew (S:=fun wx=>Below w2.heap.size w2 wx) (by kernel_rfl) (aC w2) (fun hHeld=> ?_)
  generalize w2.drew=wd at hHeld⊢
  refine tk 22 0 (.pointer (some ⟨z,0,none⟩)) ?_
  refine tk2 23 1 (.int .u8 (m.kind:Int)) rfl (fun wq hSw=>by have k:=(HCC.out _ hSw).1;go_simp) ?_
  refine tk 26 4 (.pointer (some ⟨z,1,none⟩)) ?_
  refine tk2 27 5 (.int .u16 (m.tag:Int)) rfl (fun wq hSw=>by have k:=(HCC.out _ hSw).2;go_simp) ?_
  refine tk 28 6 (.int .u64 (m.tag:Int)) ?_
  refine wpAnyH_ready (rs:=[2]) (by kernel_rfl) (by simp) ?_
  refine AllReadyH.cons rfl (fun K hK=> ?_) AllReadyH.nil
  rw[if_pos (by rfl)]
  go_simp
  (with_reducible refine(YW m.kind HMO.out.kind wd).mono ?_)
  rintro e wy ⟨rfl,hb⟩
  rw[HX0.out]
  dsimp only
  have cO:=hHeld.trans (hb.mono hHeld.size)
  clear hb hHeld
  refine hK.out _ _ cO (fun hHeld=> ?_)
  clear hK cO
  refine tk 25 3 (.string P0) ?_
  refine wpAnyH_ready (rs:=[7]) (by kernel_rfl) (by simp) ?_
  refine AllReadyH.cons rfl (fun K hK=> ?_) AllReadyH.nil
  rw[if_pos (by rfl)]
  go_simp
  (with_reducible refine(zS m.tag aeP.out wy).mono ?_)
  rintro e wy ⟨rfl,hb⟩
  rw[HX1.out]
  dsimp only
  have cO:=hHeld.trans (hb.mono hHeld.size)
  clear hb hHeld
  refine hK.out _ _ cO (fun hHeld=> ?_)
  clear hK cO
  refine tk 30 8 (.string P1) ?_
  refine tk 7 9 (.string P1) ?_
  refine wpAnyH_done (by kernel_rfl) ?_ _
  have HF5:=hid hHeld
  clear hHeld a1 a2 hwt
  go_upto_region 7 with(fail)
  go_loopw [7,8] (fun t i wr=>∃(j:Nat) (X:ByteArray),j≤fs.length∧i= .int .i64 (j:Int)∧t= .string X∧Below w2.heap.size w2 wr∧Hid (X=ofL (fO m.kind++32::decDigits m.tag++(fs.take j).flatMap m.part))∧X.size≤29+j*2147483700) (fun _ i _=>fs.length-(intOf i).toNat)
  case atStart=>exact⟨0,P1,by omega,rfl,rfl,HF5.out,hid (by rw[HP1.out];simp),by have:=afm.out;omega⟩
  case round=>
   obtain⟨j,X,hj,rfl,rfl,hb,HX,hXs⟩:=hrel
   have HBR:=hid hb
   clear hb
   have hXZ:X.size≤29+4*2147483700:=Nat.le_trans hXs (Nat.add_le_add_left (Nat.mul_le_mul_right _ (by omega)) 29)
   by_cases hlt:j<fs.length
   ·obtain⟨f,hfj⟩:∃f,fs[j]? =some f:=⟨fs[j],List.getElem?_eq_getElem _⟩
    have hjL:j<L.size:=by omega
    have hidx:L[j]'hjL=f.rX:=by
     have h:=byte_at L j hjL
     rw[HLL.out,List.getElem?_map,hfj]at h
     injection h with h
     exact h.symm
    have HPA:=hid (aeh (m:=m) hfj)
    have aaf:=hid (HGD.out f (List.mem_of_getElem? hfj))
    clear hfj
    obtain⟨Wd,hWd⟩:∃W,W=ofL f.word:=⟨_,rfl⟩
    obtain⟨V,hV⟩:∃V,V=ofL (m.val f):=⟨_,rfl⟩
    obtain⟨Y1,hY1⟩:∃Y,Y=X++⟨#[32]⟩:=⟨_,rfl⟩
    obtain⟨Y2,hY2⟩:∃Y,Y=Y1++Wd:=⟨_,rfl⟩
    obtain⟨Y3,hY3⟩:∃Y,Y=Y2++⟨#[61]⟩:=⟨_,rfl⟩
    obtain⟨Y4,hY4⟩:∃Y,Y=Y3++V:=⟨_,rfl⟩
    have t0:Wd.size≤8:=by rw[hWd,dU];exact ad3 f
    have t1:V.size≤2147483648:=by rw[hV,dU];exact Ot m f HMO.out aaf.out HS.out
    have t2:Y1.size=X.size+1:=by rw[hY1,ByteArray.size_append];rfl
    have t3:Y2.size≤X.size+9:=by rw[hY2,ByteArray.size_append];omega
    have t4:Y3.size≤X.size+10:=by rw[hY3,ByteArray.size_append];show Y2.size+1≤_;omega
    have t5:Y4.size≤29+(j+1)*2147483700:=by rw[hY4,ByteArray.size_append,Nat.succ_mul];omega
    have b1:∀w,(Op.stringOp .add X ⟨#[32]⟩).run Tryz.prog w= .ok (.string Y1) w:=fun w=>by rw[hY1];exact run_string_add_sum w _ _ (by show X.size+1≤_;omega)
    have b2:∀w,(Op.stringOp .add Y1 Wd).run Tryz.prog w= .ok (.string Y2) w:=fun w=>by rw[hY2];exact run_string_add_sum w _ _ (by omega)
    have b3:∀w,(Op.stringOp .add Y2 ⟨#[61]⟩).run Tryz.prog w= .ok (.string Y3) w:=fun w=>by rw[hY3];exact run_string_add_sum w _ _ (by show Y2.size+1≤_;omega)
    have b4:∀w,(Op.stringOp .add Y3 V).run Tryz.prog w= .ok (.string Y4) w:=fun w=>by rw[hY4];exact run_string_add_sum w _ _ (by omega)
    have HYE:=hid (show Y4=ofL (fO m.kind++32::decDigits m.tag++(fs.take (j+1)).flatMap m.part)from by
     rw[hY4,hY3,hY2,hY1,hWd,hV,HX.out,HPA.out,show(⟨#[32]⟩:ByteArray)=ofL [32]from rfl,show(⟨#[61]⟩:ByteArray)=ofL [61]from rfl,Bf,Bf,Bf,Bf]
     simp)
    have HYS:=hid t5
    have HWD:=hid hWd.symm
    have HVE:=hid hV.symm
    clear hWd hV hY1 hY2 hY3 hY4 t0 t1 t2 t3 t4 t5 hXs hXZ
    have HMS:=hid (show∀wx:World,Below w2.heap.size w2 wx→aK wx z m (.slice An m.names.length cn) (.slice Aq m.aV.length cq) (.slice Ad m.data.length cd)from fun wx h=>Blk.below HM2.out h (Blk.lt HM2.out))
    have HLS:=hid (show∀wx:World,Below w2.heap.size w2 wx→Lists wx wx.heap.size m (.slice An m.names.length cn) (.slice Aq m.aV.length cq) (.slice Ad m.data.length cd)from fun wx h=>(HL2.out.below (h.mono HS2.out)).more (Nat.le_trans HS2.out h.size))
    go_upto_region 9 with(fail)
    try simp only[Act.put]
    have HCI:=hid hidx
    clear hidx
    refine wp_region_held_drew (S:=fun wx=>Below w2.heap.size w2 wx) (by kernel_rfl) (HBR.out.drew) (fun hHeld=> ?_)
    generalize wr.drew=wd at hHeld⊢
    refine tk 37 0 (.string X) ?_
    refine tk 38 1 (.string Y1) ?_
    refine tk 39 2 (.string L) ?_
    refine tk 40 3 (.int .i64 (j:Int)) ?_
    refine tk2 41 4 (.int .u8 (f.rX.toNat:Int)) rfl (fun wq hSw=>by have hc:=HCI.out;go_simp) ?_
    refine tk2 45 8 (iM m (.slice An m.names.length cn) (.slice Aq m.aV.length cq) (.slice Ad m.data.length cd)) rfl (fun wq hSw=>by exact acI _ rfl rfl (HMS.out _ hSw)) ?_
    refine tk 46 9 (.string L) ?_
    refine tk 47 10 (.int .i64 (j:Int)) ?_
    refine tk2 48 11 (.int .u8 (f.rX.toNat:Int)) rfl (fun wq hSw=>by have hc:=HCI.out;go_simp) ?_
    refine wpAnyH_ready (rs:=[5]) (by kernel_rfl) (by simp) ?_
    refine AllReadyH.cons rfl (fun K hK=> ?_) AllReadyH.nil
    rw[if_pos (by rfl)]
    go_simp
    (with_reducible refine(Zx f wd).mono ?_)
    rintro e wy ⟨rfl,hb⟩
    rw[HWD.out]
    dsimp only
    have cO:=hHeld.trans (hb.mono hHeld.size)
    clear hb hHeld
    refine hK.out _ _ cO (fun hHeld=> ?_)
    clear hK cO
    refine tk 43 6 (.string Y2) ?_
    refine tk 44 7 (.string Y3) ?_
    refine wpAnyH_ready (rs:=[12]) (by kernel_rfl) (by simp) ?_
    refine AllReadyH.cons rfl (fun K hK=> ?_) AllReadyH.nil
    rw[if_pos (by rfl)]
    go_simp
    (with_reducible refine(acU f m HMO.out (.slice An m.names.length cn) (.slice Aq m.aV.length cq) (.slice Ad m.data.length cd) wy (HLS.out _ hHeld) HS.out aaf.out).mono ?_)
    rintro e wy ⟨rfl,hb⟩
    rw[HVE.out]
    dsimp only
    have cO:=hHeld.trans (hb.mono hHeld.size)
    clear hb hHeld
    refine hK.out _ _ cO (fun hHeld=> ?_)
    clear hK cO
    refine tk 50 13 (.string Y4) ?_
    refine tk 7 14 (.string Y4) ?_
    refine wpAnyH_done (by kernel_rfl) ?_ _
    have HF9:=hid hHeld
    clear hHeld
    go_wp2_with fail
    go_roundw
    case rel=>exact⟨j+1,Y4,hlt,by go_num,rfl,HF9.out,HYE,HYS.out⟩
    case measure=>simp[intOf];omega
   ·have hjl:fs.take j=fs:=List.take_of_length_le (by omega)
    rw[hjl]at HX
    have HXE:=hid (show ofL (qA m)=X from by rw[HTX.out,HX.out];simp)
    have HF:=hid (HB2.out.trans (HBR.out.mono HS2.out))
    clear hjl hXs hXZ
    go_wp2_with fail
    go_ret
    rw[HXE.out]
    exact⟨rfl,by rw[HZZ.out];exact HF.out⟩
 ·have hb0:((er:Int) != 0)=true:=by rw[bne_iff_ne];omega
  have HE:=hid (HBAD.out her)
  clear her aa5
  go_wp2_with fail
  go_ret
  rw[HE.out]
  exact⟨rfl,by rw[HZZ.out];exact HB2.out⟩
end Go.Proofs.YtkblmloobkiloaaGreatDoor
