/-
  MR8 MR9: what the laws of package msg need of them.
-/
import Derived.Test.YtkblmloobkiloaaGreatDoorF00
import Derived.Test.YtkblmloobkiloaaGreatDoorF10
import Derived.Test.YtkblmloobkiloaaGreatDoorF06
import Derived.Great.BuildSlice
set_option maxRecDepth 100000
set_option maxHeartbeats 6400000
namespace Go.Proofs.YtkblmloobkiloaaGreatDoor
open Go.Lib (hid)
open Go.RowKit
theorem uX(k:Nat)(st:Option (List UInt8)):(dF k st).1<256^k:=by
 cases st with
 |none=>exact Nat.pow_pos (by decide)
 |some r=>
  by_cases h:k≤r.length
  ·rw[pz h]
   exact Nat.lt_of_lt_of_le (dD _) (Nat.pow_le_pow_right (by decide) (by rw[List.length_take];omega))
  ·rw[lY (by omega)]
   exact Nat.pow_pos (by decide)
theorem lJ(n0 n1 n2 n3 n4 n5 n6 n7 n8:Int)(a b c d:ByteArray):([.int .u16 n0,.int .u32 n1,.int .u8 n2,.int .u32 n3,.int .u64 n4,.int .u32 n5,.int .u32 n6,.int .u32 n7,.int .u64 n8,.string a,.string b,.string c,.string d]:List Value).toArray.all (·.oneCell')=true:=by simp[Value.oneCell']
theorem kK(n0 n1 n2 n3 n4 n5 n6 n7 n8:Int)(a b c d:ByteArray):over #[.int .u16 0,.int .u32 0,.int .u8 0,.int .u32 0,.int .u64 0,.int .u32 0,.int .u32 0,.int .u32 0,.int .u64 0,.string ⟨#[]⟩,.string ⟨#[]⟩,.string ⟨#[]⟩,.string ⟨#[]⟩] 0 [.int .u16 n0,.int .u32 n1,.int .u8 n2,.int .u32 n3,.int .u64 n4,.int .u32 n5,.int .u32 n6,.int .u32 n7,.int .u64 n8,.string a,.string b,.string c,.string d]= #[.int .u16 n0,.int .u32 n1,.int .u8 n2,.int .u32 n3,.int .u64 n4,.int .u32 n5,.int .u32 n6,.int .u32 n7,.int .u64 n8,.string a,.string b,.string c,.string d]:=by kernel_rfl
theorem wR{w:World}{p:Nat}{bv:Value}{l:List UInt8}{st:Option (List UInt8)}(hr:Ready w)(h8:8≤p)(h:RdS w p bv l st):
  Calls Tryz.prog 262 #[.pointer (some ⟨p,0,none⟩)] w fun e w'=>e= .returned (stV (mQ st).1)∧RdS w' p bv l (mQ st).2∧jF p w w':=by
 have HB:=hid (Blk.new w 39 #[.int .u16 0,.int .u32 0,.int .u8 0,.int .u32 0,.int .u64 0,.int .u32 0,.int .u32 0,.int .u32 0,.int .u64 0,.string ⟨#[]⟩,.string ⟨#[]⟩,.string ⟨#[]⟩,.string ⟨#[]⟩])
 have HS:=hid (h.below ((Below.refl _ _).alloc (Nat.le_refl _) (.cells #[.int .u16 0,.int .u32 0,.int .u8 0,.int .u32 0,.int .u64 0,.int .u32 0,.int .u32 0,.int .u32 0,.int .u64 0,.string ⟨#[]⟩,.string ⟨#[]⟩,.string ⟨#[]⟩,.string ⟨#[]⟩] 39)))
 have HO:=hid ((Off.refl (fun i=>i=p∨w.heap.size≤i) w).alloc (.cells #[.int .u16 0,.int .u32 0,.int .u8 0,.int .u32 0,.int .u64 0,.int .u32 0,.int .u32 0,.int .u32 0,.int .u64 0,.string ⟨#[]⟩,.string ⟨#[]⟩,.string ⟨#[]⟩,.string ⟨#[]⟩] 39))
 have HRD:=hid hr
 have HSZ:=hid (show(w.alloc (.cells #[.int .u16 0,.int .u32 0,.int .u8 0,.int .u32 0,.int .u64 0,.int .u32 0,.int .u32 0,.int .u32 0,.int .u64 0,.string ⟨#[]⟩,.string ⟨#[]⟩,.string ⟨#[]⟩,.string ⟨#[]⟩] 39)).heap.size=w.heap.size+1 from World.size_alloc ..)
 have HLT:=hid h.lt
 have H8:=hid (And.intro h8 hr.eight)
 clear h hr h8
 go_enter Tryz.func262,Tryz.ntmps262
 go_upto_region 1 with(fail)
 generalize w.alloc (.cells #[.int .u16 0,.int .u32 0,.int .u8 0,.int .u32 0,.int .u64 0,.int .u32 0,.int .u32 0,.int .u32 0,.int .u64 0,.string ⟨#[]⟩,.string ⟨#[]⟩,.string ⟨#[]⟩,.string ⟨#[]⟩] 39)=w0 at HS HB HO HSZ⊢
 generalize hz:w.heap.size=z at HB HLT HO H8 HSZ⊢
 have HZ:=hid hz;clear hz
 go_wp2_with fail
 refine(ET HS.out).mono ?_
 rintro e w1 ⟨q,pv,x,rfl,hq,hs,hp,ho⟩
 have HPS:=hid hp
 have HS1:=hid hs
 have HB1:=hid (ho.blk HB.out (by have:=HLT.out;omega))
 have HO1:=hid (HO.out.trans ho.toN)
 have HQ:=hid (show z<q from by have:=HSZ.out;omega)
 have HQN:=hid hs.lt
 clear hq hs hp ho HS HB HO
 generalize hps:(oM st).1=ps at*
 generalize hrs:(oM st).2=rs at*
 have HPO:=hid (And.intro hps hrs);clear hps hrs
 have HP1:=hid (Off.refl (fun i=>i=q∨i=z∨w1.heap.size≤i) w1)
 have HNU:=hid (show∀g cur fr,(g=q∨g=z∨w1.heap.size≤g)→w1.heap[g]? ≠some (Obj.cells cur 5 fr)from fun g cur fr hg=>by
  rcases hg with hg|hg|hg
  ·exact HS1.out.wM g cur fr hg
  ·exact dZ HB1.out (by decide) g cur fr hg
  ·exact KR g cur fr hg)
 have H0:=hid (show∀i,i=p∨z≤i→8≤i from fun i hi=>by have:=H8.out;omega)
 generalize hn1:w1.heap.size=n1 at HP1 HNU HQN
 have HN1:=hid hn1;clear hn1
 go_wp2_with fail
 refine(kE HS1.out).mono ?_
 rintro e w2 ⟨rfl,hs,hb⟩
 have HS2:=hid hs
 have HB2:=hid (hb.blk HB1.out (by have:=HQ.out;omega))
 have HO2:=hid (HO1.out.trans (hb.mono fun k _ hk=> .inr (by have:=HQ.out;have hk:k=q:=hk;omega)))
 have HP2:=hid (HP1.out.trans (hb.mono fun k _ hk=> .inl hk))
 clear hs hb HS1 HB1 HO1 HP1
 generalize hty:dF 2 ps=ty at*
 have U5:=hid hty;clear hty
 go_wp2_with fail
 refine(iZ HS2.out).mono ?_
 rintro e w3 ⟨rfl,hs,hb⟩
 have HS3:=hid hs
 have HB3:=hid (hb.blk HB2.out (by have:=HQ.out;omega))
 have HO3:=hid (HO2.out.trans (hb.mono fun k _ hk=> .inr (by have:=HQ.out;have hk:k=q:=hk;omega)))
 have HP3:=hid (HP2.out.trans (hb.mono fun k _ hk=> .inl hk))
 clear hs hb HS2 HB2 HO2 HP2
 generalize hdv:dF 4 ty.2=dv at*
 have U6:=hid hdv;clear hdv
 have EU:=hid (show n1≤w3.heap.size from by have:=HP3.out.size;have:=HN1.out;omega)
 go_wp2_with(have HF4:=hid (Blk.new w3 39 #[.int .u16 0,.int .u32 0,.int .u8 0,.int .u32 0,.int .u64 0,.int .u32 0,.int .u32 0,.int .u32 0,.int .u64 0,.string ⟨#[]⟩,.string ⟨#[]⟩,.string ⟨#[]⟩,.string ⟨#[]⟩]);have HS4:=hid (HS3.out.below ((Below.refl _ _).alloc (Nat.le_refl _) (.cells #[.int .u16 0,.int .u32 0,.int .u8 0,.int .u32 0,.int .u64 0,.int .u32 0,.int .u32 0,.int .u32 0,.int .u64 0,.string ⟨#[]⟩,.string ⟨#[]⟩,.string ⟨#[]⟩,.string ⟨#[]⟩] 39)));have HB4:=hid (HB3.out.alloc (.cells #[.int .u16 0,.int .u32 0,.int .u8 0,.int .u32 0,.int .u64 0,.int .u32 0,.int .u32 0,.int .u32 0,.int .u64 0,.string ⟨#[]⟩,.string ⟨#[]⟩,.string ⟨#[]⟩,.string ⟨#[]⟩] 39));have HO4:=hid (HO3.out.alloc (.cells #[.int .u16 0,.int .u32 0,.int .u8 0,.int .u32 0,.int .u64 0,.int .u32 0,.int .u32 0,.int .u32 0,.int .u64 0,.string ⟨#[]⟩,.string ⟨#[]⟩,.string ⟨#[]⟩,.string ⟨#[]⟩] 39));have HP4:=hid (HP3.out.alloc (.cells #[.int .u16 0,.int .u32 0,.int .u8 0,.int .u32 0,.int .u64 0,.int .u32 0,.int .u32 0,.int .u32 0,.int .u64 0,.string ⟨#[]⟩,.string ⟨#[]⟩,.string ⟨#[]⟩,.string ⟨#[]⟩] 39));generalize w3.alloc (.cells #[.int .u16 0,.int .u32 0,.int .u8 0,.int .u32 0,.int .u64 0,.int .u32 0,.int .u32 0,.int .u32 0,.int .u64 0,.string ⟨#[]⟩,.string ⟨#[]⟩,.string ⟨#[]⟩,.string ⟨#[]⟩] 39)=w4 at HF4 HS4 HB4 HO4 HP4⊢;generalize w3.heap.size=f at HF4 EU⊢;refine dA HF4.out 0 [.int .u16 (ty.1:Int),.int .u32 (dv.1:Int),.int .u8 0,.int .u32 0,.int .u64 0,.int .u32 0,.int .u32 0,.int .u32 0,.int .u64 0,.string ⟨#[]⟩,.string ⟨#[]⟩,.string ⟨#[]⟩,.string ⟨#[]⟩] #[.int .u16 (ty.1:Int),.int .u32 (dv.1:Int),.int .u8 0,.int .u32 0,.int .u64 0,.int .u32 0,.int .u32 0,.int .u32 0,.int .u64 0,.string ⟨#[]⟩,.string ⟨#[]⟩,.string ⟨#[]⟩,.string ⟨#[]⟩] (kK ..) (Nat.le_refl 13) (lJ ..) rfl _ _ _ rfl rfl rfl bP ?_;intro w5 hs ho;have HFN:=hid EU.out;have HF5:=hid hs;have HS5:=hid (HS4.out.off (ho (fun i=>i=f) rfl w4 (Off.refl _ _)) (by have:=EU.out;have:=HQN.out;omega) (dZ HF4.out (by decide)));have HB5:=hid ((ho (fun i=>i=f) rfl w4 (Off.refl _ _)).blk HB4.out (by have:=EU.out;have:=HQN.out;have:=HQ.out;omega));have HO5:=hid (ho _ (.inr (by have:=EU.out;have:=HQN.out;have:=HQ.out;omega)) w HO4.out);have HP5:=hid (ho _ (.inr (.inr EU.out)) w1 HP4.out);clear hs ho HS3 HB3 HO3 HP3 HS4 HB4 HO4 HP4 HF4 EU)
 refine(ny HS5.out).mono ?_
 rintro e w6 ⟨rfl,hs,hb⟩
 have HS6:=hid hs
 have HB6:=hid (hb.blk HB5.out (by have:=HQ.out;omega))
 have HO6:=hid (HO5.out.trans (hb.mono fun k _ hk=> .inr (by have:=HQ.out;have hk:k=q:=hk;omega)))
 have HP6:=hid (HP5.out.trans (hb.mono fun k _ hk=> .inl hk))
 have HF6:=hid (hb.blk HF5.out (by have:=HFN.out;have:=HQN.out;omega))
 clear hs hb HS5 HB5 HO5 HP5 HF5
 generalize hqd:iU dv.2=qd at*
 have U7:=hid hqd;clear hqd
 have k0:w6.cell? ⟨f,2,none⟩=some (.int .u8 0):=HF6.out.cell 2
 have k1:w6.cell? ⟨f,3,none⟩=some (.int .u32 0):=HF6.out.cell 3
 have k2:w6.cell? ⟨f,4,none⟩=some (.int .u64 0):=HF6.out.cell 4
 have f0:w6.frozen? ⟨f,2,none⟩=false:=HF6.out.frozen 2
 have f1:w6.frozen? ⟨f,3,none⟩=false:=HF6.out.frozen 3
 have f2:w6.frozen? ⟨f,4,none⟩=false:=HF6.out.frozen 4
 have hso:=fun(S:Nat→Prop) (hS:S f)=>(((Off.refl S w6).setCell (p:=⟨f,2,none⟩) hS (.int .u8 (qd.1.kind:Int))).setCell (p:=⟨f,3,none⟩) hS (.int .u32 (qd.1.vers:Int))).setCell (p:=⟨f,4,none⟩) hS (.int .u64 (qd.1.path:Int))
 have HF7:=hid (show Blk (((w6.setCell ⟨f,2,none⟩ (.int .u8 (qd.1.kind:Int))).setCell ⟨f,3,none⟩ (.int .u32 (qd.1.vers:Int))).setCell ⟨f,4,none⟩ (.int .u64 (qd.1.path:Int))) f 39 #[.int .u16 (ty.1:Int),.int .u32 (dv.1:Int),.int .u8 (qd.1.kind:Int),.int .u32 (qd.1.vers:Int),.int .u64 (qd.1.path:Int),.int .u32 0,.int .u32 0,.int .u32 0,.int .u64 0,.string ⟨#[]⟩,.string ⟨#[]⟩,.string ⟨#[]⟩,.string ⟨#[]⟩]from((HF6.out.aW 2 (.int .u8 (qd.1.kind:Int))).aW 3 (.int .u32 (qd.1.vers:Int))).aW 4 (.int .u64 (qd.1.path:Int)))
 have HS7:=hid (HS6.out.off (hso (fun i=>i=f) rfl) (by have:=HFN.out;have:=HQN.out;omega) (dZ HF6.out (by decide)))
 have HB7:=hid ((hso (fun i=>i=f) rfl).blk HB6.out (by have:=HFN.out;have:=HQN.out;have:=HQ.out;omega))
 have HO7:=hid (HO6.out.trans (hso _ (.inr (by have:=HFN.out;have:=HQN.out;have:=HQ.out;omega))))
 have HP7:=hid (HP6.out.trans (hso _ (.inr (.inr HFN.out))))
 clear hso HS6 HB6 HO6 HP6 HF6
 go_wp2_with fail
 clear k0 k1 k2 f0 f1 f2
 generalize((w6.setCell ⟨f,2,none⟩ (.int .u8 (qd.1.kind:Int))).setCell ⟨f,3,none⟩ (.int .u32 (qd.1.vers:Int))).setCell ⟨f,4,none⟩ (.int .u64 (qd.1.path:Int))=w7 at HF7 HS7 HB7 HO7 HP7⊢
 refine(iZ HS7.out).mono ?_
 rintro e w8 ⟨rfl,hs,hb⟩
 have HS8:=hid hs
 have HB8:=hid (hb.blk HB7.out (by have:=HQ.out;omega))
 have HO8:=hid (HO7.out.trans (hb.mono fun k _ hk=> .inr (by have:=HQ.out;have hk:k=q:=hk;omega)))
 have HP8:=hid (HP7.out.trans (hb.mono fun k _ hk=> .inl hk))
 have HF8:=hid (hb.blk HF7.out (by have:=HFN.out;have:=HQN.out;omega))
 clear hs hb HS7 HB7 HO7 HP7 HF7
 generalize hmo:dF 4 qd.2=mo at*
 have U8:=hid hmo;clear hmo
 have ks:w8.cell? ⟨f,5,none⟩=some (.int .u32 0):=HF8.out.cell 5
 have fs:w8.frozen? ⟨f,5,none⟩=false:=HF8.out.frozen 5
 have HF9:=hid (show Blk (w8.setCell ⟨f,5,none⟩ (.int .u32 (mo.1:Int))) f 39 #[.int .u16 (ty.1:Int),.int .u32 (dv.1:Int),.int .u8 (qd.1.kind:Int),.int .u32 (qd.1.vers:Int),.int .u64 (qd.1.path:Int),.int .u32 (mo.1:Int),.int .u32 0,.int .u32 0,.int .u64 0,.string ⟨#[]⟩,.string ⟨#[]⟩,.string ⟨#[]⟩,.string ⟨#[]⟩]from HF8.out.aW 5 (.int .u32 (mo.1:Int)))
 have hso:=fun(S:Nat→Prop) (hS:S f)=>(Off.refl S w8).setCell (p:=⟨f,5,none⟩) hS (.int .u32 (mo.1:Int))
 have HS9:=hid (HS8.out.off (hso (fun i=>i=f) rfl) (by have:=HFN.out;have:=HQN.out;omega) (dZ HF8.out (by decide)))
 have HB9:=hid ((hso (fun i=>i=f) rfl).blk HB8.out (by have:=HFN.out;have:=HQN.out;have:=HQ.out;omega))
 have HO9:=hid (HO8.out.trans (hso _ (.inr (by have:=HFN.out;have:=HQN.out;have:=HQ.out;omega))))
 have HP9:=hid (HP8.out.trans (hso _ (.inr (.inr HFN.out))))
 clear hso HS8 HB8 HO8 HP8 HF8
 go_wp2_with fail
 clear ks fs
 generalize w8.setCell ⟨f,5,none⟩ (.int .u32 (mo.1:Int))=w9 at HS9 HB9 HO9 HP9 HF9⊢
 refine(iZ HS9.out).mono ?_
 rintro e w10 ⟨rfl,hs,hb⟩
 have CX:=hid hs
 have SG:=hid (hb.blk HB9.out (by have:=HQ.out;omega))
 have C_:=hid (HO9.out.trans (hb.mono fun k _ hk=> .inr (by have:=HQ.out;have hk:k=q:=hk;omega)))
 have SH:=hid (HP9.out.trans (hb.mono fun k _ hk=> .inl hk))
 have wS:=hid (hb.blk HF9.out (by have:=HFN.out;have:=HQN.out;omega))
 clear hs hb HS9 HB9 HO9 HP9 HF9
 generalize SI:dF 4 mo.2=at_ at*
 have SK:=hid SI;clear SI
 have ks:w10.cell? ⟨f,6,none⟩=some (.int .u32 0):=wS.out.cell 6
 have fs:w10.frozen? ⟨f,6,none⟩=false:=wS.out.frozen 6
 have A8:=hid (show Blk (w10.setCell ⟨f,6,none⟩ (.int .u32 (at_.1:Int))) f 39 #[.int .u16 (ty.1:Int),.int .u32 (dv.1:Int),.int .u8 (qd.1.kind:Int),.int .u32 (qd.1.vers:Int),.int .u64 (qd.1.path:Int),.int .u32 (mo.1:Int),.int .u32 (at_.1:Int),.int .u32 0,.int .u64 0,.string ⟨#[]⟩,.string ⟨#[]⟩,.string ⟨#[]⟩,.string ⟨#[]⟩]from wS.out.aW 6 (.int .u32 (at_.1:Int)))
 have hso:=fun(S:Nat→Prop) (hS:S f)=>(Off.refl S w10).setCell (p:=⟨f,6,none⟩) hS (.int .u32 (at_.1:Int))
 have EW:=hid (CX.out.off (hso (fun i=>i=f) rfl) (by have:=HFN.out;have:=HQN.out;omega) (dZ wS.out (by decide)))
 have Qa:=hid ((hso (fun i=>i=f) rfl).blk SG.out (by have:=HFN.out;have:=HQN.out;have:=HQ.out;omega))
 have A_:=hid (C_.out.trans (hso _ (.inr (by have:=HFN.out;have:=HQN.out;have:=HQ.out;omega))))
 have Qb:=hid (SH.out.trans (hso _ (.inr (.inr HFN.out))))
 clear hso CX SG C_ SH wS
 go_wp2_with fail
 clear ks fs
 generalize w10.setCell ⟨f,6,none⟩ (.int .u32 (at_.1:Int))=w11 at EW Qa A_ Qb A8⊢
 refine(iZ EW.out).mono ?_
 rintro e w12 ⟨rfl,hs,hb⟩
 have wU:=hid hs
 have SL:=hid (hb.blk Qa.out (by have:=HQ.out;omega))
 have wV:=hid (A_.out.trans (hb.mono fun k _ hk=> .inr (by have:=HQ.out;have hk:k=q:=hk;omega)))
 have SN:=hid (Qb.out.trans (hb.mono fun k _ hk=> .inl hk))
 have wW:=hid (hb.blk A8.out (by have:=HFN.out;have:=HQN.out;omega))
 clear hs hb EW Qa A_ Qb A8
 generalize hmt:dF 4 at_.2=mt at*
 have U9:=hid hmt;clear hmt
 have ks:w12.cell? ⟨f,7,none⟩=some (.int .u32 0):=wW.out.cell 7
 have fs:w12.frozen? ⟨f,7,none⟩=false:=wW.out.frozen 7
 have Ba:=hid (show Blk (w12.setCell ⟨f,7,none⟩ (.int .u32 (mt.1:Int))) f 39 #[.int .u16 (ty.1:Int),.int .u32 (dv.1:Int),.int .u8 (qd.1.kind:Int),.int .u32 (qd.1.vers:Int),.int .u64 (qd.1.path:Int),.int .u32 (mo.1:Int),.int .u32 (at_.1:Int),.int .u32 (mt.1:Int),.int .u64 0,.string ⟨#[]⟩,.string ⟨#[]⟩,.string ⟨#[]⟩,.string ⟨#[]⟩]from wW.out.aW 7 (.int .u32 (mt.1:Int)))
 have hso:=fun(S:Nat→Prop) (hS:S f)=>(Off.refl S w12).setCell (p:=⟨f,7,none⟩) hS (.int .u32 (mt.1:Int))
 have EX:=hid (wU.out.off (hso (fun i=>i=f) rfl) (by have:=HFN.out;have:=HQN.out;omega) (dZ wW.out (by decide)))
 have Qc:=hid ((hso (fun i=>i=f) rfl).blk SL.out (by have:=HFN.out;have:=HQN.out;have:=HQ.out;omega))
 have yL:=hid (wV.out.trans (hso _ (.inr (by have:=HFN.out;have:=HQN.out;have:=HQ.out;omega))))
 have Qe:=hid (SN.out.trans (hso _ (.inr (.inr HFN.out))))
 clear hso wU SL wV SN wW
 go_wp2_with fail
 clear ks fs
 generalize w12.setCell ⟨f,7,none⟩ (.int .u32 (mt.1:Int))=w13 at EX Qc yL Qe Ba⊢
 refine(pG EX.out).mono ?_
 rintro e w14 ⟨rfl,hs,hb⟩
 have EY:=hid hs
 have SQ:=hid (hb.blk Qc.out (by have:=HQ.out;omega))
 have IX:=hid (yL.out.trans (hb.mono fun k _ hk=> .inr (by have:=HQ.out;have hk:k=q:=hk;omega)))
 have SS:=hid (Qe.out.trans (hb.mono fun k _ hk=> .inl hk))
 have wX:=hid (hb.blk Ba.out (by have:=HFN.out;have:=HQN.out;omega))
 clear hs hb EX Qc yL Qe Ba
 generalize hln:dF 8 mt.2=ln at*
 have U_:=hid hln;clear hln
 have ks:w14.cell? ⟨f,8,none⟩=some (.int .u64 0):=wX.out.cell 8
 have fs:w14.frozen? ⟨f,8,none⟩=false:=wX.out.frozen 8
 have Bc:=hid (show Blk (w14.setCell ⟨f,8,none⟩ (.int .u64 (ln.1:Int))) f 39 #[.int .u16 (ty.1:Int),.int .u32 (dv.1:Int),.int .u8 (qd.1.kind:Int),.int .u32 (qd.1.vers:Int),.int .u64 (qd.1.path:Int),.int .u32 (mo.1:Int),.int .u32 (at_.1:Int),.int .u32 (mt.1:Int),.int .u64 (ln.1:Int),.string ⟨#[]⟩,.string ⟨#[]⟩,.string ⟨#[]⟩,.string ⟨#[]⟩]from wX.out.aW 8 (.int .u64 (ln.1:Int)))
 have hso:=fun(S:Nat→Prop) (hS:S f)=>(Off.refl S w14).setCell (p:=⟨f,8,none⟩) hS (.int .u64 (ln.1:Int))
 have Dc:=hid (EY.out.off (hso (fun i=>i=f) rfl) (by have:=HFN.out;have:=HQN.out;omega) (dZ wX.out (by decide)))
 have Qg:=hid ((hso (fun i=>i=f) rfl).blk SQ.out (by have:=HFN.out;have:=HQN.out;have:=HQ.out;omega))
 have Df:=hid (IX.out.trans (hso _ (.inr (by have:=HFN.out;have:=HQN.out;have:=HQ.out;omega))))
 have Qh:=hid (SS.out.trans (hso _ (.inr (.inr HFN.out))))
 clear hso EY SQ IX SS wX
 go_wp2_with fail
 clear ks fs
 generalize w14.setCell ⟨f,8,none⟩ (.int .u64 (ln.1:Int))=w15 at Dc Qg Df Qh Bc⊢
 refine(jT (HRD.out.low (Df.out.below (B:=8) H0.out HRD.out.eight) (Nat.le_refl 8)) (by have:=HQ.out;have:=H8.out;omega) Dc.out).mono ?_
 rintro e w16 ⟨rfl,hs,hb⟩
 have EZ:=hid hs
 have SV:=hid (hb.blk Qg.out (by have:=HQ.out;omega))
 have IY:=hid (Df.out.trans (hb.mono fun k _ hk=> .inr (by have:=HQ.out;have hk:k=q:=hk;omega)))
 have SX:=hid (Qh.out.trans (hb.mono fun k _ hk=> .inl hk))
 have wY:=hid (hb.blk Bc.out (by have:=HFN.out;have:=HQN.out;omega))
 clear hs hb Dc Qg Df Qh Bc
 generalize ht1:bJ ln.2=t1 at*
 have Va:=hid ht1;clear ht1
 have ks:w16.cell? ⟨f,9,none⟩=some (.string ⟨#[]⟩):=wY.out.cell 9
 have fs:w16.frozen? ⟨f,9,none⟩=false:=wY.out.frozen 9
 have Bd:=hid (show Blk (w16.setCell ⟨f,9,none⟩ (.string t1.1)) f 39 #[.int .u16 (ty.1:Int),.int .u32 (dv.1:Int),.int .u8 (qd.1.kind:Int),.int .u32 (qd.1.vers:Int),.int .u64 (qd.1.path:Int),.int .u32 (mo.1:Int),.int .u32 (at_.1:Int),.int .u32 (mt.1:Int),.int .u64 (ln.1:Int),.string t1.1,.string ⟨#[]⟩,.string ⟨#[]⟩,.string ⟨#[]⟩]from wY.out.aW 9 (.string t1.1))
 have hso:=fun(S:Nat→Prop) (hS:S f)=>(Off.refl S w16).setCell (p:=⟨f,9,none⟩) hS (.string t1.1)
 have Dh:=hid (EZ.out.off (hso (fun i=>i=f) rfl) (by have:=HFN.out;have:=HQN.out;omega) (dZ wY.out (by decide)))
 have Qi:=hid ((hso (fun i=>i=f) rfl).blk SV.out (by have:=HFN.out;have:=HQN.out;have:=HQ.out;omega))
 have Di:=hid (IY.out.trans (hso _ (.inr (by have:=HFN.out;have:=HQN.out;have:=HQ.out;omega))))
 have Qj:=hid (SX.out.trans (hso _ (.inr (.inr HFN.out))))
 clear hso EZ SV IY SX wY
 go_wp2_with fail
 clear ks fs
 generalize w16.setCell ⟨f,9,none⟩ (.string t1.1)=w17 at Dh Qi Di Qj Bd⊢
 refine(jT (HRD.out.low (Di.out.below (B:=8) H0.out HRD.out.eight) (Nat.le_refl 8)) (by have:=HQ.out;have:=H8.out;omega) Dh.out).mono ?_
 rintro e w18 ⟨rfl,hs,hb⟩
 have Oi:=hid hs
 have SY:=hid (hb.blk Qi.out (by have:=HQ.out;omega))
 have KT:=hid (Di.out.trans (hb.mono fun k _ hk=> .inr (by have:=HQ.out;have hk:k=q:=hk;omega)))
 have S9:=hid (Qj.out.trans (hb.mono fun k _ hk=> .inl hk))
 have Dj:=hid (hb.blk Bd.out (by have:=HFN.out;have:=HQN.out;omega))
 clear hs hb Dh Qi Di Qj Bd
 generalize ht2:bJ t1.2=t2 at*
 have Vb:=hid ht2;clear ht2
 have ks:w18.cell? ⟨f,10,none⟩=some (.string ⟨#[]⟩):=Dj.out.cell 10
 have fs:w18.frozen? ⟨f,10,none⟩=false:=Dj.out.frozen 10
 have Qk:=hid (show Blk (w18.setCell ⟨f,10,none⟩ (.string t2.1)) f 39 #[.int .u16 (ty.1:Int),.int .u32 (dv.1:Int),.int .u8 (qd.1.kind:Int),.int .u32 (qd.1.vers:Int),.int .u64 (qd.1.path:Int),.int .u32 (mo.1:Int),.int .u32 (at_.1:Int),.int .u32 (mt.1:Int),.int .u64 (ln.1:Int),.string t1.1,.string t2.1,.string ⟨#[]⟩,.string ⟨#[]⟩]from Dj.out.aW 10 (.string t2.1))
 have hso:=fun(S:Nat→Prop) (hS:S f)=>(Off.refl S w18).setCell (p:=⟨f,10,none⟩) hS (.string t2.1)
 have Ql:=hid (Oi.out.off (hso (fun i=>i=f) rfl) (by have:=HFN.out;have:=HQN.out;omega) (dZ Dj.out (by decide)))
 have Qm:=hid ((hso (fun i=>i=f) rfl).blk SY.out (by have:=HFN.out;have:=HQN.out;have:=HQ.out;omega))
 have Oj:=hid (KT.out.trans (hso _ (.inr (by have:=HFN.out;have:=HQN.out;have:=HQ.out;omega))))
 have Qn:=hid (S9.out.trans (hso _ (.inr (.inr HFN.out))))
 clear hso Oi SY KT S9 Dj
 go_wp2_with fail
 clear ks fs
 generalize w18.setCell ⟨f,10,none⟩ (.string t2.1)=w19 at Ql Qm Oj Qn Qk⊢
 refine(jT (HRD.out.low (Oj.out.below (B:=8) H0.out HRD.out.eight) (Nat.le_refl 8)) (by have:=HQ.out;have:=H8.out;omega) Ql.out).mono ?_
 rintro e w20 ⟨rfl,hs,hb⟩
 have S_:=hid hs
 have Tc:=hid (hb.blk Qm.out (by have:=HQ.out;omega))
 have Td:=hid (Oj.out.trans (hb.mono fun k _ hk=> .inr (by have:=HQ.out;have hk:k=q:=hk;omega)))
 have Tf:=hid (Qn.out.trans (hb.mono fun k _ hk=> .inl hk))
 have KU:=hid (hb.blk Qk.out (by have:=HFN.out;have:=HQN.out;omega))
 clear hs hb Ql Qm Oj Qn Qk
 generalize ht3:bJ t2.2=t3 at*
 have Vd:=hid ht3;clear ht3
 have ks:w20.cell? ⟨f,11,none⟩=some (.string ⟨#[]⟩):=KU.out.cell 11
 have fs:w20.frozen? ⟨f,11,none⟩=false:=KU.out.frozen 11
 have Qo:=hid (show Blk (w20.setCell ⟨f,11,none⟩ (.string t3.1)) f 39 #[.int .u16 (ty.1:Int),.int .u32 (dv.1:Int),.int .u8 (qd.1.kind:Int),.int .u32 (qd.1.vers:Int),.int .u64 (qd.1.path:Int),.int .u32 (mo.1:Int),.int .u32 (at_.1:Int),.int .u32 (mt.1:Int),.int .u64 (ln.1:Int),.string t1.1,.string t2.1,.string t3.1,.string ⟨#[]⟩]from KU.out.aW 11 (.string t3.1))
 have hso:=fun(S:Nat→Prop) (hS:S f)=>(Off.refl S w20).setCell (p:=⟨f,11,none⟩) hS (.string t3.1)
 have Qp:=hid (S_.out.off (hso (fun i=>i=f) rfl) (by have:=HFN.out;have:=HQN.out;omega) (dZ KU.out (by decide)))
 have Qq:=hid ((hso (fun i=>i=f) rfl).blk Tc.out (by have:=HFN.out;have:=HQN.out;have:=HQ.out;omega))
 have Ol:=hid (Td.out.trans (hso _ (.inr (by have:=HFN.out;have:=HQN.out;have:=HQ.out;omega))))
 have Qr:=hid (Tf.out.trans (hso _ (.inr (.inr HFN.out))))
 clear hso S_ Tc Td Tf KU
 go_wp2_with fail
 clear ks fs
 generalize w20.setCell ⟨f,11,none⟩ (.string t3.1)=w21 at Qp Qq Ol Qr Qo⊢
 refine(jT (HRD.out.low (Ol.out.below (B:=8) H0.out HRD.out.eight) (Nat.le_refl 8)) (by have:=HQ.out;have:=H8.out;omega) Qp.out).mono ?_
 rintro e w22 ⟨rfl,hs,hb⟩
 have Ti:=hid hs
 have Tj:=hid (hb.blk Qq.out (by have:=HQ.out;omega))
 have Tm:=hid (Ol.out.trans (hb.mono fun k _ hk=> .inr (by have:=HQ.out;have hk:k=q:=hk;omega)))
 have Tn:=hid (Qr.out.trans (hb.mono fun k _ hk=> .inl hk))
 have KW:=hid (hb.blk Qo.out (by have:=HFN.out;have:=HQN.out;omega))
 clear hs hb Qp Qq Ol Qr Qo
 generalize ht4:bJ t3.2=t4 at*
 have Ve:=hid ht4;clear ht4
 have ks:w22.cell? ⟨f,12,none⟩=some (.string ⟨#[]⟩):=KW.out.cell 12
 have fs:w22.frozen? ⟨f,12,none⟩=false:=KW.out.frozen 12
 have Qs:=hid (show Blk (w22.setCell ⟨f,12,none⟩ (.string t4.1)) f 39 #[.int .u16 (ty.1:Int),.int .u32 (dv.1:Int),.int .u8 (qd.1.kind:Int),.int .u32 (qd.1.vers:Int),.int .u64 (qd.1.path:Int),.int .u32 (mo.1:Int),.int .u32 (at_.1:Int),.int .u32 (mt.1:Int),.int .u64 (ln.1:Int),.string t1.1,.string t2.1,.string t3.1,.string t4.1]from KW.out.aW 12 (.string t4.1))
 have hso:=fun(S:Nat→Prop) (hS:S f)=>(Off.refl S w22).setCell (p:=⟨f,12,none⟩) hS (.string t4.1)
 have Qu:=hid (Ti.out.off (hso (fun i=>i=f) rfl) (by have:=HFN.out;have:=HQN.out;omega) (dZ KW.out (by decide)))
 have Qv:=hid ((hso (fun i=>i=f) rfl).blk Tj.out (by have:=HFN.out;have:=HQN.out;have:=HQ.out;omega))
 have Qw:=hid (Tm.out.trans (hso _ (.inr (by have:=HFN.out;have:=HQN.out;have:=HQ.out;omega))))
 have Qx:=hid (Tn.out.trans (hso _ (.inr (.inr HFN.out))))
 clear hso Ti Tj Tm Tn KW
 go_wp2_with fail
 clear ks fs
 generalize w22.setCell ⟨f,12,none⟩ (.string t4.1)=w23 at Qu Qv Qw Qx Qs⊢
 refine(zo Qu.out).mono ?_
 rintro e w24 ⟨rfl,hs,hb⟩
 have Tq:=hid hs
 have Qy:=hid (hb.blk Qv.out (by have:=HQ.out;omega))
 have Tt:=hid (Qw.out.trans (hb.mono fun k _ hk=> .inr (by have:=HQ.out;have hk:k=q:=hk;omega)))
 have Tv:=hid (Qx.out.trans (hb.mono fun k _ hk=> .inl hk))
 have Qz:=hid (hb.blk Qs.out (by have:=HFN.out;have:=HQN.out;omega))
 clear hs hb Qu Qv Qw Qx Qs
 have Tz:=hid (show recC ps=(⟨ty.1,dv.1,qd.1,mo.1,at_.1,mt.1,ln.1,t1.1,t2.1,t3.1,t4.1⟩,AX t4.2)from by
  unfold recC
  simp only[U5.out,U6.out,U7.out,U8.out,SK.out,U9.out,U_.out,Va.out,Vb.out,Vd.out,Ve.out])
 go_wp2_with fail
 refine(sS Tq.out).mono ?_
 rintro e w25 ⟨⟨er,wh,rfl,he⟩,hs,hb⟩
 have QA:=hid (Blk.below Qy.out hb (Blk.lt Qy.out))
 have Vf:=hid (Blk.below Qz.out hb (Blk.lt Qz.out))
 have TA:=hid (Tt.out.trans (Off.of_below hb))
 have TB:=hid (HPS.out.off (Tv.out.trans (Off.of_below hb)) (by have:=HLT.out;have:=HQ.out;have:=HN1.out;have:=HQN.out;omega) HNU.out)
 clear hs hb Tq Qy Qz Tt Tv
 cases hE:AX t4.2 with
 |none=>
  rw[hE]at he
  have hne0:er≠0:=fun h0=>by have h1:=he.1 h0;cases h1
  have hne:((er:Int) != 0)=true:=by rw[bne_iff_ne];omega
  have HT:=hid (show mQ st=(zst,none)from by
   unfold mQ
   rw[HPO.out.1,Tz.out]
   dsimp only
   rw[hE])
  have HER:=hid hne0
  clear he hE hne0
  go_wp2_with fail
  refine(ou er HER.out TB.out).mono ?_
  rintro e w26 ⟨rfl,hs,hb⟩
  have Vg:=hid hs
  have TD:=hid (hb.blk QA.out (by have:=HLT.out;omega))
  have Vh:=hid (TA.out.trans hb.toN)
  clear hs hb
  go_wp2_with(refine dA TD.out 0 [.int .u16 0,.int .u32 0,.int .u8 0,.int .u32 0,.int .u64 0,.int .u32 0,.int .u32 0,.int .u32 0,.int .u64 0,.string ⟨#[]⟩,.string ⟨#[]⟩,.string ⟨#[]⟩,.string ⟨#[]⟩] #[.int .u16 0,.int .u32 0,.int .u8 0,.int .u32 0,.int .u64 0,.int .u32 0,.int .u32 0,.int .u32 0,.int .u64 0,.string ⟨#[]⟩,.string ⟨#[]⟩,.string ⟨#[]⟩,.string ⟨#[]⟩] (kK ..) (Nat.le_refl 13) (lJ ..) rfl _ _ _ rfl rfl rfl bP ?_;intro wz hs ho;have HBz:=hid hs;have HOz:=hid (ho (fun i=>i=p∨z≤i) (.inr (Nat.le_refl _)) w Vh.out);have HSz:=hid (Vg.out.off (ho (fun i=>i=z) rfl w26 (Off.refl _ _)) (by have:=HLT.out;omega) (dZ TD.out (by decide)));clear hs ho)
  refine bodyPost_ret (bf (l:=[.int .u16 0,.int .u32 0,.int .u8 0,.int .u32 0,.int .u64 0,.int .u32 0,.int .u32 0,.int .u32 0,.int .u64 0,.string ⟨#[]⟩,.string ⟨#[]⟩,.string ⟨#[]⟩,.string ⟨#[]⟩]) rfl Tryz.underlying39 rfl bP rfl HBz.out) rfl ⟨?_, ?_,HOz.out.toR (by have:=HZ.out;omega)⟩
  ·rw[HT.out];try rfl
  ·rw[HT.out]
   exact HSz.out
 |some y=>
  rw[hE]at he
  have hne:((er:Int) != 0)=false:=by rw[he.2 rfl];rfl
  have HT:=hid (show mQ st=(⟨ty.1,dv.1,qd.1,mo.1,at_.1,mt.1,ln.1,t1.1,t2.1,t3.1,t4.1⟩,rs)from by
   unfold mQ
   rw[HPO.out.1,Tz.out]
   dsimp only
   rw[hE,HPO.out.2])
  clear he hE
  go_wp2_with(first|(refine wlw Vf.out 0 [.int .u16 (ty.1:Int),.int .u32 (dv.1:Int),.int .u8 (qd.1.kind:Int),.int .u32 (qd.1.vers:Int),.int .u64 (qd.1.path:Int),.int .u32 (mo.1:Int),.int .u32 (at_.1:Int),.int .u32 (mt.1:Int),.int .u64 (ln.1:Int),.string t1.1,.string t2.1,.string t3.1,.string t4.1] rfl rfl _ _ rfl rfl _ Tryz.underlying39 rfl bP ?_)|(refine dA QA.out 0 [.int .u16 (ty.1:Int),.int .u32 (dv.1:Int),.int .u8 (qd.1.kind:Int),.int .u32 (qd.1.vers:Int),.int .u64 (qd.1.path:Int),.int .u32 (mo.1:Int),.int .u32 (at_.1:Int),.int .u32 (mt.1:Int),.int .u64 (ln.1:Int),.string t1.1,.string t2.1,.string t3.1,.string t4.1] #[.int .u16 (ty.1:Int),.int .u32 (dv.1:Int),.int .u8 (qd.1.kind:Int),.int .u32 (qd.1.vers:Int),.int .u64 (qd.1.path:Int),.int .u32 (mo.1:Int),.int .u32 (at_.1:Int),.int .u32 (mt.1:Int),.int .u64 (ln.1:Int),.string t1.1,.string t2.1,.string t3.1,.string t4.1] (kK ..) (Nat.le_refl 13) (lJ ..) rfl _ _ _ rfl rfl rfl bP ?_;intro wz hs ho;have HBz:=hid hs;have HOz:=hid (ho (fun i=>i=p∨z≤i) (.inr (Nat.le_refl _)) w TA.out);have HSz:=hid (TB.out.off (ho (fun i=>i=z) rfl w25 (Off.refl _ _)) (by have:=HLT.out;omega) (dZ QA.out (by decide)));clear hs ho))
  refine bodyPost_ret (bf (l:=[.int .u16 (ty.1:Int),.int .u32 (dv.1:Int),.int .u8 (qd.1.kind:Int),.int .u32 (qd.1.vers:Int),.int .u64 (qd.1.path:Int),.int .u32 (mo.1:Int),.int .u32 (at_.1:Int),.int .u32 (mt.1:Int),.int .u64 (ln.1:Int),.string t1.1,.string t2.1,.string t3.1,.string t4.1]) rfl Tryz.underlying39 rfl bP rfl HBz.out) rfl ⟨?_, ?_,HOz.out.toR (by have:=HZ.out;omega)⟩
  ·rw[HT.out];try rfl
  ·rw[HT.out]
   exact HSz.out
theorem wZ{w:World}{p:Nat}{bv:Value}{l:List UInt8}{st:Option (List UInt8)}(hr:Ready w)(h8:8≤p)(h:RdS w p bv l st):
  Calls Tryz.prog 237 #[.pointer (some ⟨p,0,none⟩)] w fun e w'=>e= .returned (stV (stO st).1)∧RdS w' p bv l (stO st).2∧jF p w w':=by
 have HB:=hid (Blk.new w 39 #[.int .u16 0,.int .u32 0,.int .u8 0,.int .u32 0,.int .u64 0,.int .u32 0,.int .u32 0,.int .u32 0,.int .u64 0,.string ⟨#[]⟩,.string ⟨#[]⟩,.string ⟨#[]⟩,.string ⟨#[]⟩])
 have HS:=hid (h.below ((Below.refl _ _).alloc (Nat.le_refl _) (.cells #[.int .u16 0,.int .u32 0,.int .u8 0,.int .u32 0,.int .u64 0,.int .u32 0,.int .u32 0,.int .u32 0,.int .u64 0,.string ⟨#[]⟩,.string ⟨#[]⟩,.string ⟨#[]⟩,.string ⟨#[]⟩] 39)))
 have HO:=hid ((Off.refl (fun i=>i=p∨w.heap.size≤i) w).alloc (.cells #[.int .u16 0,.int .u32 0,.int .u8 0,.int .u32 0,.int .u64 0,.int .u32 0,.int .u32 0,.int .u32 0,.int .u64 0,.string ⟨#[]⟩,.string ⟨#[]⟩,.string ⟨#[]⟩,.string ⟨#[]⟩] 39))
 have HRD:=hid hr
 have HLT:=hid h.lt
 have H8:=hid (And.intro h8 hr.eight)
 clear h hr h8
 go_enter Tryz.func237,Tryz.ntmps237
 go_upto_region 1 with(fail)
 generalize w.alloc (.cells #[.int .u16 0,.int .u32 0,.int .u8 0,.int .u32 0,.int .u64 0,.int .u32 0,.int .u32 0,.int .u32 0,.int .u64 0,.string ⟨#[]⟩,.string ⟨#[]⟩,.string ⟨#[]⟩,.string ⟨#[]⟩] 39)=w0 at HS HB HO⊢
 generalize hz:w.heap.size=z at HB HLT HO H8⊢
 have HZ:=hid hz;clear hz
 have H0:=hid (show∀i,i=p∨z≤i→8≤i from fun i hi=>by have:=H8.out;omega)
 go_wp2_with fail
 refine(kE HS.out).mono ?_
 rintro e w1 ⟨rfl,hs,hb⟩
 have HS1:=hid hs
 have HB1:=hid (hb.blk HB.out (by have:=HLT.out;omega))
 have HO1:=hid (HO.out.trans hb.toN)
 clear hs hb HS HB HO
 go_wp2_with fail
 refine(ES HS1.out).mono ?_
 rintro e w2 ⟨rfl,hs,hb⟩
 have HS2:=hid hs
 have HB2:=hid (Blk.below HB1.out hb (Blk.lt HB1.out))
 have HO2:=hid (HO1.out.trans (Off.of_below hb))
 clear hs hb HS1 HB1 HO1
 generalize hA:dF 2 st=A at*
 have hAl:A.1<65536:=by rw[←hA];exact uX 2 st
 have HA:=hid hA;clear hA
 obtain⟨n,rs⟩:=A
 have hw:wrap64 (n:Int)=(n:Int):=IntWalk.wrap64_in _ (by have:n<65536:=hAl;omega)
 clear hAl
 dsimp only at HS2⊢
 by_cases hn:n=(rs.getD []).length
 ·have HT:=hid (show mQ rs=stO st from by
   unfold stO
   rw[HA.out]
   dsimp only
   cases rs with
   |none=>rfl
   |some r=>dsimp only;rw[if_pos (show n=r.length from hn)])
  have hne:((n:Int) != (((rs.getD []).length:Nat):Int))=false:=by rw[hn];simp
  clear hn
  go_wp2_with fail
  refine(wR (HRD.out.low (HO2.out.below (B:=8) H0.out HRD.out.eight) (Nat.le_refl 8)) H8.out.1 HS2.out).mono ?_
  rw[HT.out]
  rintro e w3 ⟨rfl,hs,hb⟩
  have HS3:=hid hs
  have HB3:=hid (hb.blk HB2.out (by have:=HLT.out;omega))
  have HO3:=hid (HO2.out.trans hb.toN)
  clear hs hb HS2 HB2 HO2
  go_wp2_with(refine dA HB3.out 0 (stL (stO st).1) (stL (stO st).1).toArray (kK ..) (Nat.le_refl 13) (lJ ..) rfl _ _ _ rfl rfl rfl bP ?_;intro wz hs ho;have HBz:=hid hs;have HOz:=hid (ho (fun i=>i=p∨z≤i) (.inr (Nat.le_refl _)) w HO3.out);have HSz:=hid (HS3.out.off (ho (fun i=>i=z) rfl w3 (Off.refl _ _)) (by have:=HLT.out;omega) (dZ HB3.out (by decide)));clear hs ho)
  exact bodyPost_ret (bf (l:=stL (stO st).1) rfl Tryz.underlying39 rfl bP rfl HBz.out) rfl ⟨rfl,HSz.out,HOz.out.toR (by have:=HZ.out;omega)⟩
 ·have HT:=hid (show stO st=(zst,none)from by
   unfold stO
   rw[HA.out]
   dsimp only
   cases rs with
   |none=>rfl
   |some r=>dsimp only;rw[if_neg (show¬n=r.length from hn)])
  have hne:((n:Int) != (((rs.getD []).length:Nat):Int))=true:=by rw[bne_iff_ne];omega
  clear hn
  go_wp2_with fail
  refine(ou 33 (by decide) HS2.out).mono ?_
  rintro e w3 ⟨rfl,hs,hb⟩
  have HS3:=hid hs
  have HB3:=hid (hb.blk HB2.out (by have:=HLT.out;omega))
  have HO3:=hid (HO2.out.trans hb.toN)
  clear hs hb HS2 HB2 HO2
  go_wp2_with fail
  refine(wR (HRD.out.low (HO3.out.below (B:=8) H0.out HRD.out.eight) (Nat.le_refl 8)) H8.out.1 HS3.out).mono ?_
  rw[show mQ none=(zst,none)from rfl]
  rintro e w4 ⟨rfl,hs,hb⟩
  have HS4:=hid hs
  have HB4:=hid (hb.blk HB3.out (by have:=HLT.out;omega))
  have HO4:=hid (HO3.out.trans hb.toN)
  clear hs hb HS3 HB3 HO3
  go_wp2_with(refine dA HB4.out 0 (stL zst) (stL zst).toArray (kK ..) (Nat.le_refl 13) (lJ ..) rfl _ _ _ rfl rfl rfl bP ?_;intro wz hs ho;have HBz:=hid hs;have HOz:=hid (ho (fun i=>i=p∨z≤i) (.inr (Nat.le_refl _)) w HO4.out);have HSz:=hid (HS4.out.off (ho (fun i=>i=z) rfl w4 (Off.refl _ _)) (by have:=HLT.out;omega) (dZ HB4.out (by decide)));clear hs ho)
  rw[HT.out]
  exact bodyPost_ret (bf (l:=stL zst) rfl Tryz.underlying39 rfl bP rfl HBz.out) rfl ⟨rfl,HSz.out,HOz.out.toR (by have:=HZ.out;omega)⟩
theorem Blk.noT{w:World}{q:Nat}{t e:TypeId}{cs:Array Value}(h:Blk w q t cs)(ht:t≠e):∀g cur fr,g=q→w.heap[g]? ≠some (Obj.cells cur e fr):=by
 rintro g cur fr rfl hg
 unfold Blk at h
 rw[h]at hg
 injection hg with hg
 injection hg with _ hg
 exact ht hg
theorem dL{S:Nat→Prop}{w w':World}{base n size:Nat}{e:TypeId}{v:Value}{xs:List Value}(ho:Off S w w')(h:w.ownsRow base e size v n xs)(hn:∀i cur fr,S i→w.heap[i]? ≠some (Obj.cells cur e fr)):w'.ownsRow base e size v n xs:=by
 refine ho.own h fun k hk hs=> ?_
 rcases h.2 with⟨rfl, -⟩|⟨g,cap,cur,rfl,hb,hg, -⟩
 ·cases hk
 ·injection hk with hk
  have hk:g=k:=hk
  subst hk
  exact hn g cur _ hs hg
theorem bZ{w:World}{base n size:Nat}{e e':TypeId}{v:Value}{xs:List Value}(h:w.ownsRow base e size v n xs)(he:e≠e'):∀g cur fr,v.ownBlock=some g→w.heap[g]? ≠some (Obj.cells cur e' fr):=by
 intro g cur' fr hk hx
 rcases h.2 with⟨rfl, -⟩|⟨g',cap,cur,rfl,hb,hg, -⟩
 ·cases hk
 ·injection hk with hk
  have hk:g'=g:=hk
  subst hk
  rw[hg]at hx
  injection hx with hx
  injection hx with _ hx
  exact he hx
theorem Off.grown{S:Nat→Prop}{a b c:World}{row:Option Nat}(h:Off S a b)(hg:b.grownBy c row)(hr:∀g,row=some g→S g):Off S a c:=
 h.trans ⟨hg.os,hg.tape,hg.output,hg.size,fun k hk hn=>hg.block k hk fun e=>hn (hr k e.symm)⟩
theorem aI{w w':World}{base n size:Nat}{e:TypeId}{v:Value}{xs:List Value}(h:w.ownsRow base e size v n xs)(hb:Below w.heap.size w w'):w'.ownsRow base e size v n xs:=
 (Off.of_below (S:=fun _=>False) hb).own h (fun _ _ h=>h)
theorem uP{w:World}{p:Nat}{bv:Value}{l:List UInt8}{st:Option (List UInt8)}(hr:Ready w)(h8:8≤p)(h:RdS w p bv l st):
  Calls Tryz.prog 213 #[.pointer (some ⟨p,0,none⟩),.func (.func 137) #[.pointer (some ⟨p,0,none⟩)] #[]] w fun e w'=>(∃v,e= .returned v∧w'.ownsRow w.heap.size 9 1 v (jC bJ st).1.length (h_ (jC bJ st).1))∧RdS w' p bv l (jC bJ st).2∧jF p w w':=by
 have HS:=hid h
 have HRD:=hid hr
 have H8:=hid h8
 have HLT:=hid h.lt
 clear h hr h8
 go_enter Tryz.func213,Tryz.ntmps213
 go_wp2_with fail
 refine(kE HS.out).mono ?_
 rintro e w1 ⟨rfl,hs,hb⟩
 have HS1:=hid hs
 have HO1:=hid hb
 clear hs hb
 generalize hA:dF 2 st=A at*
 have hAl:A.1<65536:=by rw[←hA];exact uX 2 st
 have HA:=hid hA;clear hA
 obtain⟨n,s1⟩:=A
 have hnl:n<65536:=hAl
 have hw:wrap64 (n:Int)=(n:Int):=IntWalk.wrap64_in _ (by omega)
 clear hAl
 dsimp only at HS1
 by_cases h16:16<n
 ·have HL:=hid (show jC bJ st=([],none)from by unfold jC;rw[HA.out];dsimp only;rw[if_pos h16])
  go_wp2_with fail
  refine(ou 33 (by decide) HS1.out).mono ?_
  rintro e w2 ⟨rfl,hs,hb⟩
  have HS2:=hid hs
  have HO2:=hid (HO1.out.trans hb)
  clear hs hb
  go_wp2_with fail
  go_ret
  rw[HL.out]
  exact⟨⟨_,rfl,dS _ _ _ _⟩,HS2.out,HO2.out⟩
 ·have HL:=hid (show jC bJ st=jk bJ n s1 from by unfold jC;rw[HA.out];dsimp only;rw[if_neg h16])
  go_upto_region 5 with(fail)
  go_upto_region 7 with(fail)
  go_loopw [6,15] (fun v i wr=>∃k:Nat,k≤n∧i= .int .i64 k∧wr.ownsRow w.heap.size 9 1 v (jk bJ k s1).1.length (h_ (jk bJ k s1).1)∧RdS wr p bv l (jk bJ k s1).2∧jF p w wr) (fun _ i _=>n-(intOf i).toNat)
  case atStart=>exact⟨0,by omega,rfl,dS _ _ _ _,HS1.out,HO1.out⟩
  case round=>
   obtain⟨k,hk,rfl,hv,hs,hb⟩:=hrel
   have HV:=hid hv;clear hv
   have HSR:=hid hs;clear hs
   have HOR:=hid hb;clear hb
   have HKL:=hid (sV bJ k s1)
   have HSN:=hid (qW bJ k s1)
   by_cases hlt:k<n
   ·generalize jk bJ k s1=M at*
    have hv:=HV.out
    obtain⟨A,cap,rfl,hc,hm⟩:=aJ hv
    clear hv
    go_wp2_with fail
    refine(jT (HRD.out.low (HOR.out.below (B:=8) (fun i hi=>by have:=H8.out;omega) HRD.out.eight) (Nat.le_refl 8)) H8.out HSR.out).mono ?_
    rintro e w2 ⟨rfl,hs,hb⟩
    have HS2:=hid hs
    have HO2:=hid (HOR.out.trans hb)
    have HV2:=hid (hb.own HV.out (fun j hj hjp=>by have h1:=dH HV.out j hj;have h2:=HLT.out;omega))
    clear hs hb
    generalize bJ M.2=X at*
    have HS3:=hid (HS2.out.below ((Below.refl _ _).alloc (Nat.le_refl _) (.cells #[.string X.1] 9)))
    have HO3:=hid (HO2.out.alloc (.cells #[.string X.1] 9))
    have HV3:=hid (aI HV2.out ((Below.refl _ _).alloc (Nat.le_refl _) (.cells #[.string X.1] 9)))
    have w_:=hid (show Reads (w2.alloc (.cells #[.string X.1] 9)) (w2.heap.size+1) 1 (some ⟨w2.heap.size,0,none⟩) ([X.1]:List ByteArray).length (h_ [X.1])from dI w2 9 [.string X.1] 1 1 rfl)
    have HLN:=hid (show M.1.length+([X.1]:List ByteArray).length≤8796093022207 from by rw[HKL.out];simp only[List.length_cons,List.length_nil];omega)
    have HBS:=hid (show w.heap.size≤(w2.alloc (.cells #[.string X.1] 9)).heap.size from HO3.out.size)
    go_wp2_with(at_builtin;refine oQ (.tmp 17) (.tmp 20) rfl rfl w.heap.size _ _ rfl HV3.out (w2.heap.size+1) _ 1 [X.1] rfl w_.out HLN.out HBS.out ?_;intro v4 w4 hown hgr hor;have HV4:=hid hown;have HO4:=hid ((HO3.out.mono (S':=fun i=>i=p∨w.heap.size≤i) (fun _ _ h=> .inl h)).grown hgr (fun g hg=> .inr (dH HV3.out g hg)));have HS4:=hid (HS3.out.off ((Off.refl (fun i=>(Value.slice A M.1.length cap).ownBlock=some i) _).grown hgr (fun g hg=>hg)) (fun hp=>by have h1:=dH HV3.out p hp;have h2:=HLT.out;omega) (fun g cur fr hS=>bZ HV3.out (by decide) g cur fr hS));clear hown hgr hor)
    go_roundw
    case rel=>
     refine⟨k+1,by omega,by go_num, ?_, ?_,HO4.out.toR (Nat.le_refl _)⟩
     ·rw[HSN.out]
      exact HV4.out
     ·rw[HSN.out]
      exact HS4.out
    case measure=>simp[intOf];omega
   ·have hkn:k=n:=by omega
    subst hkn
    rw[←HL.out]at HV HSR
    have hv:=HV.out
    obtain⟨A,cap,rfl,hc,hm⟩:=aJ hv
    clear hv
    go_wp2_with fail
    go_ret
    exact⟨⟨_,rfl,HV.out⟩,HSR.out,HOR.out⟩
theorem E5{w:World}{p c:Nat}{bv:Value}{l:List UInt8}{st:Option (List UInt8)}(hc:Blk w c 72 #[.pointer (some ⟨p,0,none⟩)])(h:RdS w p bv l st):
  Calls Tryz.prog 226 #[.pointer (some ⟨c,0,none⟩)] w fun e w'=>e= .returned (qdV (iU st).1)∧RdS w' p bv l (iU st).2∧jF p w w':=by
 have HN:=hid (Blk.new w 37 #[.int .u8 0,.int .u32 0,.int .u64 0])
 have HS:=hid (h.below ((Below.refl _ _).alloc (Nat.le_refl _) (.cells #[.int .u8 0,.int .u32 0,.int .u64 0] 37)))
 have HO:=hid ((Off.refl (fun i=>i=p∨w.heap.size≤i) w).alloc (.cells #[.int .u8 0,.int .u32 0,.int .u64 0] 37))
 have HC:=hid (hc.alloc (.cells #[.int .u8 0,.int .u32 0,.int .u64 0] 37))
 have HLT:=hid h.lt
 clear h hc
 go_enter Tryz.func226,Tryz.ntmps226
 go_upto_region 1 with(fail)
 generalize w.alloc (.cells #[.int .u8 0,.int .u32 0,.int .u64 0] 37)=w0 at HS HN HO HC⊢
 generalize hz:w.heap.size=z at HN HLT HO⊢
 have HZ:=hid hz;clear hz
 have kc:w0.cell? ⟨c,0,none⟩=_:=HC.out.cell 0
 go_wp2_with fail
 refine(ny HS.out).mono ?_
 rintro e w4 ⟨rfl,hs,hb⟩
 have HS4:=hid hs
 have HN4:=hid (hb.blk HN.out (by have:=HLT.out;omega))
 have HO4:=hid (HO.out.trans hb.toN)
 clear hs hb HS HN HO HC
 clear kc
 generalize hq:iU st=R at*
 have HR:=hid hq;clear hq
 obtain⟨⟨v1,v2,v3⟩,sx⟩:=R
 dsimp only at HS4⊢
 have k0:w4.cell? ⟨z,0,none⟩=some (.int .u8 0):=HN4.out.cell 0
 have k1:w4.cell? ⟨z,1,none⟩=some (.int .u32 0):=HN4.out.cell 1
 have k2:w4.cell? ⟨z,2,none⟩=some (.int .u64 0):=HN4.out.cell 2
 have f0:w4.frozen? ⟨z,0,none⟩=false:=HN4.out.frozen 0
 have f1:w4.frozen? ⟨z,1,none⟩=false:=HN4.out.frozen 1
 have f2:w4.frozen? ⟨z,2,none⟩=false:=HN4.out.frozen 2
 have hso:=fun(S:Nat→Prop) (hS:S z)=>(((Off.refl S w4).setCell (p:=⟨z,0,none⟩) hS (.int .u8 (v1:Int))).setCell (p:=⟨z,1,none⟩) hS (.int .u32 (v2:Int))).setCell (p:=⟨z,2,none⟩) hS (.int .u64 (v3:Int))
 have HN5:=hid (show Blk (((w4.setCell ⟨z,0,none⟩ (.int .u8 (v1:Int))).setCell ⟨z,1,none⟩ (.int .u32 (v2:Int))).setCell ⟨z,2,none⟩ (.int .u64 (v3:Int))) z 37 #[.int .u8 (v1:Int),.int .u32 (v2:Int),.int .u64 (v3:Int)]from((HN4.out.aW 0 (.int .u8 (v1:Int))).aW 1 (.int .u32 (v2:Int))).aW 2 (.int .u64 (v3:Int)))
 have HO5:=hid (HO4.out.trans (hso (fun i=>i=p∨z≤i) (.inr (Nat.le_refl _))))
 have HS5:=hid (HS4.out.off (hso (fun i=>i=z) rfl) (by have:=HLT.out;omega) (dZ HN4.out (by decide)))
 clear hso
 go_wp2_with fail
 clear k0 k1 k2 f0 f1 f2
 generalize((w4.setCell ⟨z,0,none⟩ (.int .u8 (v1:Int))).setCell ⟨z,1,none⟩ (.int .u32 (v2:Int))).setCell ⟨z,2,none⟩ (.int .u64 (v3:Int))=w5 at HN5 HO5 HS5⊢
 exact bodyPost_ret (bf (l:=[.int .u8 (v1:Int),.int .u32 (v2:Int),.int .u64 (v3:Int)]) rfl Tryz.underlying37 rfl rU rfl HN5.out) rfl ⟨(by rw[HR.out]),(by rw[HR.out];exact HS5.out),HO5.out.toR (by have:=HZ.out;omega)⟩
theorem uQ{w:World}{p c:Nat}{bv:Value}{l:List UInt8}{st:Option (List UInt8)}(hc:Blk w c 72 #[.pointer (some ⟨p,0,none⟩)])(h:RdS w p bv l st):
  Calls Tryz.prog 225 #[.pointer (some ⟨p,0,none⟩),.func (.func 226) #[] #[.pointer (some ⟨c,0,none⟩)]] w fun e w'=>(∃v,e= .returned v∧w'.ownsRow w.heap.size 37 3 v (jC iU st).1.length (ng (jC iU st).1))∧RdS w' p bv l (jC iU st).2∧jF p w w':=by
 have HS:=hid h
 have HC:=hid hc
 have HLT:=hid h.lt
 have HCP:=hid (show c≠p from fun hcp=>by
  obtain⟨_,_,h,_⟩:=h
  obtain⟨_,_,hb⟩:=h.blk
  exact absurd hb (hcp▸fun hb=>by
   unfold Blk at hc hb
   rw[hc]at hb
   injection hb with hb
   injection hb with _ hb
   exact absurd hb (by decide)))
 clear h hc
 go_enter Tryz.func225,Tryz.ntmps225
 go_wp2_with fail
 refine(kE HS.out).mono ?_
 rintro e w1 ⟨rfl,hs,hb⟩
 have HS1:=hid hs
 have HO1:=hid hb
 clear hs hb
 generalize hA:dF 2 st=A at*
 have hAl:A.1<65536:=by rw[←hA];exact uX 2 st
 have HA:=hid hA;clear hA
 obtain⟨n,s1⟩:=A
 have hnl:n<65536:=hAl
 have hw:wrap64 (n:Int)=(n:Int):=IntWalk.wrap64_in _ (by omega)
 clear hAl
 dsimp only at HS1
 by_cases h16:16<n
 ·have HL:=hid (show jC iU st=([],none)from by unfold jC;rw[HA.out];dsimp only;rw[if_pos h16])
  go_wp2_with fail
  refine(ou 33 (by decide) HS1.out).mono ?_
  rintro e w2 ⟨rfl,hs,hb⟩
  have HS2:=hid hs
  have HO2:=hid (HO1.out.trans hb)
  clear hs hb
  go_wp2_with fail
  go_ret
  rw[HL.out]
  exact⟨⟨_,rfl,dS _ _ _ _⟩,HS2.out,HO2.out⟩
 ·have HL:=hid (show jC iU st=jk iU n s1 from by unfold jC;rw[HA.out];dsimp only;rw[if_neg h16])
  go_upto_region 5 with(fail)
  go_upto_region 7 with(fail)
  go_loopw [6,15] (fun v i wr=>∃k:Nat,k≤n∧i= .int .i64 k∧wr.ownsRow w.heap.size 37 3 v (jk iU k s1).1.length (ng (jk iU k s1).1)∧RdS wr p bv l (jk iU k s1).2∧jF p w wr) (fun _ i _=>n-(intOf i).toNat)
  case atStart=>exact⟨0,by omega,rfl,dS _ _ _ _,HS1.out,HO1.out⟩
  case round=>
   obtain⟨k,hk,rfl,hv,hs,hb⟩:=hrel
   have HV:=hid hv;clear hv
   have HSR:=hid hs;clear hs
   have HOR:=hid hb;clear hb
   have HKL:=hid (sV iU k s1)
   have HSN:=hid (qW iU k s1)
   by_cases hlt:k<n
   ·generalize jk iU k s1=M at*
    have hv:=HV.out
    obtain⟨A,cap,rfl,hc,hm⟩:=aJ hv
    clear hv
    go_wp2_with fail
    refine(E5 (HOR.out.blk HC.out HCP.out) HSR.out).mono ?_
    rintro e w2 ⟨rfl,hs,hb⟩
    have HS2:=hid hs
    have HO2:=hid (HOR.out.trans hb)
    have HV2:=hid (hb.own HV.out (fun j hj hjp=>by have h1:=dH HV.out j hj;have h2:=HLT.out;omega))
    clear hs hb
    generalize iU M.2=X at*
    obtain⟨⟨v1,v2,v3⟩,sx⟩:=X
    dsimp only at HS2 HSN⊢
    have HS3:=hid (HS2.out.below ((Below.refl _ _).alloc (Nat.le_refl _) (.cells #[.int .u8 (v1:Int),.int .u32 (v2:Int),.int .u64 (v3:Int)] 37)))
    have HO3:=hid (HO2.out.alloc (.cells #[.int .u8 (v1:Int),.int .u32 (v2:Int),.int .u64 (v3:Int)] 37))
    have HV3:=hid (aI HV2.out ((Below.refl _ _).alloc (Nat.le_refl _) (.cells #[.int .u8 (v1:Int),.int .u32 (v2:Int),.int .u64 (v3:Int)] 37)))
    have w_:=hid (show Reads (w2.alloc (.cells #[.int .u8 (v1:Int),.int .u32 (v2:Int),.int .u64 (v3:Int)] 37)) (w2.heap.size+1) 3 (some ⟨w2.heap.size,0,none⟩) ([⟨v1,v2,v3⟩]:List Qd).length (ng [⟨v1,v2,v3⟩])from dI w2 37 [.int .u8 (v1:Int),.int .u32 (v2:Int),.int .u64 (v3:Int)] 1 3 rfl)
    have HLN:=hid (show M.1.length+([⟨v1,v2,v3⟩]:List Qd).length≤8796093022207 from by rw[HKL.out];simp only[List.length_cons,List.length_nil];omega)
    have HBS:=hid (show w.heap.size≤(w2.alloc (.cells #[.int .u8 (v1:Int),.int .u32 (v2:Int),.int .u64 (v3:Int)] 37)).heap.size from HO3.out.size)
    go_wp2_with(at_builtin;refine Ai (.tmp 17) (.tmp 20) rfl rfl w.heap.size _ _ rfl HV3.out (w2.heap.size+1) _ 1 [⟨v1,v2,v3⟩] rfl w_.out HLN.out HBS.out ?_;intro v4 w4 hown hgr hor;have HV4:=hid hown;have HO4:=hid ((HO3.out.mono (S':=fun i=>i=p∨w.heap.size≤i) (fun _ _ h=> .inl h)).grown hgr (fun g hg=> .inr (dH HV3.out g hg)));have HS4:=hid (HS3.out.off ((Off.refl (fun i=>(Value.slice A M.1.length cap).ownBlock=some i) _).grown hgr (fun g hg=>hg)) (fun hp=>by have h1:=dH HV3.out p hp;have h2:=HLT.out;omega) (fun g cur fr hS=>bZ HV3.out (by decide) g cur fr hS));clear hown hgr hor)
    go_roundw
    case rel=>
     refine⟨k+1,by omega,by go_num, ?_, ?_,HO4.out.toR (Nat.le_refl _)⟩
     ·rw[HSN.out]
      exact HV4.out
     ·rw[HSN.out]
      exact HS4.out
    case measure=>simp[intOf];omega
   ·have hkn:k=n:=by omega
    subst hkn
    rw[←HL.out]at HV HSR
    have hv:=HV.out
    obtain⟨A,cap,rfl,hc,hm⟩:=aJ hv
    clear hv
    go_wp2_with fail
    go_ret
    exact⟨⟨_,rfl,HV.out⟩,HSR.out,HOR.out⟩
end Go.Proofs.YtkblmloobkiloaaGreatDoor
