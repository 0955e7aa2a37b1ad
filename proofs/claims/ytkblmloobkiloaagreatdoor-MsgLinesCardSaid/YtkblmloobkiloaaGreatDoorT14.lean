/-
  MT4 MR8: what the laws of package msg need of them.
-/
import Derived.Test.YtkblmloobkiloaaGreatDoorT00
import Derived.Test.YtkblmloobkiloaaGreatDoorT07
import Derived.Test.YtkblmloobkiloaaGreatDoorT13
set_option maxRecDepth 100000
set_option maxHeartbeats 6400000
namespace Go.Proofs.YtkblmloobkiloaaGreatDoor
open Go.Lib (hid)
open Go.RowKit
open Go.Lib (decDigits)
theorem eH{n:Nat}(h:n<18446744073709551616):IntKind.u64.wrap (n:Int)=(n:Int):=by
 rw[IntKind.wrap_u64]
 omega
theorem jD(n:Nat)(h:n<18446744073709551616):(ofL (decDigits n)).size≤20:=by
 rw[dU,Lib.decDigits_length]
 by_cases h0:n=0
 ·subst h0
  have:=Lib.decDigits_length 0
  have h1:(Lib.decDigits 0).length=1:=by simp[Lib.decDigits]
  omega
 ·have:=Lib.numDigits_eq n (by omega) h
  split at this<;>omega
theorem sW(q:Qd)(hq:q.kind<18446744073709551616∧q.vers<18446744073709551616∧q.path<18446744073709551616)(w:World)(ht:TP w)(h8:8≤w.heap.size):
  Calls Tryz.prog 176 #[qdV q] w fun e w'=>e= .returned (.string (ofL (iG q)))∧Below w.heap.size w w':=by
 have hup:Below w.heap.size w (w.alloc (.cells #[.int .u8 (q.kind:Int),.int .u32 (q.vers:Int),.int .u64 (q.path:Int)] 37)):=(Below.refl _ _).alloc (Nat.le_refl _) _
 have HN:=hid (Blk.new w 37 #[.int .u8 (q.kind:Int),.int .u32 (q.vers:Int),.int .u64 (q.path:Int)])
 have HT0:=hid (ht.low hup h8)
 have HB:=hid hup
 have HQ:=hid hq
 have h1:=jD q.kind hq.1
 have h2:=jD q.vers hq.2.1
 have h3:=jD q.path hq.2.2
 have H8:=hid h8
 clear hup ht hq h8
 unfold qdV
 go_enter Tryz.func176,Tryz.ntmps176
 go_upto_region 1 with(fail)
 generalize w.alloc (.cells #[.int .u8 (q.kind:Int),.int .u32 (q.vers:Int),.int .u64 (q.path:Int)] 37)=w0 at HN HB HT0⊢
 generalize hb:w.heap.size=b at HN H8 HB⊢
 have HBB:=hid hb;clear hb
 have HL:=hid (Blk.lt HN.out)
 have HTP:=hid (show∀wx,Below w0.heap.size w0 wx→TP wx from fun wx h=>HT0.out.low h (by have:=HL.out;have:=H8.out;omega))
 have k0:w0.cell? ⟨b,0,none⟩=some (.int .u8 (q.kind:Int)):=HN.out.cell 0
 have k1:w0.cell? ⟨b,1,none⟩=some (.int .u32 (q.vers:Int)):=HN.out.cell 1
 have k2:w0.cell? ⟨b,2,none⟩=some (.int .u64 (q.path:Int)):=HN.out.cell 2
 have qm:=hid (show ofL (decDigits q.kind)++⟨#[46]⟩++ofL (decDigits q.vers)++⟨#[46]⟩++ofL (decDigits q.path)=ofL (iG q)from by
  apply ByteArray.ext
  rw[←Array.toList_inj]
  simp[ofL,iG,ByteArray.data_append])
 generalize hx1:ofL (decDigits q.kind)=X1 at h1 qm
 have HX1:=hid hx1;clear hx1
 generalize hx2:ofL (decDigits q.vers)=X2 at h2 qm
 have HX2:=hid hx2;clear hx2
 generalize hx3:ofL (decDigits q.path)=X3 at h3 qm
 have HX3:=hid hx3;clear hx3
 have hw1:IntKind.u64.wrap (q.kind:Int)=(q.kind:Int):=eH HQ.out.1
 have hw2:IntKind.u64.wrap (q.vers:Int)=(q.vers:Int):=eH HQ.out.2.1
 refine wp_region_held_drew (S:=fun wx=>Below w0.heap.size w0 wx) (by kernel_rfl) (aC w0) (fun hHeld=> ?_)
 generalize w0.drew=wd at hHeld⊢
 refine tk 3 0 (.pointer (some ⟨b,0,none⟩)) ?_
 simp only[ah]
 refine tk2 4 1 (.int .u8 (q.kind:Int)) rfl (fun wq hSw=>by have k0:=(hSw.cell (p:=⟨b,0,none⟩) HL.out).trans k0;go_simp) ?_
 simp only[ah]
 refine tk 5 2 (.int .u64 (q.kind:Int)) ?_
 simp only[ah]
 refine tk 8 5 (.pointer (some ⟨b,1,none⟩)) ?_
 simp only[ah]
 refine tk2 9 6 (.int .u32 (q.vers:Int)) rfl (fun wq hSw=>by have k1:=(hSw.cell (p:=⟨b,1,none⟩) HL.out).trans k1;go_simp) ?_
 simp only[ah]
 refine tk 10 7 (.int .u64 (q.vers:Int)) ?_
 simp only[ah]
 refine tk 14 11 (.pointer (some ⟨b,2,none⟩)) ?_
 simp only[ah]
 refine tk2 15 12 (.int .u64 (q.path:Int)) rfl (fun wq hSw=>by have k2:=(hSw.cell (p:=⟨b,2,none⟩) HL.out).trans k2;go_simp) ?_
 simp only[ah]
 refine wpAnyH_ready (rs:=[3]) (by kernel_rfl) (by simp) ?_
 refine AllReadyH.cons rfl (fun K hK=> ?_) AllReadyH.nil
 rw[if_pos (by rfl)]
 go_simp
 (with_reducible refine(dN q.kind HQ.out.1 wd (HTP.out _ hHeld)).mono ?_)
 rintro e wy ⟨rfl,hb⟩
 rw[HX1.out]
 dsimp only
 have cO:=hHeld.trans (hb.mono hHeld.size)
 clear hb hHeld
 refine hK.out _ _ cO (fun hHeld=> ?_)
 clear hK cO
 refine tk2 7 4 (.string (X1++⟨#[46]⟩)) rfl (fun wq hSw=>by go_simp<;>(first|omega|(simp only[ByteArray.size_append];omega)|skip)) ?_
 simp only[ah]
 refine wpAnyH_ready (rs:=[8]) (by kernel_rfl) (by simp) ?_
 refine AllReadyH.cons rfl (fun K hK=> ?_) AllReadyH.nil
 rw[if_pos (by rfl)]
 go_simp
 (with_reducible refine(dN q.vers HQ.out.2.1 wy (HTP.out _ hHeld)).mono ?_)
 rintro e wy ⟨rfl,hb⟩
 rw[HX2.out]
 dsimp only
 have cO:=hHeld.trans (hb.mono hHeld.size)
 clear hb hHeld
 refine hK.out _ _ cO (fun hHeld=> ?_)
 clear hK cO
 refine tk2 12 9 (.string ((X1++⟨#[46]⟩)++X2)) rfl (fun wq hSw=>by go_simp<;>(first|omega|(simp only[ByteArray.size_append];omega)|skip)) ?_
 simp only[ah]
 refine tk2 13 10 (.string (((X1++⟨#[46]⟩)++X2)++⟨#[46]⟩)) rfl (fun wq hSw=>by go_simp<;>(first|omega|(simp only[ByteArray.size_append];omega)|skip)) ?_
 simp only[ah]
 refine wpAnyH_ready (rs:=[13]) (by kernel_rfl) (by simp) ?_
 refine AllReadyH.cons rfl (fun K hK=> ?_) AllReadyH.nil
 rw[if_pos (by rfl)]
 go_simp
 (with_reducible refine(dN q.path HQ.out.2.2 wy (HTP.out _ hHeld)).mono ?_)
 rintro e wy ⟨rfl,hb⟩
 rw[HX3.out]
 dsimp only
 have cO:=hHeld.trans (hb.mono hHeld.size)
 clear hb hHeld
 refine hK.out _ _ cO (fun hHeld=> ?_)
 clear hK cO
 refine tk2 17 14 (.string ((((X1++⟨#[46]⟩)++X2)++⟨#[46]⟩)++X3)) rfl (fun wq hSw=>by go_simp<;>(first|omega|(simp only[ByteArray.size_append];omega)|skip)) ?_
 simp only[ah]
 refine tk 2 15 (.string ((((X1++⟨#[46]⟩)++X2)++⟨#[46]⟩)++X3)) ?_
 simp only[ah]
 refine wpAnyH_done (by kernel_rfl) ?_ _
 have HBF:=hid (HB.out.trans (hHeld.mono (by have:=HL.out;omega)))
 clear hHeld
 go_wp2_with fail
 go_ret
 rw[qm.out]
 exact⟨rfl,by have hb:=HBB.out;rw[hb];exact HBF.out⟩
end Go.Proofs.YtkblmloobkiloaaGreatDoor
namespace Go.Proofs.YtkblmloobkiloaaGreatDoor
open Go.Lib (hid)
open Go.RowKit
theorem uX(k:Nat)(st:Option (List UInt8)):(dF k st).1<256^k:=by
 cases st with
 |none=>exact Nat.pow_pos (by decide)
 |some r=>
  by_cases h:k≤r.length
  ·rw[pz h]
   exact Nat.lt_of_lt_of_le (dD _) (Nat.pow_le_pow_right (by decide) (by rw[List.length_take];omega))
  ·rw[lY (by omega)]
   exact Nat.pow_pos (by decide)
theorem lJ(n0 n1 n2 n3 n4 n5 n6 n7 n8:Int)(a b c d:ByteArray):([.int .u16 n0,.int .u32 n1,.int .u8 n2,.int .u32 n3,.int .u64 n4,.int .u32 n5,.int .u32 n6,.int .u32 n7,.int .u64 n8,.string a,.string b,.string c,.string d]:List Value).toArray.all (·.oneCell')=true:=by simp[Value.oneCell']
theorem kK(n0 n1 n2 n3 n4 n5 n6 n7 n8:Int)(a b c d:ByteArray):over #[.int .u16 0,.int .u32 0,.int .u8 0,.int .u32 0,.int .u64 0,.int .u32 0,.int .u32 0,.int .u32 0,.int .u64 0,.string ⟨#[]⟩,.string ⟨#[]⟩,.string ⟨#[]⟩,.string ⟨#[]⟩] 0 [.int .u16 n0,.int .u32 n1,.int .u8 n2,.int .u32 n3,.int .u64 n4,.int .u32 n5,.int .u32 n6,.int .u32 n7,.int .u64 n8,.string a,.string b,.string c,.string d]= #[.int .u16 n0,.int .u32 n1,.int .u8 n2,.int .u32 n3,.int .u64 n4,.int .u32 n5,.int .u32 n6,.int .u32 n7,.int .u64 n8,.string a,.string b,.string c,.string d]:=by kernel_rfl
theorem wR{w:World}{p:Nat}{bv:Value}{l:List UInt8}{st:Option (List UInt8)}(hr:Ready w)(h8:8≤p)(h:RdS w p bv l st):
  Calls Tryz.prog 262 #[.pointer (some ⟨p,0,none⟩)] w fun e w'=>e= .returned (stV (mQ st).1)∧RdS w' p bv l (mQ st).2∧jF p w w':=by
 have HB:=hid (Blk.new w 39 #[.int .u16 0,.int .u32 0,.int .u8 0,.int .u32 0,.int .u64 0,.int .u32 0,.int .u32 0,.int .u32 0,.int .u64 0,.string ⟨#[]⟩,.string ⟨#[]⟩,.string ⟨#[]⟩,.string ⟨#[]⟩])
 have HS:=hid (h.below ((Below.refl _ _).alloc (Nat.le_refl _) (.cells #[.int .u16 0,.int .u32 0,.int .u8 0,.int .u32 0,.int .u64 0,.int .u32 0,.int .u32 0,.int .u32 0,.int .u64 0,.string ⟨#[]⟩,.string ⟨#[]⟩,.string ⟨#[]⟩,.string ⟨#[]⟩] 39)))
 have HO:=hid ((Off.refl (fun i=>i=p∨w.heap.size≤i) w).alloc (.cells #[.int .u16 0,.int .u32 0,.int .u8 0,.int .u32 0,.int .u64 0,.int .u32 0,.int .u32 0,.int .u32 0,.int .u64 0,.string ⟨#[]⟩,.string ⟨#[]⟩,.string ⟨#[]⟩,.string ⟨#[]⟩] 39))
 have HRD:=hid hr
 have HSZ:=hid (show(w.alloc (.cells #[.int .u16 0,.int .u32 0,.int .u8 0,.int .u32 0,.int .u64 0,.int .u32 0,.int .u32 0,.int .u32 0,.int .u64 0,.string ⟨#[]⟩,.string ⟨#[]⟩,.string ⟨#[]⟩,.string ⟨#[]⟩] 39)).heap.size=w.heap.size+1 from World.size_alloc ..)
 have HLT:=hid h.lt
 have H8:=hid (And.intro h8 hr.eight)
 clear h hr h8
 go_enter Tryz.func262,Tryz.ntmps262
 go_upto_region 1 with(fail)
 generalize w.alloc (.cells #[.int .u16 0,.int .u32 0,.int .u8 0,.int .u32 0,.int .u64 0,.int .u32 0,.int .u32 0,.int .u32 0,.int .u64 0,.string ⟨#[]⟩,.string ⟨#[]⟩,.string ⟨#[]⟩,.string ⟨#[]⟩] 39)=w0 at HS HB HO HSZ⊢
 generalize hz:w.heap.size=z at HB HLT HO H8 HSZ⊢
 have HZ:=hid hz;clear hz
 go_wp2_with fail
 refine(ET HS.out).mono ?_
 rintro e w1 ⟨q,pv,x,rfl,hq,hs,hp,ho⟩
 have HPS:=hid hp
 have HS1:=hid hs
 have HB1:=hid (ho.blk HB.out (by have:=HLT.out;omega))
 have HO1:=hid (HO.out.trans ho.toN)
 have HQ:=hid (show z<q from by have:=HSZ.out;omega)
 have HQN:=hid hs.lt
 clear hq hs hp ho HS HB HO
 generalize hps:(oM st).1=ps at*
 generalize hrs:(oM st).2=rs at*
 have HPO:=hid (And.intro hps hrs);clear hps hrs
 have HP1:=hid (Off.refl (fun i=>i=q∨i=z∨w1.heap.size≤i) w1)
 have HNU:=hid (show∀g cur fr,(g=q∨g=z∨w1.heap.size≤g)→w1.heap[g]? ≠some (Obj.cells cur 5 fr)from fun g cur fr hg=>by
  rcases hg with hg|hg|hg
  ·exact HS1.out.wM g cur fr hg
  ·exact dZ HB1.out (by decide) g cur fr hg
  ·exact KR g cur fr hg)
 have H0:=hid (show∀i,i=p∨z≤i→8≤i from fun i hi=>by have:=H8.out;omega)
 generalize hn1:w1.heap.size=n1 at HP1 HNU HQN
 have HN1:=hid hn1;clear hn1
 go_wp2_with fail
 refine(kE HS1.out).mono ?_
 rintro e w2 ⟨rfl,hs,hb⟩
 have HS2:=hid hs
 have HB2:=hid (hb.blk HB1.out (by have:=HQ.out;omega))
 have HO2:=hid (HO1.out.trans (hb.mono fun k _ hk=> .inr (by have:=HQ.out;have hk:k=q:=hk;omega)))
 have HP2:=hid (HP1.out.trans (hb.mono fun k _ hk=> .inl hk))
 clear hs hb HS1 HB1 HO1 HP1
 generalize hty:dF 2 ps=ty at*
 have U5:=hid hty;clear hty
 go_wp2_with fail
 refine(iZ HS2.out).mono ?_
 rintro e w3 ⟨rfl,hs,hb⟩
 have HS3:=hid hs
 have HB3:=hid (hb.blk HB2.out (by have:=HQ.out;omega))
 have HO3:=hid (HO2.out.trans (hb.mono fun k _ hk=> .inr (by have:=HQ.out;have hk:k=q:=hk;omega)))
 have HP3:=hid (HP2.out.trans (hb.mono fun k _ hk=> .inl hk))
 clear hs hb HS2 HB2 HO2 HP2
 generalize hdv:dF 4 ty.2=dv at*
 have U6:=hid hdv;clear hdv
 have EU:=hid (show n1≤w3.heap.size from by have:=HP3.out.size;have:=HN1.out;omega)
 go_wp2_with(have HF4:=hid (Blk.new w3 39 #[.int .u16 0,.int .u32 0,.int .u8 0,.int .u32 0,.int .u64 0,.int .u32 0,.int .u32 0,.int .u32 0,.int .u64 0,.string ⟨#[]⟩,.string ⟨#[]⟩,.string ⟨#[]⟩,.string ⟨#[]⟩]);have HS4:=hid (HS3.out.below ((Below.refl _ _).alloc (Nat.le_refl _) (.cells #[.int .u16 0,.int .u32 0,.int .u8 0,.int .u32 0,.int .u64 0,.int .u32 0,.int .u32 0,.int .u32 0,.int .u64 0,.string ⟨#[]⟩,.string ⟨#[]⟩,.string ⟨#[]⟩,.string ⟨#[]⟩] 39)));have HB4:=hid (HB3.out.alloc (.cells #[.int .u16 0,.int .u32 0,.int .u8 0,.int .u32 0,.int .u64 0,.int .u32 0,.int .u32 0,.int .u32 0,.int .u64 0,.string ⟨#[]⟩,.string ⟨#[]⟩,.string ⟨#[]⟩,.string ⟨#[]⟩] 39));have HO4:=hid (HO3.out.alloc (.cells #[.int .u16 0,.int .u32 0,.int .u8 0,.int .u32 0,.int .u64 0,.int .u32 0,.int .u32 0,.int .u32 0,.int .u64 0,.string ⟨#[]⟩,.string ⟨#[]⟩,.string ⟨#[]⟩,.string ⟨#[]⟩] 39));have HP4:=hid (HP3.out.alloc (.cells #[.int .u16 0,.int .u32 0,.int .u8 0,.int .u32 0,.int .u64 0,.int .u32 0,.int .u32 0,.int .u32 0,.int .u64 0,.string ⟨#[]⟩,.string ⟨#[]⟩,.string ⟨#[]⟩,.string ⟨#[]⟩] 39));generalize w3.alloc (.cells #[.int .u16 0,.int .u32 0,.int .u8 0,.int .u32 0,.int .u64 0,.int .u32 0,.int .u32 0,.int .u32 0,.int .u64 0,.string ⟨#[]⟩,.string ⟨#[]⟩,.string ⟨#[]⟩,.string ⟨#[]⟩] 39)=w4 at HF4 HS4 HB4 HO4 HP4⊢;generalize w3.heap.size=f at HF4 EU⊢;refine dA HF4.out 0 [.int .u16 (ty.1:Int),.int .u32 (dv.1:Int),.int .u8 0,.int .u32 0,.int .u64 0,.int .u32 0,.int .u32 0,.int .u32 0,.int .u64 0,.string ⟨#[]⟩,.string ⟨#[]⟩,.string ⟨#[]⟩,.string ⟨#[]⟩] #[.int .u16 (ty.1:Int),.int .u32 (dv.1:Int),.int .u8 0,.int .u32 0,.int .u64 0,.int .u32 0,.int .u32 0,.int .u32 0,.int .u64 0,.string ⟨#[]⟩,.string ⟨#[]⟩,.string ⟨#[]⟩,.string ⟨#[]⟩] (kK ..) (Nat.le_refl 13) (lJ ..) rfl _ _ _ rfl rfl rfl bP ?_;intro w5 hs ho;have HFN:=hid EU.out;have HF5:=hid hs;have HS5:=hid (HS4.out.off (ho (fun i=>i=f) rfl w4 (Off.refl _ _)) (by have:=EU.out;have:=HQN.out;omega) (dZ HF4.out (by decide)));have HB5:=hid ((ho (fun i=>i=f) rfl w4 (Off.refl _ _)).blk HB4.out (by have:=EU.out;have:=HQN.out;have:=HQ.out;omega));have HO5:=hid (ho _ (.inr (by have:=EU.out;have:=HQN.out;have:=HQ.out;omega)) w HO4.out);have HP5:=hid (ho _ (.inr (.inr EU.out)) w1 HP4.out);clear hs ho HS3 HB3 HO3 HP3 HS4 HB4 HO4 HP4 HF4 EU)
 refine(ny HS5.out).mono ?_
 rintro e w6 ⟨rfl,hs,hb⟩
 have HS6:=hid hs
 have HB6:=hid (hb.blk HB5.out (by have:=HQ.out;omega))
 have HO6:=hid (HO5.out.trans (hb.mono fun k _ hk=> .inr (by have:=HQ.out;have hk:k=q:=hk;omega)))
 have HP6:=hid (HP5.out.trans (hb.mono fun k _ hk=> .inl hk))
 have HF6:=hid (hb.blk HF5.out (by have:=HFN.out;have:=HQN.out;omega))
 clear hs hb HS5 HB5 HO5 HP5 HF5
 generalize hqd:iU dv.2=qd at*
 have U7:=hid hqd;clear hqd
 have k0:w6.cell? ⟨f,2,none⟩=some (.int .u8 0):=HF6.out.cell 2
 have k1:w6.cell? ⟨f,3,none⟩=some (.int .u32 0):=HF6.out.cell 3
 have k2:w6.cell? ⟨f,4,none⟩=some (.int .u64 0):=HF6.out.cell 4
 have f0:w6.frozen? ⟨f,2,none⟩=false:=HF6.out.frozen 2
 have f1:w6.frozen? ⟨f,3,none⟩=false:=HF6.out.frozen 3
 have f2:w6.frozen? ⟨f,4,none⟩=false:=HF6.out.frozen 4
 have hso:=fun(S:Nat→Prop) (hS:S f)=>(((Off.refl S w6).setCell (p:=⟨f,2,none⟩) hS (.int .u8 (qd.1.kind:Int))).setCell (p:=⟨f,3,none⟩) hS (.int .u32 (qd.1.vers:Int))).setCell (p:=⟨f,4,none⟩) hS (.int .u64 (qd.1.path:Int))
 have HF7:=hid (show Blk (((w6.setCell ⟨f,2,none⟩ (.int .u8 (qd.1.kind:Int))).setCell ⟨f,3,none⟩ (.int .u32 (qd.1.vers:Int))).setCell ⟨f,4,none⟩ (.int .u64 (qd.1.path:Int))) f 39 #[.int .u16 (ty.1:Int),.int .u32 (dv.1:Int),.int .u8 (qd.1.kind:Int),.int .u32 (qd.1.vers:Int),.int .u64 (qd.1.path:Int),.int .u32 0,.int .u32 0,.int .u32 0,.int .u64 0,.string ⟨#[]⟩,.string ⟨#[]⟩,.string ⟨#[]⟩,.string ⟨#[]⟩]from((HF6.out.aW 2 (.int .u8 (qd.1.kind:Int))).aW 3 (.int .u32 (qd.1.vers:Int))).aW 4 (.int .u64 (qd.1.path:Int)))
 have HS7:=hid (HS6.out.off (hso (fun i=>i=f) rfl) (by have:=HFN.out;have:=HQN.out;omega) (dZ HF6.out (by decide)))
 have HB7:=hid ((hso (fun i=>i=f) rfl).blk HB6.out (by have:=HFN.out;have:=HQN.out;have:=HQ.out;omega))
 have HO7:=hid (HO6.out.trans (hso _ (.inr (by have:=HFN.out;have:=HQN.out;have:=HQ.out;omega))))
 have HP7:=hid (HP6.out.trans (hso _ (.inr (.inr HFN.out))))
 clear hso HS6 HB6 HO6 HP6 HF6
 go_wp2_with fail
 clear k0 k1 k2 f0 f1 f2
 generalize((w6.setCell ⟨f,2,none⟩ (.int .u8 (qd.1.kind:Int))).setCell ⟨f,3,none⟩ (.int .u32 (qd.1.vers:Int))).setCell ⟨f,4,none⟩ (.int .u64 (qd.1.path:Int))=w7 at HF7 HS7 HB7 HO7 HP7⊢
 refine(iZ HS7.out).mono ?_
 rintro e w8 ⟨rfl,hs,hb⟩
 have HS8:=hid hs
 have HB8:=hid (hb.blk HB7.out (by have:=HQ.out;omega))
 have HO8:=hid (HO7.out.trans (hb.mono fun k _ hk=> .inr (by have:=HQ.out;have hk:k=q:=hk;omega)))
 have HP8:=hid (HP7.out.trans (hb.mono fun k _ hk=> .inl hk))
 have HF8:=hid (hb.blk HF7.out (by have:=HFN.out;have:=HQN.out;omega))
 clear hs hb HS7 HB7 HO7 HP7 HF7
 generalize hmo:dF 4 qd.2=mo at*
 have U8:=hid hmo;clear hmo
 have ks:w8.cell? ⟨f,5,none⟩=some (.int .u32 0):=HF8.out.cell 5
 have fs:w8.frozen? ⟨f,5,none⟩=false:=HF8.out.frozen 5
 have HF9:=hid (show Blk (w8.setCell ⟨f,5,none⟩ (.int .u32 (mo.1:Int))) f 39 #[.int .u16 (ty.1:Int),.int .u32 (dv.1:Int),.int .u8 (qd.1.kind:Int),.int .u32 (qd.1.vers:Int),.int .u64 (qd.1.path:Int),.int .u32 (mo.1:Int),.int .u32 0,.int .u32 0,.int .u64 0,.string ⟨#[]⟩,.string ⟨#[]⟩,.string ⟨#[]⟩,.string ⟨#[]⟩]from HF8.out.aW 5 (.int .u32 (mo.1:Int)))
 have hso:=fun(S:Nat→Prop) (hS:S f)=>(Off.refl S w8).setCell (p:=⟨f,5,none⟩) hS (.int .u32 (mo.1:Int))
 have HS9:=hid (HS8.out.off (hso (fun i=>i=f) rfl) (by have:=HFN.out;have:=HQN.out;omega) (dZ HF8.out (by decide)))
 have HB9:=hid ((hso (fun i=>i=f) rfl).blk HB8.out (by have:=HFN.out;have:=HQN.out;have:=HQ.out;omega))
 have HO9:=hid (HO8.out.trans (hso _ (.inr (by have:=HFN.out;have:=HQN.out;have:=HQ.out;omega))))
 have HP9:=hid (HP8.out.trans (hso _ (.inr (.inr HFN.out))))
 clear hso HS8 HB8 HO8 HP8 HF8
 go_wp2_with fail
 clear ks fs
 generalize w8.setCell ⟨f,5,none⟩ (.int .u32 (mo.1:Int))=w9 at HS9 HB9 HO9 HP9 HF9⊢
 refine(iZ HS9.out).mono ?_
 rintro e w10 ⟨rfl,hs,hb⟩
 have CX:=hid hs
 have SG:=hid (hb.blk HB9.out (by have:=HQ.out;omega))
 have C_:=hid (HO9.out.trans (hb.mono fun k _ hk=> .inr (by have:=HQ.out;have hk:k=q:=hk;omega)))
 have SH:=hid (HP9.out.trans (hb.mono fun k _ hk=> .inl hk))
 have wS:=hid (hb.blk HF9.out (by have:=HFN.out;have:=HQN.out;omega))
 clear hs hb HS9 HB9 HO9 HP9 HF9
 generalize SI:dF 4 mo.2=at_ at*
 have SK:=hid SI;clear SI
 have ks:w10.cell? ⟨f,6,none⟩=some (.int .u32 0):=wS.out.cell 6
 have fs:w10.frozen? ⟨f,6,none⟩=false:=wS.out.frozen 6
 have A8:=hid (show Blk (w10.setCell ⟨f,6,none⟩ (.int .u32 (at_.1:Int))) f 39 #[.int .u16 (ty.1:Int),.int .u32 (dv.1:Int),.int .u8 (qd.1.kind:Int),.int .u32 (qd.1.vers:Int),.int .u64 (qd.1.path:Int),.int .u32 (mo.1:Int),.int .u32 (at_.1:Int),.int .u32 0,.int .u64 0,.string ⟨#[]⟩,.string ⟨#[]⟩,.string ⟨#[]⟩,.string ⟨#[]⟩]from wS.out.aW 6 (.int .u32 (at_.1:Int)))
 have hso:=fun(S:Nat→Prop) (hS:S f)=>(Off.refl S w10).setCell (p:=⟨f,6,none⟩) hS (.int .u32 (at_.1:Int))
 have EW:=hid (CX.out.off (hso (fun i=>i=f) rfl) (by have:=HFN.out;have:=HQN.out;omega) (dZ wS.out (by decide)))
 have Qa:=hid ((hso (fun i=>i=f) rfl).blk SG.out (by have:=HFN.out;have:=HQN.out;have:=HQ.out;omega))
 have A_:=hid (C_.out.trans (hso _ (.inr (by have:=HFN.out;have:=HQN.out;have:=HQ.out;omega))))
 have Qb:=hid (SH.out.trans (hso _ (.inr (.inr HFN.out))))
 clear hso CX SG C_ SH wS
 go_wp2_with fail
 clear ks fs
 generalize w10.setCell ⟨f,6,none⟩ (.int .u32 (at_.1:Int))=w11 at EW Qa A_ Qb A8⊢
 refine(iZ EW.out).mono ?_
 rintro e w12 ⟨rfl,hs,hb⟩
 have wU:=hid hs
 have SL:=hid (hb.blk Qa.out (by have:=HQ.out;omega))
 have wV:=hid (A_.out.trans (hb.mono fun k _ hk=> .inr (by have:=HQ.out;have hk:k=q:=hk;omega)))
 have SN:=hid (Qb.out.trans (hb.mono fun k _ hk=> .inl hk))
 have wW:=hid (hb.blk A8.out (by have:=HFN.out;have:=HQN.out;omega))
 clear hs hb EW Qa A_ Qb A8
 generalize hmt:dF 4 at_.2=mt at*
 have U9:=hid hmt;clear hmt
 have ks:w12.cell? ⟨f,7,none⟩=some (.int .u32 0):=wW.out.cell 7
 have fs:w12.frozen? ⟨f,7,none⟩=false:=wW.out.frozen 7
 have Ba:=hid (show Blk (w12.setCell ⟨f,7,none⟩ (.int .u32 (mt.1:Int))) f 39 #[.int .u16 (ty.1:Int),.int .u32 (dv.1:Int),.int .u8 (qd.1.kind:Int),.int .u32 (qd.1.vers:Int),.int .u64 (qd.1.path:Int),.int .u32 (mo.1:Int),.int .u32 (at_.1:Int),.int .u32 (mt.1:Int),.int .u64 0,.string ⟨#[]⟩,.string ⟨#[]⟩,.string ⟨#[]⟩,.string ⟨#[]⟩]from wW.out.aW 7 (.int .u32 (mt.1:Int)))
 have hso:=fun(S:Nat→Prop) (hS:S f)=>(Off.refl S w12).setCell (p:=⟨f,7,none⟩) hS (.int .u32 (mt.1:Int))
 have EX:=hid (wU.out.off (hso (fun i=>i=f) rfl) (by have:=HFN.out;have:=HQN.out;omega) (dZ wW.out (by decide)))
 have Qc:=hid ((hso (fun i=>i=f) rfl).blk SL.out (by have:=HFN.out;have:=HQN.out;have:=HQ.out;omega))
 have yL:=hid (wV.out.trans (hso _ (.inr (by have:=HFN.out;have:=HQN.out;have:=HQ.out;omega))))
 have Qe:=hid (SN.out.trans (hso _ (.inr (.inr HFN.out))))
 clear hso wU SL wV SN wW
 go_wp2_with fail
 clear ks fs
 generalize w12.setCell ⟨f,7,none⟩ (.int .u32 (mt.1:Int))=w13 at EX Qc yL Qe Ba⊢
 refine(pG EX.out).mono ?_
 rintro e w14 ⟨rfl,hs,hb⟩
 have EY:=hid hs
 have SQ:=hid (hb.blk Qc.out (by have:=HQ.out;omega))
 have IX:=hid (yL.out.trans (hb.mono fun k _ hk=> .inr (by have:=HQ.out;have hk:k=q:=hk;omega)))
 have SS:=hid (Qe.out.trans (hb.mono fun k _ hk=> .inl hk))
 have wX:=hid (hb.blk Ba.out (by have:=HFN.out;have:=HQN.out;omega))
 clear hs hb EX Qc yL Qe Ba
 generalize hln:dF 8 mt.2=ln at*
 have U_:=hid hln;clear hln
 have ks:w14.cell? ⟨f,8,none⟩=some (.int .u64 0):=wX.out.cell 8
 have fs:w14.frozen? ⟨f,8,none⟩=false:=wX.out.frozen 8
 have Bc:=hid (show Blk (w14.setCell ⟨f,8,none⟩ (.int .u64 (ln.1:Int))) f 39 #[.int .u16 (ty.1:Int),.int .u32 (dv.1:Int),.int .u8 (qd.1.kind:Int),.int .u32 (qd.1.vers:Int),.int .u64 (qd.1.path:Int),.int .u32 (mo.1:Int),.int .u32 (at_.1:Int),.int .u32 (mt.1:Int),.int .u64 (ln.1:Int),.string ⟨#[]⟩,.string ⟨#[]⟩,.string ⟨#[]⟩,.string ⟨#[]⟩]from wX.out.aW 8 (.int .u64 (ln.1:Int)))
 have hso:=fun(S:Nat→Prop) (hS:S f)=>(Off.refl S w14).setCell (p:=⟨f,8,none⟩) hS (.int .u64 (ln.1:Int))
 have Dc:=hid (EY.out.off (hso (fun i=>i=f) rfl) (by have:=HFN.out;have:=HQN.out;omega) (dZ wX.out (by decide)))
 have Qg:=hid ((hso (fun i=>i=f) rfl).blk SQ.out (by have:=HFN.out;have:=HQN.out;have:=HQ.out;omega))
 have Df:=hid (IX.out.trans (hso _ (.inr (by have:=HFN.out;have:=HQN.out;have:=HQ.out;omega))))
 have Qh:=hid (SS.out.trans (hso _ (.inr (.inr HFN.out))))
 clear hso EY SQ IX SS wX
 go_wp2_with fail
 clear ks fs
 generalize w14.setCell ⟨f,8,none⟩ (.int .u64 (ln.1:Int))=w15 at Dc Qg Df Qh Bc⊢
 refine(jT (HRD.out.low (Df.out.below (B:=8) H0.out HRD.out.eight) (Nat.le_refl 8)) (by have:=HQ.out;have:=H8.out;omega) Dc.out).mono ?_
 rintro e w16 ⟨rfl,hs,hb⟩
 have EZ:=hid hs
 have SV:=hid (hb.blk Qg.out (by have:=HQ.out;omega))
 have IY:=hid (Df.out.trans (hb.mono fun k _ hk=> .inr (by have:=HQ.out;have hk:k=q:=hk;omega)))
 have SX:=hid (Qh.out.trans (hb.mono fun k _ hk=> .inl hk))
 have wY:=hid (hb.blk Bc.out (by have:=HFN.out;have:=HQN.out;omega))
 clear hs hb Dc Qg Df Qh Bc
 generalize ht1:bJ ln.2=t1 at*
 have Va:=hid ht1;clear ht1
 have ks:w16.cell? ⟨f,9,none⟩=some (.string ⟨#[]⟩):=wY.out.cell 9
 have fs:w16.frozen? ⟨f,9,none⟩=false:=wY.out.frozen 9
 have Bd:=hid (show Blk (w16.setCell ⟨f,9,none⟩ (.string t1.1)) f 39 #[.int .u16 (ty.1:Int),.int .u32 (dv.1:Int),.int .u8 (qd.1.kind:Int),.int .u32 (qd.1.vers:Int),.int .u64 (qd.1.path:Int),.int .u32 (mo.1:Int),.int .u32 (at_.1:Int),.int .u32 (mt.1:Int),.int .u64 (ln.1:Int),.string t1.1,.string ⟨#[]⟩,.string ⟨#[]⟩,.string ⟨#[]⟩]from wY.out.aW 9 (.string t1.1))
 have hso:=fun(S:Nat→Prop) (hS:S f)=>(Off.refl S w16).setCell (p:=⟨f,9,none⟩) hS (.string t1.1)
 have Dh:=hid (EZ.out.off (hso (fun i=>i=f) rfl) (by have:=HFN.out;have:=HQN.out;omega) (dZ wY.out (by decide)))
 have Qi:=hid ((hso (fun i=>i=f) rfl).blk SV.out (by have:=HFN.out;have:=HQN.out;have:=HQ.out;omega))
 have Di:=hid (IY.out.trans (hso _ (.inr (by have:=HFN.out;have:=HQN.out;have:=HQ.out;omega))))
 have Qj:=hid (SX.out.trans (hso _ (.inr (.inr HFN.out))))
 clear hso EZ SV IY SX wY
 go_wp2_with fail
 clear ks fs
 generalize w16.setCell ⟨f,9,none⟩ (.string t1.1)=w17 at Dh Qi Di Qj Bd⊢
 refine(jT (HRD.out.low (Di.out.below (B:=8) H0.out HRD.out.eight) (Nat.le_refl 8)) (by have:=HQ.out;have:=H8.out;omega) Dh.out).mono ?_
 rintro e w18 ⟨rfl,hs,hb⟩
 have Oi:=hid hs
 have SY:=hid (hb.blk Qi.out (by have:=HQ.out;omega))
 have KT:=hid (Di.out.trans (hb.mono fun k _ hk=> .inr (by have:=HQ.out;have hk:k=q:=hk;omega)))
 have S9:=hid (Qj.out.trans (hb.mono fun k _ hk=> .inl hk))
 have Dj:=hid (hb.blk Bd.out (by have:=HFN.out;have:=HQN.out;omega))
 clear hs hb Dh Qi Di Qj Bd
 generalize ht2:bJ t1.2=t2 at*
 have Vb:=hid ht2;clear ht2
 have ks:w18.cell? ⟨f,10,none⟩=some (.string ⟨#[]⟩):=Dj.out.cell 10
 have fs:w18.frozen? ⟨f,10,none⟩=false:=Dj.out.frozen 10
 have Qk:=hid (show Blk (w18.setCell ⟨f,10,none⟩ (.string t2.1)) f 39 #[.int .u16 (ty.1:Int),.int .u32 (dv.1:Int),.int .u8 (qd.1.kind:Int),.int .u32 (qd.1.vers:Int),.int .u64 (qd.1.path:Int),.int .u32 (mo.1:Int),.int .u32 (at_.1:Int),.int .u32 (mt.1:Int),.int .u64 (ln.1:Int),.string t1.1,.string t2.1,.string ⟨#[]⟩,.string ⟨#[]⟩]from Dj.out.aW 10 (.string t2.1))
 have hso:=fun(S:Nat→Prop) (hS:S f)=>(Off.refl S w18).setCell (p:=⟨f,10,none⟩) hS (.string t2.1)
 have Ql:=hid (Oi.out.off (hso (fun i=>i=f) rfl) (by have:=HFN.out;have:=HQN.out;omega) (dZ Dj.out (by decide)))
 have Qm:=hid ((hso (fun i=>i=f) rfl).blk SY.out (by have:=HFN.out;have:=HQN.out;have:=HQ.out;omega))
 have Oj:=hid (KT.out.trans (hso _ (.inr (by have:=HFN.out;have:=HQN.out;have:=HQ.out;omega))))
 have Qn:=hid (S9.out.trans (hso _ (.inr (.inr HFN.out))))
 clear hso Oi SY KT S9 Dj
 go_wp2_with fail
 clear ks fs
 generalize w18.setCell ⟨f,10,none⟩ (.string t2.1)=w19 at Ql Qm Oj Qn Qk⊢
 refine(jT (HRD.out.low (Oj.out.below (B:=8) H0.out HRD.out.eight) (Nat.le_refl 8)) (by have:=HQ.out;have:=H8.out;omega) Ql.out).mono ?_
 rintro e w20 ⟨rfl,hs,hb⟩
 have S_:=hid hs
 have Tc:=hid (hb.blk Qm.out (by have:=HQ.out;omega))
 have Td:=hid (Oj.out.trans (hb.mono fun k _ hk=> .inr (by have:=HQ.out;have hk:k=q:=hk;omega)))
 have Tf:=hid (Qn.out.trans (hb.mono fun k _ hk=> .inl hk))
 have KU:=hid (hb.blk Qk.out (by have:=HFN.out;have:=HQN.out;omega))
 clear hs hb Ql Qm Oj Qn Qk
 generalize ht3:bJ t2.2=t3 at*
 have Vd:=hid ht3;clear ht3
 have ks:w20.cell? ⟨f,11,none⟩=some (.string ⟨#[]⟩):=KU.out.cell 11
 have fs:w20.frozen? ⟨f,11,none⟩=false:=KU.out.frozen 11
 have Qo:=hid (show Blk (w20.setCell ⟨f,11,none⟩ (.string t3.1)) f 39 #[.int .u16 (ty.1:Int),.int .u32 (dv.1:Int),.int .u8 (qd.1.kind:Int),.int .u32 (qd.1.vers:Int),.int .u64 (qd.1.path:Int),.int .u32 (mo.1:Int),.int .u32 (at_.1:Int),.int .u32 (mt.1:Int),.int .u64 (ln.1:Int),.string t1.1,.string t2.1,.string t3.1,.string ⟨#[]⟩]from KU.out.aW 11 (.string t3.1))
 have hso:=fun(S:Nat→Prop) (hS:S f)=>(Off.refl S w20).setCell (p:=⟨f,11,none⟩) hS (.string t3.1)
 have Qp:=hid (S_.out.off (hso (fun i=>i=f) rfl) (by have:=HFN.out;have:=HQN.out;omega) (dZ KU.out (by decide)))
 have Qq:=hid ((hso (fun i=>i=f) rfl).blk Tc.out (by have:=HFN.out;have:=HQN.out;have:=HQ.out;omega))
 have Ol:=hid (Td.out.trans (hso _ (.inr (by have:=HFN.out;have:=HQN.out;have:=HQ.out;omega))))
 have Qr:=hid (Tf.out.trans (hso _ (.inr (.inr HFN.out))))
 clear hso S_ Tc Td Tf KU
 go_wp2_with fail
 clear ks fs
 generalize w20.setCell ⟨f,11,none⟩ (.string t3.1)=w21 at Qp Qq Ol Qr Qo⊢
 refine(jT (HRD.out.low (Ol.out.below (B:=8) H0.out HRD.out.eight) (Nat.le_refl 8)) (by have:=HQ.out;have:=H8.out;omega) Qp.out).mono ?_
 rintro e w22 ⟨rfl,hs,hb⟩
 have Ti:=hid hs
 have Tj:=hid (hb.blk Qq.out (by have:=HQ.out;omega))
 have Tm:=hid (Ol.out.trans (hb.mono fun k _ hk=> .inr (by have:=HQ.out;have hk:k=q:=hk;omega)))
 have Tn:=hid (Qr.out.trans (hb.mono fun k _ hk=> .inl hk))
 have KW:=hid (hb.blk Qo.out (by have:=HFN.out;have:=HQN.out;omega))
 clear hs hb Qp Qq Ol Qr Qo
 generalize ht4:bJ t3.2=t4 at*
 have Ve:=hid ht4;clear ht4
 have ks:w22.cell? ⟨f,12,none⟩=some (.string ⟨#[]⟩):=KW.out.cell 12
 have fs:w22.frozen? ⟨f,12,none⟩=false:=KW.out.frozen 12
 have Qs:=hid (show Blk (w22.setCell ⟨f,12,none⟩ (.string t4.1)) f 39 #[.int .u16 (ty.1:Int),.int .u32 (dv.1:Int),.int .u8 (qd.1.kind:Int),.int .u32 (qd.1.vers:Int),.int .u64 (qd.1.path:Int),.int .u32 (mo.1:Int),.int .u32 (at_.1:Int),.int .u32 (mt.1:Int),.int .u64 (ln.1:Int),.string t1.1,.string t2.1,.string t3.1,.string t4.1]from KW.out.aW 12 (.string t4.1))
 have hso:=fun(S:Nat→Prop) (hS:S f)=>(Off.refl S w22).setCell (p:=⟨f,12,none⟩) hS (.string t4.1)
 have Qu:=hid (Ti.out.off (hso (fun i=>i=f) rfl) (by have:=HFN.out;have:=HQN.out;omega) (dZ KW.out (by decide)))
 have Qv:=hid ((hso (fun i=>i=f) rfl).blk Tj.out (by have:=HFN.out;have:=HQN.out;have:=HQ.out;omega))
 have Qw:=hid (Tm.out.trans (hso _ (.inr (by have:=HFN.out;have:=HQN.out;have:=HQ.out;omega))))
 have Qx:=hid (Tn.out.trans (hso _ (.inr (.inr HFN.out))))
 clear hso Ti Tj Tm Tn KW
 go_wp2_with fail
 clear ks fs
 generalize w22.setCell ⟨f,12,none⟩ (.string t4.1)=w23 at Qu Qv Qw Qx Qs⊢
 refine(zo Qu.out).mono ?_
 rintro e w24 ⟨rfl,hs,hb⟩
 have Tq:=hid hs
 have Qy:=hid (hb.blk Qv.out (by have:=HQ.out;omega))
 have Tt:=hid (Qw.out.trans (hb.mono fun k _ hk=> .inr (by have:=HQ.out;have hk:k=q:=hk;omega)))
 have Tv:=hid (Qx.out.trans (hb.mono fun k _ hk=> .inl hk))
 have Qz:=hid (hb.blk Qs.out (by have:=HFN.out;have:=HQN.out;omega))
 clear hs hb Qu Qv Qw Qx Qs
 have Tz:=hid (show recC ps=(⟨ty.1,dv.1,qd.1,mo.1,at_.1,mt.1,ln.1,t1.1,t2.1,t3.1,t4.1⟩,AX t4.2)from by
  unfold recC
  simp only[U5.out,U6.out,U7.out,U8.out,SK.out,U9.out,U_.out,Va.out,Vb.out,Vd.out,Ve.out])
 go_wp2_with fail
 refine(sS Tq.out).mono ?_
 rintro e w25 ⟨⟨er,wh,rfl,he⟩,hs,hb⟩
 have QA:=hid (Blk.below Qy.out hb (Blk.lt Qy.out))
 have Vf:=hid (Blk.below Qz.out hb (Blk.lt Qz.out))
 have TA:=hid (Tt.out.trans (Off.of_below hb))
 have TB:=hid (HPS.out.off (Tv.out.trans (Off.of_below hb)) (by have:=HLT.out;have:=HQ.out;have:=HN1.out;have:=HQN.out;omega) HNU.out)
 clear hs hb Tq Qy Qz Tt Tv
 cases hE:AX t4.2 with
 |none=>
  rw[hE]at he
  have hne0:er≠0:=fun h0=>by have h1:=he.1 h0;cases h1
  have hne:((er:Int) != 0)=true:=by rw[bne_iff_ne];omega
  have HT:=hid (show mQ st=(zst,none)from by
   unfold mQ
   rw[HPO.out.1,Tz.out]
   dsimp only
   rw[hE])
  have HER:=hid hne0
  clear he hE hne0
  go_wp2_with fail
  refine(ou er HER.out TB.out).mono ?_
  rintro e w26 ⟨rfl,hs,hb⟩
  have Vg:=hid hs
  have TD:=hid (hb.blk QA.out (by have:=HLT.out;omega))
  have Vh:=hid (TA.out.trans hb.toN)
  clear hs hb
  go_wp2_with(refine dA TD.out 0 [.int .u16 0,.int .u32 0,.int .u8 0,.int .u32 0,.int .u64 0,.int .u32 0,.int .u32 0,.int .u32 0,.int .u64 0,.string ⟨#[]⟩,.string ⟨#[]⟩,.string ⟨#[]⟩,.string ⟨#[]⟩] #[.int .u16 0,.int .u32 0,.int .u8 0,.int .u32 0,.int .u64 0,.int .u32 0,.int .u32 0,.int .u32 0,.int .u64 0,.string ⟨#[]⟩,.string ⟨#[]⟩,.string ⟨#[]⟩,.string ⟨#[]⟩] (kK ..) (Nat.le_refl 13) (lJ ..) rfl _ _ _ rfl rfl rfl bP ?_;intro wz hs ho;have HBz:=hid hs;have HOz:=hid (ho (fun i=>i=p∨z≤i) (.inr (Nat.le_refl _)) w Vh.out);have HSz:=hid (Vg.out.off (ho (fun i=>i=z) rfl w26 (Off.refl _ _)) (by have:=HLT.out;omega) (dZ TD.out (by decide)));clear hs ho)
  refine bodyPost_ret (bf (l:=[.int .u16 0,.int .u32 0,.int .u8 0,.int .u32 0,.int .u64 0,.int .u32 0,.int .u32 0,.int .u32 0,.int .u64 0,.string ⟨#[]⟩,.string ⟨#[]⟩,.string ⟨#[]⟩,.string ⟨#[]⟩]) rfl Tryz.underlying39 rfl bP rfl HBz.out) rfl ⟨?_, ?_,HOz.out.toR (by have:=HZ.out;omega)⟩
  ·rw[HT.out];try rfl
  ·rw[HT.out]
   exact HSz.out
 |some y=>
  rw[hE]at he
  have hne:((er:Int) != 0)=false:=by rw[he.2 rfl];rfl
  have HT:=hid (show mQ st=(⟨ty.1,dv.1,qd.1,mo.1,at_.1,mt.1,ln.1,t1.1,t2.1,t3.1,t4.1⟩,rs)from by
   unfold mQ
   rw[HPO.out.1,Tz.out]
   dsimp only
   rw[hE,HPO.out.2])
  clear he hE
  go_wp2_with(first|(refine wlw Vf.out 0 [.int .u16 (ty.1:Int),.int .u32 (dv.1:Int),.int .u8 (qd.1.kind:Int),.int .u32 (qd.1.vers:Int),.int .u64 (qd.1.path:Int),.int .u32 (mo.1:Int),.int .u32 (at_.1:Int),.int .u32 (mt.1:Int),.int .u64 (ln.1:Int),.string t1.1,.string t2.1,.string t3.1,.string t4.1] rfl rfl _ _ rfl rfl _ Tryz.underlying39 rfl bP ?_)|(refine dA QA.out 0 [.int .u16 (ty.1:Int),.int .u32 (dv.1:Int),.int .u8 (qd.1.kind:Int),.int .u32 (qd.1.vers:Int),.int .u64 (qd.1.path:Int),.int .u32 (mo.1:Int),.int .u32 (at_.1:Int),.int .u32 (mt.1:Int),.int .u64 (ln.1:Int),.string t1.1,.string t2.1,.string t3.1,.string t4.1] #[.int .u16 (ty.1:Int),.int .u32 (dv.1:Int),.int .u8 (qd.1.kind:Int),.int .u32 (qd.1.vers:Int),.int .u64 (qd.1.path:Int),.int .u32 (mo.1:Int),.int .u32 (at_.1:Int),.int .u32 (mt.1:Int),.int .u64 (ln.1:Int),.string t1.1,.string t2.1,.string t3.1,.string t4.1] (kK ..) (Nat.le_refl 13) (lJ ..) rfl _ _ _ rfl rfl rfl bP ?_;intro wz hs ho;have HBz:=hid hs;have HOz:=hid (ho (fun i=>i=p∨z≤i) (.inr (Nat.le_refl _)) w TA.out);have HSz:=hid (TB.out.off (ho (fun i=>i=z) rfl w25 (Off.refl _ _)) (by have:=HLT.out;omega) (dZ QA.out (by decide)));clear hs ho))
  refine bodyPost_ret (bf (l:=[.int .u16 (ty.1:Int),.int .u32 (dv.1:Int),.int .u8 (qd.1.kind:Int),.int .u32 (qd.1.vers:Int),.int .u64 (qd.1.path:Int),.int .u32 (mo.1:Int),.int .u32 (at_.1:Int),.int .u32 (mt.1:Int),.int .u64 (ln.1:Int),.string t1.1,.string t2.1,.string t3.1,.string t4.1]) rfl Tryz.underlying39 rfl bP rfl HBz.out) rfl ⟨?_, ?_,HOz.out.toR (by have:=HZ.out;omega)⟩
  ·rw[HT.out];try rfl
  ·rw[HT.out]
   exact HSz.out
theorem wZ{w:World}{p:Nat}{bv:Value}{l:List UInt8}{st:Option (List UInt8)}(hr:Ready w)(h8:8≤p)(h:RdS w p bv l st):
  Calls Tryz.prog 237 #[.pointer (some ⟨p,0,none⟩)] w fun e w'=>e= .returned (stV (stO st).1)∧RdS w' p bv l (stO st).2∧jF p w w':=by
 have HB:=hid (Blk.new w 39 #[.int .u16 0,.int .u32 0,.int .u8 0,.int .u32 0,.int .u64 0,.int .u32 0,.int .u32 0,.int .u32 0,.int .u64 0,.string ⟨#[]⟩,.string ⟨#[]⟩,.string ⟨#[]⟩,.string ⟨#[]⟩])
 have HS:=hid (h.below ((Below.refl _ _).alloc (Nat.le_refl _) (.cells #[.int .u16 0,.int .u32 0,.int .u8 0,.int .u32 0,.int .u64 0,.int .u32 0,.int .u32 0,.int .u32 0,.int .u64 0,.string ⟨#[]⟩,.string ⟨#[]⟩,.string ⟨#[]⟩,.string ⟨#[]⟩] 39)))
 have HO:=hid ((Off.refl (fun i=>i=p∨w.heap.size≤i) w).alloc (.cells #[.int .u16 0,.int .u32 0,.int .u8 0,.int .u32 0,.int .u64 0,.int .u32 0,.int .u32 0,.int .u32 0,.int .u64 0,.string ⟨#[]⟩,.string ⟨#[]⟩,.string ⟨#[]⟩,.string ⟨#[]⟩] 39))
 have HRD:=hid hr
 have HLT:=hid h.lt
 have H8:=hid (And.intro h8 hr.eight)
 clear h hr h8
 go_enter Tryz.func237,Tryz.ntmps237
 go_upto_region 1 with(fail)
 generalize w.alloc (.cells #[.int .u16 0,.int .u32 0,.int .u8 0,.int .u32 0,.int .u64 0,.int .u32 0,.int .u32 0,.int .u32 0,.int .u64 0,.string ⟨#[]⟩,.string ⟨#[]⟩,.string ⟨#[]⟩,.string ⟨#[]⟩] 39)=w0 at HS HB HO⊢
 generalize hz:w.heap.size=z at HB HLT HO H8⊢
 have HZ:=hid hz;clear hz
 have H0:=hid (show∀i,i=p∨z≤i→8≤i from fun i hi=>by have:=H8.out;omega)
 go_wp2_with fail
 refine(kE HS.out).mono ?_
 rintro e w1 ⟨rfl,hs,hb⟩
 have HS1:=hid hs
 have HB1:=hid (hb.blk HB.out (by have:=HLT.out;omega))
 have HO1:=hid (HO.out.trans hb.toN)
 clear hs hb HS HB HO
 go_wp2_with fail
 refine(ES HS1.out).mono ?_
 rintro e w2 ⟨rfl,hs,hb⟩
 have HS2:=hid hs
 have HB2:=hid (Blk.below HB1.out hb (Blk.lt HB1.out))
 have HO2:=hid (HO1.out.trans (Off.of_below hb))
 clear hs hb HS1 HB1 HO1
 generalize hA:dF 2 st=A at*
 have hAl:A.1<65536:=by rw[←hA];exact uX 2 st
 have HA:=hid hA;clear hA
 obtain⟨n,rs⟩:=A
 have hw:wrap64 (n:Int)=(n:Int):=IntWalk.wrap64_in _ (by have:n<65536:=hAl;omega)
 clear hAl
 dsimp only at HS2⊢
 by_cases hn:n=(rs.getD []).length
 ·have HT:=hid (show mQ rs=stO st from by
   unfold stO
   rw[HA.out]
   dsimp only
   cases rs with
   |none=>rfl
   |some r=>dsimp only;rw[if_pos (show n=r.length from hn)])
  have hne:((n:Int) != (((rs.getD []).length:Nat):Int))=false:=by rw[hn];simp
  clear hn
  go_wp2_with fail
  refine(wR (HRD.out.low (HO2.out.below (B:=8) H0.out HRD.out.eight) (Nat.le_refl 8)) H8.out.1 HS2.out).mono ?_
  rw[HT.out]
  rintro e w3 ⟨rfl,hs,hb⟩
  have HS3:=hid hs
  have HB3:=hid (hb.blk HB2.out (by have:=HLT.out;omega))
  have HO3:=hid (HO2.out.trans hb.toN)
  clear hs hb HS2 HB2 HO2
  go_wp2_with(refine dA HB3.out 0 (stL (stO st).1) (stL (stO st).1).toArray (kK ..) (Nat.le_refl 13) (lJ ..) rfl _ _ _ rfl rfl rfl bP ?_;intro wz hs ho;have HBz:=hid hs;have HOz:=hid (ho (fun i=>i=p∨z≤i) (.inr (Nat.le_refl _)) w HO3.out);have HSz:=hid (HS3.out.off (ho (fun i=>i=z) rfl w3 (Off.refl _ _)) (by have:=HLT.out;omega) (dZ HB3.out (by decide)));clear hs ho)
  exact bodyPost_ret (bf (l:=stL (stO st).1) rfl Tryz.underlying39 rfl bP rfl HBz.out) rfl ⟨rfl,HSz.out,HOz.out.toR (by have:=HZ.out;omega)⟩
 ·have HT:=hid (show stO st=(zst,none)from by
   unfold stO
   rw[HA.out]
   dsimp only
   cases rs with
   |none=>rfl
   |some r=>dsimp only;rw[if_neg (show¬n=r.length from hn)])
  have hne:((n:Int) != (((rs.getD []).length:Nat):Int))=true:=by rw[bne_iff_ne];omega
  clear hn
  go_wp2_with fail
  refine(ou 33 (by decide) HS2.out).mono ?_
  rintro e w3 ⟨rfl,hs,hb⟩
  have HS3:=hid hs
  have HB3:=hid (hb.blk HB2.out (by have:=HLT.out;omega))
  have HO3:=hid (HO2.out.trans hb.toN)
  clear hs hb HS2 HB2 HO2
  go_wp2_with fail
  refine(wR (HRD.out.low (HO3.out.below (B:=8) H0.out HRD.out.eight) (Nat.le_refl 8)) H8.out.1 HS3.out).mono ?_
  rw[show mQ none=(zst,none)from rfl]
  rintro e w4 ⟨rfl,hs,hb⟩
  have HS4:=hid hs
  have HB4:=hid (hb.blk HB3.out (by have:=HLT.out;omega))
  have HO4:=hid (HO3.out.trans hb.toN)
  clear hs hb HS3 HB3 HO3
  go_wp2_with(refine dA HB4.out 0 (stL zst) (stL zst).toArray (kK ..) (Nat.le_refl 13) (lJ ..) rfl _ _ _ rfl rfl rfl bP ?_;intro wz hs ho;have HBz:=hid hs;have HOz:=hid (ho (fun i=>i=p∨z≤i) (.inr (Nat.le_refl _)) w HO4.out);have HSz:=hid (HS4.out.off (ho (fun i=>i=z) rfl w4 (Off.refl _ _)) (by have:=HLT.out;omega) (dZ HB4.out (by decide)));clear hs ho)
  rw[HT.out]
  exact bodyPost_ret (bf (l:=stL zst) rfl Tryz.underlying39 rfl bP rfl HBz.out) rfl ⟨rfl,HSz.out,HOz.out.toR (by have:=HZ.out;omega)⟩
end Go.Proofs.YtkblmloobkiloaaGreatDoor
