/-
  MRW MWA MUL MUA MUB MUC MUD MTP MPC MPD MPF MPE: what the laws of package msg need of them.
-/
import Derived.Test.YtkblmloobkiloaaGreatDoorK00
import Derived.Test.YtkblmloobkiloaaGreatDoorK11
import Derived.Test.YtkblmloobkiloaaGreatDoorK07
import Derived.IntWalk
import Derived.Test.YtkblmloobkiloaaGreatDoorK08
import Derived.Test.YtkblmloobkiloaaGreatDoorK09
import Derived.Laws.RangeString
set_option maxRecDepth 100000
set_option maxHeartbeats 6400000
namespace Go.Proofs.YtkblmloobkiloaaGreatDoor
open Go.Lib (hid)
open Go.RowKit
theorem jL(f:Fld)(w:World):Calls Tryz.prog 91 #[.int .u8 (f.rX.toNat:Int)] w fun e w'=>e= .returned (.int .i64 (f.width:Int))∧w=w':=by
 obtain⟨i,hi⟩:∃i:Int,i=(f.rX.toNat:Int):=⟨_,rfl⟩
 rw[←hi]
 cases f
 all_goals as_aux_lemma=>
  simp[Fld.rX]at hi
  subst hi
  go_enter Tryz.func91,Tryz.ntmps91
  go_wp2_with fail
  go_ret
  exact⟨rfl,rfl⟩
theorem jV(f:Fld)(w:World):Calls Tryz.prog 93 #[.int .u8 (f.rX.toNat:Int)] w fun e w'=>e= .returned (.bool f.isText)∧w=w':=by
 obtain⟨i,hi⟩:∃i:Int,i=(f.rX.toNat:Int):=⟨_,rfl⟩
 rw[←hi]
 cases f
 all_goals as_aux_lemma=>
  simp[Fld.rX]at hi
  subst hi
  go_enter Tryz.func93,Tryz.ntmps93
  go_wp2_with fail
  go_ret
  exact⟨rfl,rfl⟩
def Fld.cx:Fld→Nat
 | .bI=>2
 | .dB=>4
 | .fid=>9
 | .aU=>10
 | .aQ=>17
 | .perm=>19
 | .count=>21
 | .aT=>8
 | .mode=>16
 | .offset=>20
 | .version=>3
 | .uname=>5
 | .bF=>6
 | .bH=>7
 | .name=>18
 |_=>0
def Fld.ik:Fld→IntKind
 | .aT=> .u16| .mode=> .u8| .offset=> .u64|_=> .u32
def Pz(m:Mg)(vn vq vd:Value)(w:World)(e:Ending)(w':World):Prop:=e= .returned (iM m vn vq vd)∧Below w.heap.size w w'
theorem uZ(w:World)(m:Mg)(vn vq vd:Value):Below w.heap.size w ((w.alloc (.cells (aF m vn vq vd).toArray 41)).alloc (.cells (mgN (head 0 0)).toArray 41))∧aK ((w.alloc (.cells (aF m vn vq vd).toArray 41)).alloc (.cells (mgN (head 0 0)).toArray 41)) w.heap.size m vn vq vd∧aK ((w.alloc (.cells (aF m vn vq vd).toArray 41)).alloc (.cells (mgN (head 0 0)).toArray 41)) (w.heap.size+1) (head 0 0) (.slice none 0 0) (.slice none 0 0) (.slice none 0 0):=by
 refine⟨((Below.refl _ _).alloc (Nat.le_refl _) _).alloc (by rw[World.size_alloc];omega) _,(Blk.new w _ _).alloc _, ?_⟩
 have h:aK ((w.alloc (.cells (aF m vn vq vd).toArray 41)).alloc (.cells (mgN (head 0 0)).toArray 41)) (w.alloc (.cells (aF m vn vq vd).toArray 41)).heap.size (head 0 0) (.slice none 0 0) (.slice none 0 0) (.slice none 0 0):=Blk.new _ _ _
 rwa[World.size_alloc]at h
theorem uT(f:Fld)(hf:0<f.width)(n:Nat)(hn:n<256^f.width)(m:Mg)(vn vq vd:Value)(h1:vn.oneCell'=true)(h2:vq.oneCell'=true)(h3:vd.oneCell'=true)(w:World):Calls Tryz.prog 92 #[iM m vn vq vd,.int .u8 (f.rX.toNat:Int),.int .u64 (n:Int)] w (Pz (m.aG n f) vn vq vd w):=by
 obtain⟨hu,hm,hz⟩:=uZ w m vn vq vd
 have HU:=hid hu
 have HM:=hid hm
 have HZ:=hid hz
 clear hu hm hz
 obtain⟨i,hi⟩:∃i:Int,i=(f.rX.toNat:Int):=⟨_,rfl⟩
 rw[←hi]
 obtain⟨M,hM⟩:∃M,M=m.aG n f:=⟨_,rfl⟩
 rw[←hM]
 have HS:=hid (show∀w z,aK w z m vn vq vd→aK (w.setCell ⟨z,f.cx,none⟩ (.int f.ik (n:Int))) z M vn vq vd from fun w z h=>by
  rw[hM]
  cases f<;>first|exact absurd hf (by decide)|exact Blk.aW h _ _)
 have HK:=hid (show∀w z,aK w z m vn vq vd→w.cell? ⟨z,f.cx,none⟩=some (.int f.ik (m.num f:Int))∧w.frozen? ⟨z,f.cx,none⟩=false from fun w z h=>by
  cases f<;>first|exact absurd hf (by decide)|exact⟨Blk.cell h _,Blk.frozen h _⟩)
 clear hM
 have hw:f.ik.wrap (n:Int)=(n:Int):=by
  cases f<;>first|exact absurd hf (by decide)|(simp[Fld.width]at hn;simp only[Fld.ik];(first|rw[IntKind.wrap_u32]|rw[IntKind.wrap_u16]|rw[IntKind.wrap_u8]|rw[IntKind.wrap_u64]);omega)
 cases f
 all_goals try exact absurd hf (by decide)
 all_goals as_aux_lemma=>
  simp[Fld.rX]at hi
  subst hi
  simp[Fld.width]at hn
  simp only[Fld.ik]at hw
  go_enter Tryz.func92,Tryz.ntmps92
  go_upto_region 1 with(fail)
  change Code.wp _ _ _ _ ((w.alloc (.cells (aF m vn vq vd).toArray 41)).alloc (.cells (mgN (head 0 0)).toArray 41))
  generalize(w.alloc (.cells (aF m vn vq vd).toArray 41)).alloc (.cells (mgN (head 0 0)).toArray 41)=w1 at HU HM HZ⊢
  generalize hq:w.heap.size+1=q at HZ⊢
  have HQ:=hid hq;clear hq
  generalize hz:w.heap.size=z at HM HU⊢
  have HZZ:=hid hz;clear hz
  obtain⟨k1,f1⟩:=HK.out w1 z HM.out
  have ht:=HS.out w1 z HM.out
  simp only[Fld.cx,Fld.ik,Mg.num]at k1 f1 ht
  have HT:=hid ht;clear ht
  have hne:q≠z:=by have:=HQ.out;have:=HZZ.out;omega
  have HZ2:=hid (show∀o v,aK (w1.setCell ⟨z,o,none⟩ v) q (head 0 0) (.slice none 0 0) (.slice none 0 0) (.slice none 0 0)from fun o v=>Blk.far HZ.out hne _)
  have HU2:=hid (show∀o v,Below z w (w1.setCell ⟨z,o,none⟩ v)from fun o v=>HU.out.setCell (Nat.le_refl _) _)
  clear hne
  go_wp2_with(first|(refine wlw HT.out 0 (aF M vn vq vd) rfl rfl _ _ rfl rfl _ Tryz.underlying41 rfl aB ?_)|(refine dA (HZ2.out _ _) 0 (aF M vn vq vd) _ (bW ..) (Nat.le_refl 36) (bT _ h1 h2 h3) rfl _ _ _ rfl rfl rfl aB ?_;intro wz hs ho;have HZF:=hid hs;have HOF:=hid ((ho (fun i=>i=q) rfl _ (Off.refl _ _)).below (B:=z) (fun i hi=>(by have hi:i=q:=hi;have:=HQ.out;have:=HZZ.out;omega)) (by have:=Blk.lt HT.out;omega));clear hs ho))
  refine bodyPost_ret (bf (l:=aF M vn vq vd) rfl Tryz.underlying41 rfl aB rfl HZF.out) rfl ⟨rfl, ?_⟩
  rw[HZZ.out]
  exact(HU2.out _ _).trans HOF.out
theorem yP(f:Fld)(hf:f.isText=true)(s:ByteArray)(m:Mg)(vn vq vd:Value)(h1:vn.oneCell'=true)(h2:vq.oneCell'=true)(h3:vd.oneCell'=true)(w:World):Calls Tryz.prog 95 #[iM m vn vq vd,.int .u8 (f.rX.toNat:Int),.string s] w (Pz (m.bV s f) vn vq vd w):=by
 obtain⟨hu,hm,hz⟩:=uZ w m vn vq vd
 have HU:=hid hu
 have HM:=hid hm
 have HZ:=hid hz
 clear hu hm hz
 obtain⟨i,hi⟩:∃i:Int,i=(f.rX.toNat:Int):=⟨_,rfl⟩
 rw[←hi]
 obtain⟨M,hM⟩:∃M,M=m.bV s f:=⟨_,rfl⟩
 rw[←hM]
 have HS:=hid (show∀w z,aK w z m vn vq vd→aK (w.setCell ⟨z,f.cx,none⟩ (.string s)) z M vn vq vd from fun w z h=>by
  rw[hM]
  cases f<;>first|exact absurd hf (by decide)|exact Blk.aW h _ _)
 have HK:=hid (show∀w z,aK w z m vn vq vd→w.cell? ⟨z,f.cx,none⟩=some (.string (m.txt f))∧w.frozen? ⟨z,f.cx,none⟩=false from fun w z h=>by
  cases f<;>first|exact absurd hf (by decide)|exact⟨Blk.cell h _,Blk.frozen h _⟩)
 clear hM
 cases f
 all_goals try exact absurd hf (by decide)
 all_goals as_aux_lemma=>
  simp[Fld.rX]at hi
  subst hi
  go_enter Tryz.func95,Tryz.ntmps95
  go_upto_region 1 with(fail)
  change Code.wp _ _ _ _ ((w.alloc (.cells (aF m vn vq vd).toArray 41)).alloc (.cells (mgN (head 0 0)).toArray 41))
  generalize(w.alloc (.cells (aF m vn vq vd).toArray 41)).alloc (.cells (mgN (head 0 0)).toArray 41)=w1 at HU HM HZ⊢
  generalize hq:w.heap.size+1=q at HZ⊢
  have HQ:=hid hq;clear hq
  generalize hz:w.heap.size=z at HM HU⊢
  have HZZ:=hid hz;clear hz
  obtain⟨k1,f1⟩:=HK.out w1 z HM.out
  have ht:=HS.out w1 z HM.out
  simp only[Fld.cx,Mg.txt]at k1 f1 ht
  have HT:=hid ht;clear ht
  have hne:q≠z:=by have:=HQ.out;have:=HZZ.out;omega
  have HZ2:=hid (show∀o v,aK (w1.setCell ⟨z,o,none⟩ v) q (head 0 0) (.slice none 0 0) (.slice none 0 0) (.slice none 0 0)from fun o v=>Blk.far HZ.out hne _)
  have HU2:=hid (show∀o v,Below z w (w1.setCell ⟨z,o,none⟩ v)from fun o v=>HU.out.setCell (Nat.le_refl _) _)
  clear hne
  go_wp2_with(first|(refine wlw HT.out 0 (aF M vn vq vd) rfl rfl _ _ rfl rfl _ Tryz.underlying41 rfl aB ?_)|(refine dA (HZ2.out _ _) 0 (aF M vn vq vd) _ (bW ..) (Nat.le_refl 36) (bT _ h1 h2 h3) rfl _ _ _ rfl rfl rfl aB ?_;intro wz hs ho;have HZF:=hid hs;have HOF:=hid ((ho (fun i=>i=q) rfl _ (Off.refl _ _)).below (B:=z) (fun i hi=>(by have hi:i=q:=hi;have:=HQ.out;have:=HZZ.out;omega)) (by have:=Blk.lt HT.out;omega));clear hs ho))
  refine bodyPost_ret (bf (l:=aF M vn vq vd) rfl Tryz.underlying41 rfl aB rfl HZF.out) rfl ⟨rfl, ?_⟩
  rw[HZZ.out]
  exact(HU2.out _ _).trans HOF.out
theorem acZ(m:Mg)(vn vq vd:Value)(w:World)(hl:Lists w w.heap.size m vn vq vd)(hs:m.small):Calls Tryz.prog 30 #[iM m vn vq vd] w (ado m w):=by
 obtain⟨hu,hm,hz⟩:=uZ w m vn vq vd
 have HU:=hid hu
 have HM:=hid hm
 have HZ:=hid hz
 have HL:=hid (hl.below hu)
 have HN:=hid (And.intro hs.names (And.intro hs.aV hs.data))
 clear hu hm hz hs hl
 obtain⟨An,cn,rfl, -, -,hrn⟩:=HL.out.n
 obtain⟨Aq,cq,rfl, -, -,hrq⟩:=HL.out.q
 obtain⟨Ad,cd,rfl, -, -,hrd⟩:=HL.out.d
 have HRN:=hid hrn
 have HRQ:=hid hrq
 have HRD:=hid hrd
 clear hrn hrq hrd HL
 go_enter Tryz.func30,Tryz.ntmps30
 go_upto_region 4 with(fail)
 change Code.wp _ _ _ _ ((w.alloc (.cells (aF m (.slice An m.names.length cn) (.slice Aq m.aV.length cq) (.slice Ad m.data.length cd)).toArray 41)).alloc (.cells (mgN (head 0 0)).toArray 41))
 generalize(w.alloc (.cells (aF m (.slice An m.names.length cn) (.slice Aq m.aV.length cq) (.slice Ad m.data.length cd)).toArray 41)).alloc (.cells (mgN (head 0 0)).toArray 41)=w1 at HU HM HZ HRN HRQ HRD⊢
 generalize hq:w.heap.size+1=q at HZ⊢
 have HQ:=hid hq;clear hq
 generalize hz:w.heap.size=z at HM HU HRN HRQ HRD⊢
 have HZZ:=hid hz;clear hz
 have HS1:=hid (show q<w1.heap.size from Blk.lt HZ.out)
 have HBZ:=hid (show z+1=q from by rw[←HZZ.out];exact HQ.out)
 obtain⟨bs,hbs⟩:∃b,b=w1.heap.size:=⟨_,rfl⟩
 have HBS:=hid hbs;clear hbs
 have k0:w1.cell? ⟨z,11,none⟩=some (.slice An m.names.length cn):=Blk.cell HM.out 11
 have afh:=hid (show([]:List ByteArray).length+m.names.length≤8796093022207 from by have:=HN.out.1;simp only[List.length_nil];omega)
 have aee:=hid (show bs≤w1.heap.size from Nat.le_of_eq HBS.out)
 go_upto_region 5 with(at_builtin;refine oQ (.tmp 6) (.tmp 8) rfl rfl bs (.slice none 0 0) [] rfl (dS _ _ _ _) z An cn m.names rfl HRN.out afh.out aee.out ?_;intro vn w2a hown hgr hor;have hown:w2a.ownsRow bs 9 1 vn m.names.length (h_ m.names):=hown;obtain⟨vnA,vnc,rfl, -⟩:=aJ hown;have HO2:=hid hown;have HG2:=hid ((Below.refl w1.heap.size w1).grown hgr (Nat.le_refl _) (fun g hg=>(by cases hg)));clear hown hgr hor k0;have aep:=hid (Blk.below HM.out HG2.out (Blk.lt HM.out));have k1:w2a.cell? ⟨z,11,none⟩=some (.slice An m.names.length cn):=Blk.cell aep.out 11;have f1:w2a.frozen? ⟨z,11,none⟩=false:=Blk.frozen aep.out 11)
 clear k1 f1
 have HM2:=hid (show aK (w2a.setCell ⟨z,11,none⟩ (.slice vnA m.names.length vnc)) z m (.slice vnA m.names.length vnc) (.slice Aq m.aV.length cq) (.slice Ad m.data.length cd)from Blk.aW aep.out 11 _)
 have hne:q≠z:=by have:=HBZ.out;omega
 have HZ2:=hid (show aK (w2a.setCell ⟨z,11,none⟩ (.slice vnA m.names.length vnc)) q (head 0 0) (.slice none 0 0) (.slice none 0 0) (.slice none 0 0)from Blk.far (Blk.below HZ.out HG2.out (Blk.lt HZ.out)) hne _)
 have aeL:=hid (show w2a.heap.size=(w2a.setCell ⟨z,11,none⟩ (.slice vnA m.names.length vnc)).heap.size from(World.size_setCell _ _ _).symm)
 have QZ:=hid (show z≤w1.heap.size from Nat.le_of_lt (Blk.lt HM.out))
 have HU2:=hid (show Below z w (w2a.setCell ⟨z,11,none⟩ (.slice vnA m.names.length vnc))from(HU.out.trans (HG2.out.mono QZ.out)).setCell (Nat.le_refl _) _)
 have HRQ:=hid (HRQ.out.keep (w':=w2a.setCell ⟨z,11,none⟩ (.slice vnA m.names.length vnc)) fun p hp=>(show Below z w1 (w2a.setCell ⟨z,11,none⟩ (.slice vnA m.names.length vnc))from(HG2.out.mono QZ.out).setCell (Nat.le_refl _) _).cell hp)
 have HRD:=hid (HRD.out.keep (w':=w2a.setCell ⟨z,11,none⟩ (.slice vnA m.names.length vnc)) fun p hp=>(show Below z w1 (w2a.setCell ⟨z,11,none⟩ (.slice vnA m.names.length vnc))from(HG2.out.mono QZ.out).setCell (Nat.le_refl _) _).cell hp)
 have HWN:=hid (jl (w':=w2a.setCell ⟨z,11,none⟩ (.slice vnA m.names.length vnc)) (q:=z) HO2.out (fun h=>absurd (dH HO2.out _ h) (by have:=HBZ.out;have:=HS1.out;have:=HBS.out;omega)) (fun k hk hkz=>fD _ _ _ _ k hk hkz))
 clear hne
 generalize w2a.setCell ⟨z,11,none⟩ (.slice vnA m.names.length vnc)=w2 at HM2 HZ2 HU2 aeL HRQ HRD HWN⊢
 have k0:w2.cell? ⟨z,12,none⟩=some (.slice Aq m.aV.length cq):=Blk.cell HM2.out 12
 have afi:=hid (show([]:List Qd).length+m.aV.length≤8796093022207 from by have:=HN.out.2.1;simp only[List.length_nil];omega)
 have aeM:=hid (show bs≤w2.heap.size from Nat.le_trans aee.out (Nat.le_trans HG2.out.size (Nat.le_of_eq aeL.out)))
 go_upto_region 6 with(at_builtin;refine Ai (.tmp 11) (.tmp 13) rfl rfl bs (.slice none 0 0) [] rfl (dS _ _ _ _) z Aq cq m.aV rfl HRQ.out afi.out aeM.out ?_;intro vq w3a hown hgr hor;have hown:w3a.ownsRow bs 37 3 vq m.aV.length (ng m.aV):=hown;obtain⟨vqA,vqc,rfl, -⟩:=aJ hown;have HO3:=hid hown;have HG3:=hid ((Below.refl w2.heap.size w2).grown hgr (Nat.le_refl _) (fun g hg=>(by cases hg)));clear hown hgr hor k0;have aer:=hid (Blk.below HM2.out HG3.out (Blk.lt HM2.out));have k1:w3a.cell? ⟨z,12,none⟩=some (.slice Aq m.aV.length cq):=Blk.cell aer.out 12;have f1:w3a.frozen? ⟨z,12,none⟩=false:=Blk.frozen aer.out 12)
 clear k1 f1
 have HM3:=hid (show aK (w3a.setCell ⟨z,12,none⟩ (.slice vqA m.aV.length vqc)) z m (.slice vnA m.names.length vnc) (.slice vqA m.aV.length vqc) (.slice Ad m.data.length cd)from Blk.aW aer.out 12 _)
 have hne:q≠z:=by have:=HBZ.out;omega
 have HZ3:=hid (show aK (w3a.setCell ⟨z,12,none⟩ (.slice vqA m.aV.length vqc)) q (head 0 0) (.slice none 0 0) (.slice none 0 0) (.slice none 0 0)from Blk.far (Blk.below HZ2.out HG3.out (Blk.lt HZ2.out)) hne _)
 have aeN:=hid (show w3a.heap.size=(w3a.setCell ⟨z,12,none⟩ (.slice vqA m.aV.length vqc)).heap.size from(World.size_setCell _ _ _).symm)
 have TL:=hid (show z≤w2.heap.size from Nat.le_of_lt (Blk.lt HM2.out))
 have HU3:=hid (show Below z w (w3a.setCell ⟨z,12,none⟩ (.slice vqA m.aV.length vqc))from(HU2.out.trans (HG3.out.mono TL.out)).setCell (Nat.le_refl _) _)
 have HRD:=hid (HRD.out.keep (w':=w3a.setCell ⟨z,12,none⟩ (.slice vqA m.aV.length vqc)) fun p hp=>(show Below z w2 (w3a.setCell ⟨z,12,none⟩ (.slice vqA m.aV.length vqc))from(HG3.out.mono TL.out).setCell (Nat.le_refl _) _).cell hp)
 have HWN:=hid (jl (w':=w3a.setCell ⟨z,12,none⟩ (.slice vqA m.aV.length vqc)) (q:=z) (aI HWN.out HG3.out) (fun h=>absurd (dH (aI HWN.out HG3.out) _ h) (by have:=HBZ.out;have:=HS1.out;have:=HBS.out;omega)) (fun k hk hkz=>fD _ _ _ _ k hk hkz))
 have HWQ:=hid (jl (w':=w3a.setCell ⟨z,12,none⟩ (.slice vqA m.aV.length vqc)) (q:=z) HO3.out (fun h=>absurd (dH HO3.out _ h) (by have:=HBZ.out;have:=HS1.out;have:=HBS.out;omega)) (fun k hk hkz=>fD _ _ _ _ k hk hkz))
 clear hne
 generalize w3a.setCell ⟨z,12,none⟩ (.slice vqA m.aV.length vqc)=w3 at HM3 HZ3 HU3 aeN HRD HWN HWQ⊢
 have k0:w3.cell? ⟨z,22,none⟩=some (.slice Ad m.data.length cd):=Blk.cell HM3.out 22
 have abR:=hid (show([]:List UInt8).length+m.data.length≤8796093022207 from by have:=HN.out.2.2;simp only[List.length_nil];omega)
 have afj:=hid (show bs≤w3.heap.size from Nat.le_trans aeM.out (Nat.le_trans HG3.out.size (Nat.le_of_eq aeN.out)))
 go_upto_region 7 with(at_builtin;refine kY (.tmp 16) (.tmp 18) rfl rfl bs (.slice none 0 0) [] rfl (dS _ _ _ _) z Ad cd m.data rfl HRD.out (Nat.le_trans abR.out (by decide)) afj.out ?_;intro vd w4a hown hgr hor;have hown:w4a.ownsRow bs 5 1 vd m.data.length (aX m.data):=hown;obtain⟨vdA,vdc,rfl, -⟩:=aJ hown;have HO4:=hid hown;have HG4:=hid ((Below.refl w3.heap.size w3).grown hgr (Nat.le_refl _) (fun g hg=>(by cases hg)));clear hown hgr hor k0;have aes:=hid (Blk.below HM3.out HG4.out (Blk.lt HM3.out));have k1:w4a.cell? ⟨z,22,none⟩=some (.slice Ad m.data.length cd):=Blk.cell aes.out 22;have f1:w4a.frozen? ⟨z,22,none⟩=false:=Blk.frozen aes.out 22)
 clear k1 f1
 have HM4:=hid (show aK (w4a.setCell ⟨z,22,none⟩ (.slice vdA m.data.length vdc)) z m (.slice vnA m.names.length vnc) (.slice vqA m.aV.length vqc) (.slice vdA m.data.length vdc)from Blk.aW aes.out 22 _)
 have hne:q≠z:=by have:=HBZ.out;omega
 have HZ4:=hid (show aK (w4a.setCell ⟨z,22,none⟩ (.slice vdA m.data.length vdc)) q (head 0 0) (.slice none 0 0) (.slice none 0 0) (.slice none 0 0)from Blk.far (Blk.below HZ3.out HG4.out (Blk.lt HZ3.out)) hne _)
 have afk:=hid (show w4a.heap.size=(w4a.setCell ⟨z,22,none⟩ (.slice vdA m.data.length vdc)).heap.size from(World.size_setCell _ _ _).symm)
 have jG:=hid (show z≤w3.heap.size from Nat.le_of_lt (Blk.lt HM3.out))
 have HU4:=hid (show Below z w (w4a.setCell ⟨z,22,none⟩ (.slice vdA m.data.length vdc))from(HU3.out.trans (HG4.out.mono jG.out)).setCell (Nat.le_refl _) _)
 have HWN:=hid (jl (w':=w4a.setCell ⟨z,22,none⟩ (.slice vdA m.data.length vdc)) (q:=z) (aI HWN.out HG4.out) (fun h=>absurd (dH (aI HWN.out HG4.out) _ h) (by have:=HBZ.out;have:=HS1.out;have:=HBS.out;omega)) (fun k hk hkz=>fD _ _ _ _ k hk hkz))
 have HWQ:=hid (jl (w':=w4a.setCell ⟨z,22,none⟩ (.slice vdA m.data.length vdc)) (q:=z) (aI HWQ.out HG4.out) (fun h=>absurd (dH (aI HWQ.out HG4.out) _ h) (by have:=HBZ.out;have:=HS1.out;have:=HBS.out;omega)) (fun k hk hkz=>fD _ _ _ _ k hk hkz))
 have HWD:=hid (jl (w':=w4a.setCell ⟨z,22,none⟩ (.slice vdA m.data.length vdc)) (q:=z) HO4.out (fun h=>absurd (dH HO4.out _ h) (by have:=HBZ.out;have:=HS1.out;have:=HBS.out;omega)) (fun k hk hkz=>fD _ _ _ _ k hk hkz))
 clear hne
 generalize w4a.setCell ⟨z,22,none⟩ (.slice vdA m.data.length vdc)=w4 at HM4 HZ4 HU4 afk HWN HWQ HWD⊢
 have h1:=bG HWN.out
 have h2:=bG HWQ.out
 have h3:=bG HWD.out
 have HOB:=hid (show z≤bs from by have:=HBZ.out;have:=HS1.out;have:=HBS.out;omega)
 go_wp2_with(first|(refine wlw HM4.out 0 (aF m (.slice vnA m.names.length vnc) (.slice vqA m.aV.length vqc) (.slice vdA m.data.length vdc)) rfl rfl _ _ rfl rfl _ Tryz.underlying41 rfl aB ?_)|(refine dA HZ4.out 0 (aF m (.slice vnA m.names.length vnc) (.slice vqA m.aV.length vqc) (.slice vdA m.data.length vdc)) _ (bW ..) (Nat.le_refl 36) (bT _ h1 h2 h3) rfl _ _ _ rfl rfl rfl aB ?_;intro wz hs ho;have HZF:=hid hs;have HOO:=hid (ho (fun i=>i=q) rfl _ (Off.refl _ _));have HOF:=hid (HOO.out.below (B:=z) (fun i hi=>(by have hi:i=q:=hi;have:=HBZ.out;omega)) (by have:=Blk.lt HM4.out;omega));clear hs ho))
 have HNE:=hid (show∀i,i=q→¬bs≤i from fun i hi=>by have:=HS1.out;have:=HBS.out;omega)
 refine bodyPost_ret (bf (l:=aF m (.slice vnA m.names.length vnc) (.slice vqA m.aV.length vqc) (.slice vdA m.data.length vdc)) rfl Tryz.underlying41 rfl aB rfl HZF.out) rfl ⟨⟨_,_,_,rfl, ?_⟩, ?_⟩
 ·rw[HZZ.out]
  exact⟨iw (HOO.out.own HWN.out fun k hk hs=>HNE.out k hs (dH HWN.out k hk)) HOB.out,iw (HOO.out.own HWQ.out fun k hk hs=>HNE.out k hs (dH HWQ.out k hk)) HOB.out,iw (HOO.out.own HWD.out fun k hk hs=>HNE.out k hs (dH HWD.out k hk)) HOB.out⟩
 ·rw[HZZ.out]
  exact HU4.out.trans HOF.out
end Go.Proofs.YtkblmloobkiloaaGreatDoor
namespace Go.Proofs.YtkblmloobkiloaaGreatDoor
open Go.Lib (hid)
open Go.Lib (decDigits)
/-! A number. -/
end Go.Proofs.YtkblmloobkiloaaGreatDoor
namespace Go.Proofs.YtkblmloobkiloaaGreatDoor
open Go.Lib (hid)
open Go.RowKit
def RwS(w:World)(p:Nat)(s:ByteArray)(st:Except Nat (List UInt8)):Prop:=
 ∃(a:Nat) (b:Bool),Blk w p 106 #[.string s,.int .i64 (a:Int),.bool b]∧a≤s.size∧s.size≤16777216∧st=if b then .error (s.size-a)else .ok (s.data.toList.drop a)
theorem RwS.below{w w':World}{p:Nat}{s:ByteArray}{st:Except Nat (List UInt8)}(h:RwS w p s st)(hb:Below w.heap.size w w'):RwS w' p s st:=by
 obtain⟨a,b,h1,h2⟩:=h
 exact⟨a,b,Blk.below h1 hb (Blk.lt h1),h2⟩
theorem RwS.off{S:Nat→Prop}{w w':World}{p:Nat}{s:ByteArray}{st:Except Nat (List UInt8)}(h:RwS w p s st)(ho:Off S w w')(hp:¬S p):RwS w' p s st:=by
 obtain⟨a,b,h1,h2⟩:=h
 exact⟨a,b,ho.blk h1 hp,h2⟩
theorem RwS.lt{w:World}{p:Nat}{s:ByteArray}{st:Except Nat (List UInt8)}(h:RwS w p s st):p<w.heap.size:=by
 obtain⟨a,b,hb, -⟩:=h
 exact Blk.lt hb
theorem RwS.noT{w:World}{p:Nat}{s:ByteArray}{st:Except Nat (List UInt8)}{e:TypeId}(h:RwS w p s st)(he:106≠e):∀g cur fr,g=p→w.heap[g]? ≠some (Obj.cells cur e fr):=by
 obtain⟨a,b,hb, -⟩:=h
 exact hb.noT he
def Yi(st:Except Nat (List UInt8))(u:ByteArray):Bool:=match st with| .ok l=>u.data.toList.isPrefixOf l| .error _=>false
def Ye(u:ByteArray)(st:Except Nat (List UInt8)):Except Nat (List UInt8):=st >>= dQ u.data.toList
def XZ{α:Type}(o:Except Nat (α×List UInt8))(s:α)(s2:Except Nat (List UInt8)):Prop:=match o with| .ok (t,r)=>s=t∧s2= .ok r| .error k=>s2= .error k
theorem RwS.error{w:World}{p:Nat}{s:ByteArray}{k:Nat}(h:RwS w p s (.error k)):∃a:Nat,Blk w p 106 #[.string s,.int .i64 (a:Int),.bool true]∧a≤s.size∧s.size≤16777216∧k=s.size-a:=by
 obtain⟨a,b,h1,h2,h3,h4⟩:=h
 cases b with
 |true=>injection h4 with h4;exact⟨a,h1,h2,h3,h4⟩
 |false=>cases h4
theorem RwS.bad{w:World}{p a:Nat}{s:ByteArray}{b:Bool}(h:Blk w p 106 #[.string s,.int .i64 (a:Int),.bool b])(ha:a≤s.size)(hz:s.size≤16777216):RwS (w.setCell ⟨p,2,none⟩ (.bool true)) p s (.error (s.size-a)):=
 ⟨a,true,h.aW 2 (.bool true),ha,hz,rfl⟩
theorem YO(n:Nat)(hn:n<16)(w:World):Calls Tryz.prog 195 #[.int .u8 (n:Int)] w fun e w'=>e= .returned (.int .u8 ((hexD n).toNat:Int))∧w=w':=by
 by_cases h:(n:Int)<10
 ·have HR:=hid (show Ending.returned (.int .u8 (48+(n:Int)))= .returned (.int .u8 ((hexD n).toNat:Int))from by
   unfold hexD
   rw[if_pos (by omega),iK _ (by omega)]
   rfl)
  go_enter Tryz.func195,Tryz.ntmps195
  go_wp2_with fail
  exact bodyPost_ret (v:= .int .u8 (48+(n:Int))) (by simp[results,Tryz.results195]) rfl ⟨HR.out,rfl⟩
 ·have HR:=hid (show Ending.returned (.int .u8 (97+(n:Int)-10))= .returned (.int .u8 ((hexD n).toNat:Int))from by
   unfold hexD
   rw[if_neg (by omega),iK _ (by omega),show(97:Int)+(n:Int)-10=((87+n:Nat):Int) by omega])
  go_enter Tryz.func195,Tryz.ntmps195
  go_wp2_with fail
  exact bodyPost_ret (v:= .int .u8 (97+(n:Int)-10)) (by simp[results,Tryz.results195]) rfl ⟨HR.out,rfl⟩
theorem Yd(w:World)(bs:List UInt8):Reads (w.alloc (.cells (aX bs).toArray 5)) (w.heap.size+1) 1 (some ⟨w.heap.size,0,none⟩) bs.length (aX bs):=dI w 5 (aX bs) bs.length 1 (by rw[jQ,Nat.mul_one])
theorem ZF{c:UInt8}(h:esc c=true):dw c=[92,c]:=by unfold dw;rw[if_pos h]
theorem ZG{c:UInt8}(h:esc c=false)(h2:ctl c=true):dw c=[92,120,hexD (c.toNat/16),hexD (c.toNat%16)]:=by unfold dw;rw[if_neg (by rw[h];decide),if_pos h2];rfl
theorem ZV{c:UInt8}(h:esc c=false)(h2:ctl c=false):dw c=[c]:=by unfold dw;rw[if_neg (by rw[h];decide),if_neg (by rw[h2];decide)]
theorem Yu{l:List UInt8}{j:Nat}{c:UInt8}(h:l[j]? =some c):(34::(l.take j).flatMap dw)++dw c=34::(l.take (j+1)).flatMap dw:=by
 rw[List.take_add_one,h,Option.toList_some,List.flatMap_append]
 simp
theorem YZ(X:ByteArray)(hz:X.size≤16777216)(w:World):
  Calls Tryz.prog 184 #[.string X] w fun e w'=>e= .returned (.string (ofL (Ah X.data.toList)))∧Below w.heap.size w w':=by
 obtain⟨l,hl⟩:∃l,l=X.data.toList:=⟨_,rfl⟩
 have hXs:X.size=l.length:=by rw[hl,Array.length_toList];rfl
 have HL:=hid hl
 rw[←hl]
 clear hl
 have HXS:=hid hXs
 clear hXs
 have aaF:=hid (dS w w.heap.size 5 1)
 have HB0:=hid (Below.refl w.heap.size w)
 have hup0:Below w.heap.size w (w.alloc (.cells (aX [34]).toArray 5)):=(Below.refl _ _).alloc (Nat.le_refl _) _
 have aan:=hid hup0
 have aaA:=hid (aI aaF.out hup0)
 have aaG:=hid (Yd w [34])
 clear hup0
 go_enter Tryz.func184,Tryz.ntmps184
 go_upto_region 3 with(at_builtin;refine kY (.tmp 6) (.tmp 7) rfl rfl w.heap.size _ [] rfl aaA.out (w.heap.size+1) _ 1 [34] rfl aaG.out (by decide) aan.out.size ?_;intro v2 w2 hown hgr hor;have HO2:=hid hown;have HB2:=hid (aan.out.grown hgr aan.out.size (fun g hg=>dH aaA.out g hg));clear hown hgr hor)
 go_upto_region 4 with(fail)
 go_loopw [3,4] (fun b i wr=>∃(j:Nat) (B:List UInt8),i= .int .i64 (j:Int)∧j≤X.size∧wr.ownsRow w.heap.size 5 1 b B.length (aX B)∧Below w.heap.size w wr∧Hid (B=34::(l.take j).flatMap dw)∧B.length≤1+4*j) (fun _ i _=>X.size-(intOf i).toNat)
 case atStart=>exact⟨0,[34],rfl,Nat.zero_le _,HO2.out,HB2.out,hid rfl,by decide⟩
 case round=>
  obtain⟨j,B,rfl,hj,ho,hb,HBE,hBl⟩:=hrel
  have HOW:=hid ho;clear ho
  have HBR:=hid hb;clear hb
  obtain⟨A0,cap,rfl,hc0,hm0⟩:=aJ HOW.out
  by_cases hlt:j<X.size
  ·obtain⟨c,hc⟩:∃c,c=X[j]'hlt:=⟨_,rfl⟩
   have HCA:=hid (show l[j]? =some c from by rw[HL.out,hc];exact byte_at X j hlt)
   have hidx:X[j]'hlt=c:=hc.symm
   clear hc
   have hc8:c.toNat<256:=c.toNat_lt
   go_upto_region 8 with(fail)
   clear hidx
   go_cut [22] (fun v wx=>v= .bool (esc c)∧wx=wr)
   case first=>
    as_aux_lemma=>
    by_cases h34:c.toNat=34
    ·have b34:((c.toNat:Int)==34)=true:=by rw[beq_iff_eq];omega
     have HE:=hid (show esc c=true from by unfold esc;rw[decide_eq_true h34];rfl)
     clear h34
     go_wp2_with fail
     go_meet
     case rel=>exact⟨by rw[HE.out],rfl⟩
    ·have b34:((c.toNat:Int)==34)=false:=by rw[beq_eq_false_iff_ne];omega
     cases b92:((c.toNat:Int)==92)
     ·have HE:=hid (show esc c=false from by unfold esc;rw[decide_eq_false h34,decide_eq_false (by rw[beq_eq_false_iff_ne]at b92;omega)];rfl)
      clear h34
      go_wp2_with fail
      go_meet
      case rel=>exact⟨by rw[HE.out],rfl⟩
     ·have HE:=hid (show esc c=true from by unfold esc;rw[decide_eq_false h34,decide_eq_true (by rw[beq_iff_eq]at b92;omega)];rfl)
      clear h34
      go_wp2_with fail
      go_meet
      case rel=>exact⟨by rw[HE.out],rfl⟩
   obtain⟨rfl,rfl⟩:=hcut
   cases he:esc c with
   |true=>
    have HQC:=hid (ZF he)
    clear he
    have hup:Below wc.heap.size wc (wc.alloc (.cells (aX [92,c]).toArray 5)):=(Below.refl _ _).alloc (Nat.le_refl _) _
    have HBA:=hid (HBR.out.trans (hup.mono HBR.out.size))
    have HOA:=hid (aI HOW.out hup)
    have HRA:=hid (Yd wc [92,c])
    have HLL:=hid (show B.length+([92,c]:List UInt8).length≤140737488355327 from by simp only[List.length_cons,List.length_nil];omega)
    clear hup
    go_wp2_with(at_builtin;refine kY (.tmp 29) (.tmp 31) rfl rfl w.heap.size _ B rfl HOA.out (wc.heap.size+1) _ 2 [92,c] rfl HRA.out HLL.out HBA.out.size ?_;intro v2 w2 hown hgr hor;have HO2:=hid hown;have HB2:=hid (HBA.out.grown hgr HBA.out.size (fun g hg=>dH HOA.out g hg));clear hown hgr hor)
    go_roundw
    case rel=>
     refine⟨j+1,B++[92,c],by go_num,by omega,HO2.out,HB2.out, ?_, ?_⟩
     ·rw[HBE.out,←HQC.out];exact Yu HCA.out
     ·rw[List.length_append];simp only[List.length_cons,List.length_nil];omega
    case measure=>first|(simp[intOf];done)|(simp[intOf];omega)
   |false=>
    go_upto_region 10 with(fail)
    go_cut [33] (fun v wx=>v= .bool (ctl c)∧wx=wc)
    case first=>
     as_aux_lemma=>
     by_cases h32:(c.toNat:Int)<32
     ·have HE:=hid (show ctl c=true from by unfold ctl;rw[decide_eq_true (show c.toNat<32 by omega)];rfl)
      go_wp2_with fail
      go_meet
      case rel=>exact⟨by rw[HE.out],rfl⟩
     ·cases UZ:((c.toNat:Int)==127)
      ·have HE:=hid (show ctl c=false from by unfold ctl;rw[decide_eq_false (show¬c.toNat<32 by omega),decide_eq_false (by rw[beq_eq_false_iff_ne]at UZ;omega)];rfl)
       go_wp2_with fail
       go_meet
       case rel=>exact⟨by rw[HE.out],rfl⟩
      ·have HE:=hid (show ctl c=true from by unfold ctl;rw[decide_eq_false (show¬c.toNat<32 by omega),decide_eq_true (by rw[beq_iff_eq]at UZ;omega)];rfl)
       go_wp2_with fail
       go_meet
       case rel=>exact⟨by rw[HE.out],rfl⟩
    obtain⟨rfl,rfl⟩:=hcut
    cases hk:ctl c with
    |true=>
     have HQC:=hid (ZG he hk)
     clear he hk
     have h16:c.toNat/16<16:=by omega
     have aaB:c.toNat%16<16:=by omega
     have HD1:=hid (show(c.toNat:Int)/16=((c.toNat/16:Nat):Int)from by omega)
     have HD2:=hid (show(c.toNat:Int)%16=((c.toNat%16:Nat):Int)from by omega)
     have HH1:=hid (fun w=>YO (c.toNat/16) h16 w)
     have HH2:=hid (fun w=>YO (c.toNat%16) aaB w)
     clear h16 aaB
     go_wp2_with fail
     rw[HD1.out]
     refine(HH1.out _).mono ?_
     rintro e w3 ⟨rfl,rfl⟩
     go_wp2_with fail
     rw[HD2.out]
     refine(HH2.out _).mono ?_
     rintro e w3 ⟨rfl,rfl⟩
     generalize hexD (c.toNat/16)=d1 at HQC⊢
     generalize hexD (c.toNat%16)=d2 at HQC⊢
     clear HD1 HD2 HH1 HH2
     have hup:Below wc.heap.size wc (wc.alloc (.cells (aX [92,120,d1,d2]).toArray 5)):=(Below.refl _ _).alloc (Nat.le_refl _) _
     have HBA:=hid (HBR.out.trans (hup.mono HBR.out.size))
     have HOA:=hid (aI HOW.out hup)
     have HRA:=hid (Yd wc [92,120,d1,d2])
     have HLL:=hid (show B.length+([92,120,d1,d2]:List UInt8).length≤140737488355327 from by simp only[List.length_cons,List.length_nil];omega)
     clear hup
     go_wp2_with(at_builtin;refine kY (.tmp 40) (.tmp 47) rfl rfl w.heap.size _ B rfl HOA.out (wc.heap.size+1) _ 4 [92,120,d1,d2] rfl HRA.out HLL.out HBA.out.size ?_;intro v2 w2 hown hgr hor;have HO2:=hid hown;have HB2:=hid (HBA.out.grown hgr HBA.out.size (fun g hg=>dH HOA.out g hg));clear hown hgr hor)
     go_roundw
     case rel=>
      refine⟨j+1,B++[92,120,d1,d2],by go_num,by omega,HO2.out,HB2.out, ?_, ?_⟩
      ·rw[HBE.out,←HQC.out];exact Yu HCA.out
      ·rw[List.length_append];simp only[List.length_cons,List.length_nil];omega
     case measure=>first|(simp[intOf];done)|(simp[intOf];omega)
    |false=>
     have HQC:=hid (ZV he hk)
     clear he hk
     have hup:Below wc.heap.size wc (wc.alloc (.cells (aX [c]).toArray 5)):=(Below.refl _ _).alloc (Nat.le_refl _) _
     have HBA:=hid (HBR.out.trans (hup.mono HBR.out.size))
     have HOA:=hid (aI HOW.out hup)
     have HRA:=hid (Yd wc [c])
     have HLL:=hid (show B.length+([c]:List UInt8).length≤140737488355327 from by simp only[List.length_cons,List.length_nil];omega)
     clear hup
     go_wp2_with(at_builtin;refine kY (.tmp 18) (.tmp 20) rfl rfl w.heap.size _ B rfl HOA.out (wc.heap.size+1) _ 1 [c] rfl HRA.out HLL.out HBA.out.size ?_;intro v2 w2 hown hgr hor;have HO2:=hid hown;have HB2:=hid (HBA.out.grown hgr HBA.out.size (fun g hg=>dH HOA.out g hg));clear hown hgr hor)
     go_roundw
     case rel=>
      refine⟨j+1,B++[c],by go_num,by omega,HO2.out,HB2.out, ?_, ?_⟩
      ·rw[HBE.out,←HQC.out];exact Yu HCA.out
      ·rw[List.length_append];simp only[List.length_cons,List.length_nil];omega
     case measure=>first|(simp[intOf];done)|(simp[intOf];omega)
  ·have HT:=hid (show l.take j=l from List.take_of_length_le (by rw[←HXS.out];omega))
   have HR:=hid (show B++[34]=Ah l from by rw[HBE.out,HT.out];unfold Ah;rfl)
   have hup:Below wr.heap.size wr (wr.alloc (.cells (aX [34]).toArray 5)):=(Below.refl _ _).alloc (Nat.le_refl _) _
   have HBA:=hid (HBR.out.trans (hup.mono HBR.out.size))
   have HOA:=hid (aI HOW.out hup)
   have HRA:=hid (Yd wr [34])
   have HLL:=hid (show B.length+([34]:List UInt8).length≤140737488355327 from by simp only[List.length_cons,List.length_nil];omega)
   clear hup
   go_upto_region 13 with(at_builtin;refine kY (.tmp 49) (.tmp 50) rfl rfl w.heap.size _ B rfl HOA.out (wr.heap.size+1) _ 1 [34] rfl HRA.out HLL.out HBA.out.size ?_;intro v2 w2 hown hgr hor;have HO2:=hid hown;have HB2:=hid (HBA.out.grown hgr HBA.out.size (fun g hg=>dH HOA.out g hg));clear hown hgr hor)
   obtain⟨A2,cap2,rfl,hc2,hm2⟩:=aJ HO2.out
   have hcv:(convert 22 9 (.slice A2 (B.length+1) cap2)).run Tryz.prog w2= .ok (.string (ofL (B++[34]))) w2:=by
    have h:=HO2.out
    rw[List.length_append]at h
    exact jH (Bys.iH h)
   go_wp2_with fail
   rw[HR.out]
   exact bodyPost_ret (v:= .string (ofL (Ah l))) (by simp[results,Tryz.results184]) rfl ⟨rfl,HB2.out⟩
def Bz(p:Nat)(s:ByteArray)(r:Except Nat Mg)(w:World)(e:Ending)(w':World):Prop:=
 Off (fun i=>i=p) w w'∧match r with
  | .ok m=>∃vn vq vd,e= .returned (iM m vn vq vd)∧OL w' w.heap.size m vn vq vd
  | .error n=>e= .panicked [{v:= .iface 111 (.int .i64 ((s.size:Int)-(n:Int))),recovered:=false}]
theorem Bz.no{p:Nat}{s:ByteArray}{r:Except Nat Mg}{w w':World}{n:Nat}{i:Int}(hr:r= .error n)(hi:i=(s.size:Int)-(n:Int))(ho:Off (fun i=>i=p) w w'):Bz p s r w (.panicked [{v:= .iface 111 (.int .i64 i),recovered:=false}]) w':=by
 subst hr hi
 exact⟨ho,rfl⟩
structure um(w0 w:World)(p z:Nat)(s:ByteArray)(a:Nat):Prop where
 off:Off (fun i=>i=p∨z≤i) w0 w
 hz:aK w z (head 0 0) (.slice none 0 0) (.slice none 0 0) (.slice none 0 0)
 sc:ScS w p s a
 se:SE w
 rd:Ready w
 lt:p<z
 h8:8≤p
theorem um.below{w0 w w':World}{p z:Nat}{s:ByteArray}{a:Nat}(h:um w0 w p z s a)(hb:Below w.heap.size w w'):um w0 w' p z s a:=
 ⟨h.off.trans (Off.of_below hb),Blk.below h.hz hb (Blk.lt h.hz),h.sc.below hb,h.se.low hb h.rd.eight,h.rd.below hb (Nat.le_refl _),h.lt,h.h8⟩
theorem um.call{w0 w w':World}{p z:Nat}{s:ByteArray}{a a':Nat}(h:um w0 w p z s a)(ho:Off (fun i=>i=p) w w')(hs:ScS w' p s a'):um w0 w' p z s a':=by
 have hp:=h.lt
 have h8:=h.h8
 have hb:Below 8 w w':=ho.below (fun i hi=>by have hi:i=p:=hi;omega) h.rd.eight
 exact⟨h.off.trans ho.toN,ho.blk h.hz (fun hi=>by have hi:z=p:=hi;omega),hs,h.se.low hb (Nat.le_refl 8),h.rd.low hb (Nat.le_refl 8),hp,h8⟩
structure mg(w0 w:World)(p z h:Nat)(s:ByteArray)(a:Nat)(m:Mg)(vn vq vd:Value):Prop where
 pre:um w0 w p z s a
 hm:aK w h m vn vq vd
 ol:OL w z m vn vq vd
 lh:z<h
theorem mg.below{w0 w w':World}{p z h:Nat}{s:ByteArray}{a:Nat}{m:Mg}{vn vq vd:Value}(t:mg w0 w p z h s a m vn vq vd)(hb:Below w.heap.size w w'):mg w0 w' p z h s a m vn vq vd:=
 ⟨t.pre.below hb,Blk.below t.hm hb (Blk.lt t.hm),t.ol.below hb,t.lh⟩
theorem mg.call{w0 w w':World}{p z h:Nat}{s:ByteArray}{a a':Nat}{m:Mg}{vn vq vd:Value}(t:mg w0 w p z h s a m vn vq vd)(ho:Off (fun i=>i=p) w w')(hs:ScS w' p s a'):mg w0 w' p z h s a' m vn vq vd:=
 ⟨t.pre.call ho hs,ho.blk t.hm (fun hi=>by have hi:h=p:=hi;have:=t.lh;have:=t.pre.lt;omega),t.ol.sc t.pre.sc ho,t.lh⟩
theorem mg.scan{w0 w w':World}{p z h:Nat}{s:ByteArray}{a a':Nat}{m m':Mg}{vn vq vd xn xq xd:Value}(t:mg w0 w p z h s a m vn vq vd)(ho:Off (fun i=>i=p∨i=h) w w')(hs:ScS w' p s a')(hm:aK w' h m' xn xq xd)(hl:OL w' z m' xn xq xd):mg w0 w' p z h s a' m' xn xq xd:=by
 have hp:=t.pre.lt
 have h8:=t.pre.h8
 have hlh:=t.lh
 have hb:Below 8 w w':=ho.below (fun i hi=>by rcases hi with hi|hi<;>omega) t.pre.rd.eight
 exact⟨⟨t.pre.off.trans (ho.mono fun i _ hi=>by rcases hi with hi|hi;exact .inl hi;exact .inr (by omega)),ho.blk t.pre.hz (fun hi=>by rcases hi with hi|hi<;>omega),hs,t.pre.se.low hb (Nat.le_refl 8),t.pre.rd.low hb (Nat.le_refl 8),hp,h8⟩,hm,hl,hlh⟩
theorem mg.aW{w0 w:World}{p z h:Nat}{s:ByteArray}{a:Nat}{m m':Mg}{vn vq vd:Value}(t:mg w0 w p z h s a m vn vq vd)(i:Nat)(v:Value)(e:(aF m vn vq vd).toArray.setIfInBounds i v=(aF m' vn vq vd).toArray)(hn:m'.names=m.names)(hq:m'.aV=m.aV)(hd:m'.data=m.data):mg w0 (w.setCell ⟨h,i,none⟩ v) p z h s a m' vn vq vd:=by
 have ho:=bM w h i v
 have hl:=t.ol.qp t.hm ho
 exact t.scan (ho.mono fun _ _ hi=> .inr hi) (t.pre.sc.off ho (fun hi=>by have hi:p=h:=hi;have:=t.lh;have:=t.pre.lt;omega)) (aK.aW t.hm i v e) ⟨by rw[hn];exact hl.n,by rw[hq];exact hl.q,by rw[hd];exact hl.d⟩
def PLe{β:Type}(g:β→List UInt8)(l:List UInt8)(r:Except Nat β):Prop:=(∀x,r= .ok x→(g x).length≤l.length)∧(∀n,r= .error n→n≤l.length)
theorem PLe.no{β:Type}{g:β→List UInt8}{l:List UInt8}{n:Nat}(h:n≤l.length):PLe g l (.error n:Except Nat β):=⟨fun x h=>(by cases h),fun m hm=>(by injection hm with hm;omega)⟩
theorem PLe.yes{β:Type}{g:β→List UInt8}{l:List UInt8}{x:β}(h:(g x).length≤l.length):PLe g l (.ok x:Except Nat β):=⟨fun y hy=>(by injection hy with hy;rw[←hy];exact h),fun m hm=>(by cases hm)⟩
theorem PLe.bind{β γ:Type}{g:β→List UInt8}{g':γ→List UInt8}{l:List UInt8}{r:Except Nat β}{f:β→Except Nat γ}(h:PLe g l r)(hf:∀x,PLe g' (g x) (f x)):PLe g' l (r >>= f):=by
 cases r with
 |error n=>exact PLe.no (h.2 n rfl)
 |ok x=>
  have h1:=h.1 x rfl
  exact⟨fun y hy=>Nat.le_trans ((hf x).1 y hy) h1,fun n hn=>Nat.le_trans ((hf x).2 n hn) h1⟩
theorem PLe.map{β γ:Type}{g:β→List UInt8}{g':γ→List UInt8}{l:List UInt8}{r:Except Nat β}{f:β→γ}(h:PLe g l r)(hf:∀x,g' (f x)=g x):PLe g' l (r.map f):=by
 cases r with
 |error n=>exact PLe.no (h.2 n rfl)
 |ok x=>exact PLe.yes (by rw[hf];exact h.1 x rfl)
theorem PLe.trans{β:Type}{g:β→List UInt8}{l l':List UInt8}{r:Except Nat β}(h:PLe g l' r)(hl:l'.length≤l.length):PLe g l r:=⟨fun y hy=>Nat.le_trans (h.1 y hy) hl,fun n hn=>Nat.le_trans (h.2 n hn) hl⟩
theorem OL.lists{w:World}{base:Nat}{m:Mg}{vn vq vd:Value}(h:OL w base m vn vq vd):Lists w w.heap.size m vn vq vd:=⟨iW.iH h.n,lX.iH h.q,Bys.iH h.d⟩
structure QV(w0 w:World)(z z1 z2 z3:Nat)(s:ByteArray):Prop where
 up:Below z w0 w
 sz:w0.heap.size=z
 e1:z1=z+1
 e2:z2=z+2
 e3:z3=z+3
 m:aK w z (head 0 0) (.slice none 0 0) (.slice none 0 0) (.slice none 0 0)
 i:Blk w z1 3 #[.int .i64 0]
 e:Blk w z2 42 #[.int .i64 0]
 s:ScS w z3 s 0
 h8:8≤z
 se:SE w
 rd:Ready w
 ws:w.heap.size=z+4
theorem QV.start(s:ByteArray)(w:World)(hse:SE w)(hrd:Ready w)(hz:s.size≤16000000):
  QV w ((((w.alloc (.cells (mgN (head 0 0)).toArray 41)).alloc (.cells #[.int .i64 0] 3)).alloc (.cells #[.int .i64 0] 42)).alloc (.cells #[.string s,.int .i64 0] 114)) w.heap.size (w.heap.size+1) (w.heap.size+1+1) (w.heap.size+1+1+1) s:=by
 obtain⟨w1,hw1⟩:∃w1,w1=w.alloc (.cells (mgN (head 0 0)).toArray 41):=⟨_,rfl⟩
 obtain⟨w2,hw2⟩:∃w2,w2=w1.alloc (.cells #[.int .i64 0] 3):=⟨_,rfl⟩
 obtain⟨w3,hw3⟩:∃w3,w3=w2.alloc (.cells #[.int .i64 0] 42):=⟨_,rfl⟩
 obtain⟨w4,hw4⟩:∃w4,w4=w3.alloc (.cells #[.string s,.int .i64 0] 114):=⟨_,rfl⟩
 have z1:w1.heap.size=w.heap.size+1:=by rw[hw1];exact World.size_alloc _ _
 have z2:w2.heap.size=w.heap.size+1+1:=by rw[hw2,World.size_alloc,z1]
 have z3:w3.heap.size=w.heap.size+1+1+1:=by rw[hw3,World.size_alloc,z2]
 rw[←hw1,←hw2,←hw3,←hw4]
 have hup:Below w.heap.size w w4:=by
  rw[hw4,hw3,hw2,hw1]
  exact((((Below.refl _ _).alloc (Nat.le_refl _) _).alloc (by rw[←hw1];omega) _).alloc (by rw[←hw1,←hw2];omega) _).alloc (by rw[←hw1,←hw2,←hw3];omega) _
 refine⟨hup,rfl,rfl,rfl,rfl, ?_, ?_, ?_,⟨?_,Nat.zero_le _,by omega⟩,hrd.eight,hse.low hup hrd.eight,hrd.below hup (Nat.le_refl _),by rw[hw4,World.size_alloc,z3]⟩
 ·rw[hw4,hw3,hw2,hw1];exact(((Blk.new w _ _).alloc _).alloc _).alloc _
 ·rw[hw4,hw3,hw2,←z1];exact((Blk.new w1 _ _).alloc _).alloc _
 ·rw[hw4,hw3,←z2];exact(Blk.new w2 _ _).alloc _
 ·rw[hw4,←z3];exact Blk.new w3 _ _
end Go.Proofs.YtkblmloobkiloaaGreatDoor
