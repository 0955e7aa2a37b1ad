/-
  MRW: what the laws of package msg need of them.
-/
import Derived.Test.YtkblmloobkiloaaGreatDoorT00
import Derived.Test.YtkblmloobkiloaaGreatDoorT24
import Derived.Test.YtkblmloobkiloaaGreatDoorT17
import Derived.IntWalk
set_option maxRecDepth 100000
set_option maxHeartbeats 6400000
namespace Go.Proofs.YtkblmloobkiloaaGreatDoor
open Go.Lib (hid)
open Go.RowKit
theorem jL(f:Fld)(w:World):Calls Tryz.prog 91 #[.int .u8 (f.rX.toNat:Int)] w fun e w'=>e= .returned (.int .i64 (f.width:Int))∧w=w':=by
 cases f
 ·(change Calls Tryz.prog 91 #[.int .u8 109] w _;go_enter Tryz.func91,Tryz.ntmps91;go_wp2_with fail;exact bodyPost_ret (v:= .int .i64 4) (by simp[results,Tryz.results91]) rfl ⟨rfl,rfl⟩)
 ·(change Calls Tryz.prog 91 #[.int .u8 118] w _;go_enter Tryz.func91,Tryz.ntmps91;go_wp2_with fail;exact bodyPost_ret (v:= .int .i64 0) (by simp[results,Tryz.results91]) rfl ⟨rfl,rfl⟩)
 ·(change Calls Tryz.prog 91 #[.int .u8 97] w _;go_enter Tryz.func91,Tryz.ntmps91;go_wp2_with fail;exact bodyPost_ret (v:= .int .i64 4) (by simp[results,Tryz.results91]) rfl ⟨rfl,rfl⟩)
 ·(change Calls Tryz.prog 91 #[.int .u8 117] w _;go_enter Tryz.func91,Tryz.ntmps91;go_wp2_with fail;exact bodyPost_ret (v:= .int .i64 0) (by simp[results,Tryz.results91]) rfl ⟨rfl,rfl⟩)
 ·(change Calls Tryz.prog 91 #[.int .u8 110] w _;go_enter Tryz.func91,Tryz.ntmps91;go_wp2_with fail;exact bodyPost_ret (v:= .int .i64 0) (by simp[results,Tryz.results91]) rfl ⟨rfl,rfl⟩)
 ·(change Calls Tryz.prog 91 #[.int .u8 101] w _;go_enter Tryz.func91,Tryz.ntmps91;go_wp2_with fail;exact bodyPost_ret (v:= .int .i64 0) (by simp[results,Tryz.results91]) rfl ⟨rfl,rfl⟩)
 ·(change Calls Tryz.prog 91 #[.int .u8 111] w _;go_enter Tryz.func91,Tryz.ntmps91;go_wp2_with fail;exact bodyPost_ret (v:= .int .i64 2) (by simp[results,Tryz.results91]) rfl ⟨rfl,rfl⟩)
 ·(change Calls Tryz.prog 91 #[.int .u8 102] w _;go_enter Tryz.func91,Tryz.ntmps91;go_wp2_with fail;exact bodyPost_ret (v:= .int .i64 4) (by simp[results,Tryz.results91]) rfl ⟨rfl,rfl⟩)
 ·(change Calls Tryz.prog 91 #[.int .u8 119] w _;go_enter Tryz.func91,Tryz.ntmps91;go_wp2_with fail;exact bodyPost_ret (v:= .int .i64 4) (by simp[results,Tryz.results91]) rfl ⟨rfl,rfl⟩)
 ·(change Calls Tryz.prog 91 #[.int .u8 78] w _;go_enter Tryz.func91,Tryz.ntmps91;go_wp2_with fail;exact bodyPost_ret (v:= .int .i64 0) (by simp[results,Tryz.results91]) rfl ⟨rfl,rfl⟩)
 ·(change Calls Tryz.prog 91 #[.int .u8 81] w _;go_enter Tryz.func91,Tryz.ntmps91;go_wp2_with fail;exact bodyPost_ret (v:= .int .i64 0) (by simp[results,Tryz.results91]) rfl ⟨rfl,rfl⟩)
 ·(change Calls Tryz.prog 91 #[.int .u8 113] w _;go_enter Tryz.func91,Tryz.ntmps91;go_wp2_with fail;exact bodyPost_ret (v:= .int .i64 0) (by simp[results,Tryz.results91]) rfl ⟨rfl,rfl⟩)
 ·(change Calls Tryz.prog 91 #[.int .u8 100] w _;go_enter Tryz.func91,Tryz.ntmps91;go_wp2_with fail;exact bodyPost_ret (v:= .int .i64 1) (by simp[results,Tryz.results91]) rfl ⟨rfl,rfl⟩)
 ·(change Calls Tryz.prog 91 #[.int .u8 105] w _;go_enter Tryz.func91,Tryz.ntmps91;go_wp2_with fail;exact bodyPost_ret (v:= .int .i64 4) (by simp[results,Tryz.results91]) rfl ⟨rfl,rfl⟩)
 ·(change Calls Tryz.prog 91 #[.int .u8 99] w _;go_enter Tryz.func91,Tryz.ntmps91;go_wp2_with fail;exact bodyPost_ret (v:= .int .i64 0) (by simp[results,Tryz.results91]) rfl ⟨rfl,rfl⟩)
 ·(change Calls Tryz.prog 91 #[.int .u8 112] w _;go_enter Tryz.func91,Tryz.ntmps91;go_wp2_with fail;exact bodyPost_ret (v:= .int .i64 4) (by simp[results,Tryz.results91]) rfl ⟨rfl,rfl⟩)
 ·(change Calls Tryz.prog 91 #[.int .u8 79] w _;go_enter Tryz.func91,Tryz.ntmps91;go_wp2_with fail;exact bodyPost_ret (v:= .int .i64 8) (by simp[results,Tryz.results91]) rfl ⟨rfl,rfl⟩)
 ·(change Calls Tryz.prog 91 #[.int .u8 67] w _;go_enter Tryz.func91,Tryz.ntmps91;go_wp2_with fail;exact bodyPost_ret (v:= .int .i64 4) (by simp[results,Tryz.results91]) rfl ⟨rfl,rfl⟩)
 ·(change Calls Tryz.prog 91 #[.int .u8 68] w _;go_enter Tryz.func91,Tryz.ntmps91;go_wp2_with fail;exact bodyPost_ret (v:= .int .i64 0) (by simp[results,Tryz.results91]) rfl ⟨rfl,rfl⟩)
 ·(change Calls Tryz.prog 91 #[.int .u8 83] w _;go_enter Tryz.func91,Tryz.ntmps91;go_wp2_with fail;exact bodyPost_ret (v:= .int .i64 0) (by simp[results,Tryz.results91]) rfl ⟨rfl,rfl⟩)
theorem jV(f:Fld)(w:World):Calls Tryz.prog 93 #[.int .u8 (f.rX.toNat:Int)] w fun e w'=>e= .returned (.bool f.isText)∧w=w':=by
 cases f
 ·(change Calls Tryz.prog 93 #[.int .u8 109] w _;go_enter Tryz.func93,Tryz.ntmps93;go_wp2_with fail;exact bodyPost_ret (v:= .bool false) (by simp[results,Tryz.results93]) rfl ⟨rfl,rfl⟩)
 ·(change Calls Tryz.prog 93 #[.int .u8 118] w _;go_enter Tryz.func93,Tryz.ntmps93;go_wp2_with fail;exact bodyPost_ret (v:= .bool true) (by simp[results,Tryz.results93]) rfl ⟨rfl,rfl⟩)
 ·(change Calls Tryz.prog 93 #[.int .u8 97] w _;go_enter Tryz.func93,Tryz.ntmps93;go_wp2_with fail;exact bodyPost_ret (v:= .bool false) (by simp[results,Tryz.results93]) rfl ⟨rfl,rfl⟩)
 ·(change Calls Tryz.prog 93 #[.int .u8 117] w _;go_enter Tryz.func93,Tryz.ntmps93;go_wp2_with fail;exact bodyPost_ret (v:= .bool true) (by simp[results,Tryz.results93]) rfl ⟨rfl,rfl⟩)
 ·(change Calls Tryz.prog 93 #[.int .u8 110] w _;go_enter Tryz.func93,Tryz.ntmps93;go_wp2_with fail;exact bodyPost_ret (v:= .bool true) (by simp[results,Tryz.results93]) rfl ⟨rfl,rfl⟩)
 ·(change Calls Tryz.prog 93 #[.int .u8 101] w _;go_enter Tryz.func93,Tryz.ntmps93;go_wp2_with fail;exact bodyPost_ret (v:= .bool true) (by simp[results,Tryz.results93]) rfl ⟨rfl,rfl⟩)
 ·(change Calls Tryz.prog 93 #[.int .u8 111] w _;go_enter Tryz.func93,Tryz.ntmps93;go_wp2_with fail;exact bodyPost_ret (v:= .bool false) (by simp[results,Tryz.results93]) rfl ⟨rfl,rfl⟩)
 ·(change Calls Tryz.prog 93 #[.int .u8 102] w _;go_enter Tryz.func93,Tryz.ntmps93;go_wp2_with fail;exact bodyPost_ret (v:= .bool false) (by simp[results,Tryz.results93]) rfl ⟨rfl,rfl⟩)
 ·(change Calls Tryz.prog 93 #[.int .u8 119] w _;go_enter Tryz.func93,Tryz.ntmps93;go_wp2_with fail;exact bodyPost_ret (v:= .bool false) (by simp[results,Tryz.results93]) rfl ⟨rfl,rfl⟩)
 ·(change Calls Tryz.prog 93 #[.int .u8 78] w _;go_enter Tryz.func93,Tryz.ntmps93;go_wp2_with fail;exact bodyPost_ret (v:= .bool false) (by simp[results,Tryz.results93]) rfl ⟨rfl,rfl⟩)
 ·(change Calls Tryz.prog 93 #[.int .u8 81] w _;go_enter Tryz.func93,Tryz.ntmps93;go_wp2_with fail;exact bodyPost_ret (v:= .bool false) (by simp[results,Tryz.results93]) rfl ⟨rfl,rfl⟩)
 ·(change Calls Tryz.prog 93 #[.int .u8 113] w _;go_enter Tryz.func93,Tryz.ntmps93;go_wp2_with fail;exact bodyPost_ret (v:= .bool false) (by simp[results,Tryz.results93]) rfl ⟨rfl,rfl⟩)
 ·(change Calls Tryz.prog 93 #[.int .u8 100] w _;go_enter Tryz.func93,Tryz.ntmps93;go_wp2_with fail;exact bodyPost_ret (v:= .bool false) (by simp[results,Tryz.results93]) rfl ⟨rfl,rfl⟩)
 ·(change Calls Tryz.prog 93 #[.int .u8 105] w _;go_enter Tryz.func93,Tryz.ntmps93;go_wp2_with fail;exact bodyPost_ret (v:= .bool false) (by simp[results,Tryz.results93]) rfl ⟨rfl,rfl⟩)
 ·(change Calls Tryz.prog 93 #[.int .u8 99] w _;go_enter Tryz.func93,Tryz.ntmps93;go_wp2_with fail;exact bodyPost_ret (v:= .bool true) (by simp[results,Tryz.results93]) rfl ⟨rfl,rfl⟩)
 ·(change Calls Tryz.prog 93 #[.int .u8 112] w _;go_enter Tryz.func93,Tryz.ntmps93;go_wp2_with fail;exact bodyPost_ret (v:= .bool false) (by simp[results,Tryz.results93]) rfl ⟨rfl,rfl⟩)
 ·(change Calls Tryz.prog 93 #[.int .u8 79] w _;go_enter Tryz.func93,Tryz.ntmps93;go_wp2_with fail;exact bodyPost_ret (v:= .bool false) (by simp[results,Tryz.results93]) rfl ⟨rfl,rfl⟩)
 ·(change Calls Tryz.prog 93 #[.int .u8 67] w _;go_enter Tryz.func93,Tryz.ntmps93;go_wp2_with fail;exact bodyPost_ret (v:= .bool false) (by simp[results,Tryz.results93]) rfl ⟨rfl,rfl⟩)
 ·(change Calls Tryz.prog 93 #[.int .u8 68] w _;go_enter Tryz.func93,Tryz.ntmps93;go_wp2_with fail;exact bodyPost_ret (v:= .bool false) (by simp[results,Tryz.results93]) rfl ⟨rfl,rfl⟩)
 ·(change Calls Tryz.prog 93 #[.int .u8 83] w _;go_enter Tryz.func93,Tryz.ntmps93;go_wp2_with fail;exact bodyPost_ret (v:= .bool false) (by simp[results,Tryz.results93]) rfl ⟨rfl,rfl⟩)
def Pz(m:Mg)(vn vq vd:Value)(w:World)(e:Ending)(w':World):Prop:=e= .returned (iM m vn vq vd)∧Below w.heap.size w w'
theorem uZ(w:World)(m:Mg)(vn vq vd:Value):Below w.heap.size w ((w.alloc (.cells (aF m vn vq vd).toArray 41)).alloc (.cells (mgN (head 0 0)).toArray 41))∧aK ((w.alloc (.cells (aF m vn vq vd).toArray 41)).alloc (.cells (mgN (head 0 0)).toArray 41)) w.heap.size m vn vq vd∧aK ((w.alloc (.cells (aF m vn vq vd).toArray 41)).alloc (.cells (mgN (head 0 0)).toArray 41)) (w.heap.size+1) (head 0 0) (.slice none 0 0) (.slice none 0 0) (.slice none 0 0):=by
 refine⟨((Below.refl _ _).alloc (Nat.le_refl _) _).alloc (by rw[World.size_alloc];omega) _,(Blk.new w _ _).alloc _, ?_⟩
 have h:aK ((w.alloc (.cells (aF m vn vq vd).toArray 41)).alloc (.cells (mgN (head 0 0)).toArray 41)) (w.alloc (.cells (aF m vn vq vd).toArray 41)).heap.size (head 0 0) (.slice none 0 0) (.slice none 0 0) (.slice none 0 0):=Blk.new _ _ _
 rwa[World.size_alloc]at h
theorem uT(f:Fld)(hf:0<f.width)(n:Nat)(hn:n<256^f.width)(m:Mg)(vn vq vd:Value)(h1:vn.oneCell'=true)(h2:vq.oneCell'=true)(h3:vd.oneCell'=true)(w:World):Calls Tryz.prog 92 #[iM m vn vq vd,.int .u8 (f.rX.toNat:Int),.int .u64 (n:Int)] w (Pz (m.aG n f) vn vq vd w):=by
 obtain⟨hu,hm,hz⟩:=uZ w m vn vq vd
 have HU:=hid hu
 have HM:=hid hm
 have HZ:=hid hz
 clear hu hm hz
 cases f
 ·as_aux_lemma=>
   change Calls Tryz.prog 92 #[iM m vn vq vd,.int .u8 109,.int .u64 (n:Int)] w _
   have hn:n<4294967296:=hn
   have hw:IntKind.u32.wrap (n:Int)=(n:Int):=by rw[IntKind.wrap_u32];omega
   go_enter Tryz.func92,Tryz.ntmps92
   go_upto_region 1 with(fail)
   change Code.wp _ _ _ _ ((w.alloc (.cells (aF m vn vq vd).toArray 41)).alloc (.cells (mgN (head 0 0)).toArray 41))
   generalize(w.alloc (.cells (aF m vn vq vd).toArray 41)).alloc (.cells (mgN (head 0 0)).toArray 41)=w1 at HU HM HZ⊢
   generalize hq:w.heap.size+1=q at HZ⊢
   have HQ:=hid hq;clear hq
   generalize hz:w.heap.size=z at HM HU⊢
   have HZZ:=hid hz;clear hz
   have k1:w1.cell? ⟨z,2,none⟩=some (.int .u32 (m.bI:Int)):=Blk.cell HM.out 2
   have f1:w1.frozen? ⟨z,2,none⟩=false:=Blk.frozen HM.out 2
   have HT:=hid (show aK (w1.setCell ⟨z,2,none⟩ (.int .u32 (n:Int))) z (m.aG n .bI) vn vq vd from Blk.aW HM.out 2 _)
   have hne:q≠z:=by have:=HQ.out;have:=HZZ.out;omega
   have HZ2:=hid (show aK (w1.setCell ⟨z,2,none⟩ (.int .u32 (n:Int))) q (head 0 0) (.slice none 0 0) (.slice none 0 0) (.slice none 0 0)from Blk.far HZ.out hne _)
   have HU2:=hid (show Below z w (w1.setCell ⟨z,2,none⟩ (.int .u32 (n:Int)))from HU.out.setCell (Nat.le_refl _) _)
   clear hne
   go_wp2_with(first|(refine wlw HT.out 0 (aF (m.aG n .bI) vn vq vd) rfl rfl _ _ rfl rfl _ Tryz.underlying41 rfl aB ?_)|(refine dA HZ2.out 0 (aF (m.aG n .bI) vn vq vd) _ (bW ..) (Nat.le_refl 36) (bT _ h1 h2 h3) rfl _ _ _ rfl rfl rfl aB ?_;intro wz hs ho;have HZF:=hid hs;have HOF:=hid ((ho (fun i=>i=q) rfl _ (Off.refl _ _)).below (B:=z) (fun i hi=>(by have hi:i=q:=hi;have:=HQ.out;have:=HZZ.out;omega)) (by have:=Blk.lt HT.out;omega));clear hs ho))
   refine bodyPost_ret (bf (l:=aF (m.aG n .bI) vn vq vd) rfl Tryz.underlying41 rfl aB rfl HZF.out) rfl ⟨rfl, ?_⟩
   rw[HZZ.out]
   exact HU2.out.trans HOF.out
 ·exact absurd hf (by decide)
 ·as_aux_lemma=>
   change Calls Tryz.prog 92 #[iM m vn vq vd,.int .u8 97,.int .u64 (n:Int)] w _
   have hn:n<4294967296:=hn
   have hw:IntKind.u32.wrap (n:Int)=(n:Int):=by rw[IntKind.wrap_u32];omega
   go_enter Tryz.func92,Tryz.ntmps92
   go_upto_region 1 with(fail)
   change Code.wp _ _ _ _ ((w.alloc (.cells (aF m vn vq vd).toArray 41)).alloc (.cells (mgN (head 0 0)).toArray 41))
   generalize(w.alloc (.cells (aF m vn vq vd).toArray 41)).alloc (.cells (mgN (head 0 0)).toArray 41)=w1 at HU HM HZ⊢
   generalize hq:w.heap.size+1=q at HZ⊢
   have HQ:=hid hq;clear hq
   generalize hz:w.heap.size=z at HM HU⊢
   have HZZ:=hid hz;clear hz
   have k1:w1.cell? ⟨z,4,none⟩=some (.int .u32 (m.dB:Int)):=Blk.cell HM.out 4
   have f1:w1.frozen? ⟨z,4,none⟩=false:=Blk.frozen HM.out 4
   have HT:=hid (show aK (w1.setCell ⟨z,4,none⟩ (.int .u32 (n:Int))) z (m.aG n .dB) vn vq vd from Blk.aW HM.out 4 _)
   have hne:q≠z:=by have:=HQ.out;have:=HZZ.out;omega
   have HZ2:=hid (show aK (w1.setCell ⟨z,4,none⟩ (.int .u32 (n:Int))) q (head 0 0) (.slice none 0 0) (.slice none 0 0) (.slice none 0 0)from Blk.far HZ.out hne _)
   have HU2:=hid (show Below z w (w1.setCell ⟨z,4,none⟩ (.int .u32 (n:Int)))from HU.out.setCell (Nat.le_refl _) _)
   clear hne
   go_wp2_with(first|(refine wlw HT.out 0 (aF (m.aG n .dB) vn vq vd) rfl rfl _ _ rfl rfl _ Tryz.underlying41 rfl aB ?_)|(refine dA HZ2.out 0 (aF (m.aG n .dB) vn vq vd) _ (bW ..) (Nat.le_refl 36) (bT _ h1 h2 h3) rfl _ _ _ rfl rfl rfl aB ?_;intro wz hs ho;have HZF:=hid hs;have HOF:=hid ((ho (fun i=>i=q) rfl _ (Off.refl _ _)).below (B:=z) (fun i hi=>(by have hi:i=q:=hi;have:=HQ.out;have:=HZZ.out;omega)) (by have:=Blk.lt HT.out;omega));clear hs ho))
   refine bodyPost_ret (bf (l:=aF (m.aG n .dB) vn vq vd) rfl Tryz.underlying41 rfl aB rfl HZF.out) rfl ⟨rfl, ?_⟩
   rw[HZZ.out]
   exact HU2.out.trans HOF.out
 ·exact absurd hf (by decide)
 ·exact absurd hf (by decide)
 ·exact absurd hf (by decide)
 ·as_aux_lemma=>
   change Calls Tryz.prog 92 #[iM m vn vq vd,.int .u8 111,.int .u64 (n:Int)] w _
   have hn:n<65536:=hn
   have hw:IntKind.u16.wrap (n:Int)=(n:Int):=by rw[IntKind.wrap_u16];omega
   go_enter Tryz.func92,Tryz.ntmps92
   go_upto_region 1 with(fail)
   change Code.wp _ _ _ _ ((w.alloc (.cells (aF m vn vq vd).toArray 41)).alloc (.cells (mgN (head 0 0)).toArray 41))
   generalize(w.alloc (.cells (aF m vn vq vd).toArray 41)).alloc (.cells (mgN (head 0 0)).toArray 41)=w1 at HU HM HZ⊢
   generalize hq:w.heap.size+1=q at HZ⊢
   have HQ:=hid hq;clear hq
   generalize hz:w.heap.size=z at HM HU⊢
   have HZZ:=hid hz;clear hz
   have k1:w1.cell? ⟨z,8,none⟩=some (.int .u16 (m.aT:Int)):=Blk.cell HM.out 8
   have f1:w1.frozen? ⟨z,8,none⟩=false:=Blk.frozen HM.out 8
   have HT:=hid (show aK (w1.setCell ⟨z,8,none⟩ (.int .u16 (n:Int))) z (m.aG n .aT) vn vq vd from Blk.aW HM.out 8 _)
   have hne:q≠z:=by have:=HQ.out;have:=HZZ.out;omega
   have HZ2:=hid (show aK (w1.setCell ⟨z,8,none⟩ (.int .u16 (n:Int))) q (head 0 0) (.slice none 0 0) (.slice none 0 0) (.slice none 0 0)from Blk.far HZ.out hne _)
   have HU2:=hid (show Below z w (w1.setCell ⟨z,8,none⟩ (.int .u16 (n:Int)))from HU.out.setCell (Nat.le_refl _) _)
   clear hne
   go_wp2_with(first|(refine wlw HT.out 0 (aF (m.aG n .aT) vn vq vd) rfl rfl _ _ rfl rfl _ Tryz.underlying41 rfl aB ?_)|(refine dA HZ2.out 0 (aF (m.aG n .aT) vn vq vd) _ (bW ..) (Nat.le_refl 36) (bT _ h1 h2 h3) rfl _ _ _ rfl rfl rfl aB ?_;intro wz hs ho;have HZF:=hid hs;have HOF:=hid ((ho (fun i=>i=q) rfl _ (Off.refl _ _)).below (B:=z) (fun i hi=>(by have hi:i=q:=hi;have:=HQ.out;have:=HZZ.out;omega)) (by have:=Blk.lt HT.out;omega));clear hs ho))
   refine bodyPost_ret (bf (l:=aF (m.aG n .aT) vn vq vd) rfl Tryz.underlying41 rfl aB rfl HZF.out) rfl ⟨rfl, ?_⟩
   rw[HZZ.out]
   exact HU2.out.trans HOF.out
 ·as_aux_lemma=>
   change Calls Tryz.prog 92 #[iM m vn vq vd,.int .u8 102,.int .u64 (n:Int)] w _
   have hn:n<4294967296:=hn
   have hw:IntKind.u32.wrap (n:Int)=(n:Int):=by rw[IntKind.wrap_u32];omega
   go_enter Tryz.func92,Tryz.ntmps92
   go_upto_region 1 with(fail)
   change Code.wp _ _ _ _ ((w.alloc (.cells (aF m vn vq vd).toArray 41)).alloc (.cells (mgN (head 0 0)).toArray 41))
   generalize(w.alloc (.cells (aF m vn vq vd).toArray 41)).alloc (.cells (mgN (head 0 0)).toArray 41)=w1 at HU HM HZ⊢
   generalize hq:w.heap.size+1=q at HZ⊢
   have HQ:=hid hq;clear hq
   generalize hz:w.heap.size=z at HM HU⊢
   have HZZ:=hid hz;clear hz
   have k1:w1.cell? ⟨z,9,none⟩=some (.int .u32 (m.fid:Int)):=Blk.cell HM.out 9
   have f1:w1.frozen? ⟨z,9,none⟩=false:=Blk.frozen HM.out 9
   have HT:=hid (show aK (w1.setCell ⟨z,9,none⟩ (.int .u32 (n:Int))) z (m.aG n .fid) vn vq vd from Blk.aW HM.out 9 _)
   have hne:q≠z:=by have:=HQ.out;have:=HZZ.out;omega
   have HZ2:=hid (show aK (w1.setCell ⟨z,9,none⟩ (.int .u32 (n:Int))) q (head 0 0) (.slice none 0 0) (.slice none 0 0) (.slice none 0 0)from Blk.far HZ.out hne _)
   have HU2:=hid (show Below z w (w1.setCell ⟨z,9,none⟩ (.int .u32 (n:Int)))from HU.out.setCell (Nat.le_refl _) _)
   clear hne
   go_wp2_with(first|(refine wlw HT.out 0 (aF (m.aG n .fid) vn vq vd) rfl rfl _ _ rfl rfl _ Tryz.underlying41 rfl aB ?_)|(refine dA HZ2.out 0 (aF (m.aG n .fid) vn vq vd) _ (bW ..) (Nat.le_refl 36) (bT _ h1 h2 h3) rfl _ _ _ rfl rfl rfl aB ?_;intro wz hs ho;have HZF:=hid hs;have HOF:=hid ((ho (fun i=>i=q) rfl _ (Off.refl _ _)).below (B:=z) (fun i hi=>(by have hi:i=q:=hi;have:=HQ.out;have:=HZZ.out;omega)) (by have:=Blk.lt HT.out;omega));clear hs ho))
   refine bodyPost_ret (bf (l:=aF (m.aG n .fid) vn vq vd) rfl Tryz.underlying41 rfl aB rfl HZF.out) rfl ⟨rfl, ?_⟩
   rw[HZZ.out]
   exact HU2.out.trans HOF.out
 ·as_aux_lemma=>
   change Calls Tryz.prog 92 #[iM m vn vq vd,.int .u8 119,.int .u64 (n:Int)] w _
   have hn:n<4294967296:=hn
   have hw:IntKind.u32.wrap (n:Int)=(n:Int):=by rw[IntKind.wrap_u32];omega
   go_enter Tryz.func92,Tryz.ntmps92
   go_upto_region 1 with(fail)
   change Code.wp _ _ _ _ ((w.alloc (.cells (aF m vn vq vd).toArray 41)).alloc (.cells (mgN (head 0 0)).toArray 41))
   generalize(w.alloc (.cells (aF m vn vq vd).toArray 41)).alloc (.cells (mgN (head 0 0)).toArray 41)=w1 at HU HM HZ⊢
   generalize hq:w.heap.size+1=q at HZ⊢
   have HQ:=hid hq;clear hq
   generalize hz:w.heap.size=z at HM HU⊢
   have HZZ:=hid hz;clear hz
   have k1:w1.cell? ⟨z,10,none⟩=some (.int .u32 (m.aU:Int)):=Blk.cell HM.out 10
   have f1:w1.frozen? ⟨z,10,none⟩=false:=Blk.frozen HM.out 10
   have HT:=hid (show aK (w1.setCell ⟨z,10,none⟩ (.int .u32 (n:Int))) z (m.aG n .aU) vn vq vd from Blk.aW HM.out 10 _)
   have hne:q≠z:=by have:=HQ.out;have:=HZZ.out;omega
   have HZ2:=hid (show aK (w1.setCell ⟨z,10,none⟩ (.int .u32 (n:Int))) q (head 0 0) (.slice none 0 0) (.slice none 0 0) (.slice none 0 0)from Blk.far HZ.out hne _)
   have HU2:=hid (show Below z w (w1.setCell ⟨z,10,none⟩ (.int .u32 (n:Int)))from HU.out.setCell (Nat.le_refl _) _)
   clear hne
   go_wp2_with(first|(refine wlw HT.out 0 (aF (m.aG n .aU) vn vq vd) rfl rfl _ _ rfl rfl _ Tryz.underlying41 rfl aB ?_)|(refine dA HZ2.out 0 (aF (m.aG n .aU) vn vq vd) _ (bW ..) (Nat.le_refl 36) (bT _ h1 h2 h3) rfl _ _ _ rfl rfl rfl aB ?_;intro wz hs ho;have HZF:=hid hs;have HOF:=hid ((ho (fun i=>i=q) rfl _ (Off.refl _ _)).below (B:=z) (fun i hi=>(by have hi:i=q:=hi;have:=HQ.out;have:=HZZ.out;omega)) (by have:=Blk.lt HT.out;omega));clear hs ho))
   refine bodyPost_ret (bf (l:=aF (m.aG n .aU) vn vq vd) rfl Tryz.underlying41 rfl aB rfl HZF.out) rfl ⟨rfl, ?_⟩
   rw[HZZ.out]
   exact HU2.out.trans HOF.out
 ·exact absurd hf (by decide)
 ·exact absurd hf (by decide)
 ·exact absurd hf (by decide)
 ·as_aux_lemma=>
   change Calls Tryz.prog 92 #[iM m vn vq vd,.int .u8 100,.int .u64 (n:Int)] w _
   have hn:n<256:=hn
   have hw:IntKind.u8.wrap (n:Int)=(n:Int):=by rw[IntKind.wrap_u8];omega
   go_enter Tryz.func92,Tryz.ntmps92
   go_upto_region 1 with(fail)
   change Code.wp _ _ _ _ ((w.alloc (.cells (aF m vn vq vd).toArray 41)).alloc (.cells (mgN (head 0 0)).toArray 41))
   generalize(w.alloc (.cells (aF m vn vq vd).toArray 41)).alloc (.cells (mgN (head 0 0)).toArray 41)=w1 at HU HM HZ⊢
   generalize hq:w.heap.size+1=q at HZ⊢
   have HQ:=hid hq;clear hq
   generalize hz:w.heap.size=z at HM HU⊢
   have HZZ:=hid hz;clear hz
   have k1:w1.cell? ⟨z,16,none⟩=some (.int .u8 (m.mode:Int)):=Blk.cell HM.out 16
   have f1:w1.frozen? ⟨z,16,none⟩=false:=Blk.frozen HM.out 16
   have HT:=hid (show aK (w1.setCell ⟨z,16,none⟩ (.int .u8 (n:Int))) z (m.aG n .mode) vn vq vd from Blk.aW HM.out 16 _)
   have hne:q≠z:=by have:=HQ.out;have:=HZZ.out;omega
   have HZ2:=hid (show aK (w1.setCell ⟨z,16,none⟩ (.int .u8 (n:Int))) q (head 0 0) (.slice none 0 0) (.slice none 0 0) (.slice none 0 0)from Blk.far HZ.out hne _)
   have HU2:=hid (show Below z w (w1.setCell ⟨z,16,none⟩ (.int .u8 (n:Int)))from HU.out.setCell (Nat.le_refl _) _)
   clear hne
   go_wp2_with(first|(refine wlw HT.out 0 (aF (m.aG n .mode) vn vq vd) rfl rfl _ _ rfl rfl _ Tryz.underlying41 rfl aB ?_)|(refine dA HZ2.out 0 (aF (m.aG n .mode) vn vq vd) _ (bW ..) (Nat.le_refl 36) (bT _ h1 h2 h3) rfl _ _ _ rfl rfl rfl aB ?_;intro wz hs ho;have HZF:=hid hs;have HOF:=hid ((ho (fun i=>i=q) rfl _ (Off.refl _ _)).below (B:=z) (fun i hi=>(by have hi:i=q:=hi;have:=HQ.out;have:=HZZ.out;omega)) (by have:=Blk.lt HT.out;omega));clear hs ho))
   refine bodyPost_ret (bf (l:=aF (m.aG n .mode) vn vq vd) rfl Tryz.underlying41 rfl aB rfl HZF.out) rfl ⟨rfl, ?_⟩
   rw[HZZ.out]
   exact HU2.out.trans HOF.out
 ·as_aux_lemma=>
   change Calls Tryz.prog 92 #[iM m vn vq vd,.int .u8 105,.int .u64 (n:Int)] w _
   have hn:n<4294967296:=hn
   have hw:IntKind.u32.wrap (n:Int)=(n:Int):=by rw[IntKind.wrap_u32];omega
   go_enter Tryz.func92,Tryz.ntmps92
   go_upto_region 1 with(fail)
   change Code.wp _ _ _ _ ((w.alloc (.cells (aF m vn vq vd).toArray 41)).alloc (.cells (mgN (head 0 0)).toArray 41))
   generalize(w.alloc (.cells (aF m vn vq vd).toArray 41)).alloc (.cells (mgN (head 0 0)).toArray 41)=w1 at HU HM HZ⊢
   generalize hq:w.heap.size+1=q at HZ⊢
   have HQ:=hid hq;clear hq
   generalize hz:w.heap.size=z at HM HU⊢
   have HZZ:=hid hz;clear hz
   have k1:w1.cell? ⟨z,17,none⟩=some (.int .u32 (m.aQ:Int)):=Blk.cell HM.out 17
   have f1:w1.frozen? ⟨z,17,none⟩=false:=Blk.frozen HM.out 17
   have HT:=hid (show aK (w1.setCell ⟨z,17,none⟩ (.int .u32 (n:Int))) z (m.aG n .aQ) vn vq vd from Blk.aW HM.out 17 _)
   have hne:q≠z:=by have:=HQ.out;have:=HZZ.out;omega
   have HZ2:=hid (show aK (w1.setCell ⟨z,17,none⟩ (.int .u32 (n:Int))) q (head 0 0) (.slice none 0 0) (.slice none 0 0) (.slice none 0 0)from Blk.far HZ.out hne _)
   have HU2:=hid (show Below z w (w1.setCell ⟨z,17,none⟩ (.int .u32 (n:Int)))from HU.out.setCell (Nat.le_refl _) _)
   clear hne
   go_wp2_with(first|(refine wlw HT.out 0 (aF (m.aG n .aQ) vn vq vd) rfl rfl _ _ rfl rfl _ Tryz.underlying41 rfl aB ?_)|(refine dA HZ2.out 0 (aF (m.aG n .aQ) vn vq vd) _ (bW ..) (Nat.le_refl 36) (bT _ h1 h2 h3) rfl _ _ _ rfl rfl rfl aB ?_;intro wz hs ho;have HZF:=hid hs;have HOF:=hid ((ho (fun i=>i=q) rfl _ (Off.refl _ _)).below (B:=z) (fun i hi=>(by have hi:i=q:=hi;have:=HQ.out;have:=HZZ.out;omega)) (by have:=Blk.lt HT.out;omega));clear hs ho))
   refine bodyPost_ret (bf (l:=aF (m.aG n .aQ) vn vq vd) rfl Tryz.underlying41 rfl aB rfl HZF.out) rfl ⟨rfl, ?_⟩
   rw[HZZ.out]
   exact HU2.out.trans HOF.out
 ·exact absurd hf (by decide)
 ·as_aux_lemma=>
   change Calls Tryz.prog 92 #[iM m vn vq vd,.int .u8 112,.int .u64 (n:Int)] w _
   have hn:n<4294967296:=hn
   have hw:IntKind.u32.wrap (n:Int)=(n:Int):=by rw[IntKind.wrap_u32];omega
   go_enter Tryz.func92,Tryz.ntmps92
   go_upto_region 1 with(fail)
   change Code.wp _ _ _ _ ((w.alloc (.cells (aF m vn vq vd).toArray 41)).alloc (.cells (mgN (head 0 0)).toArray 41))
   generalize(w.alloc (.cells (aF m vn vq vd).toArray 41)).alloc (.cells (mgN (head 0 0)).toArray 41)=w1 at HU HM HZ⊢
   generalize hq:w.heap.size+1=q at HZ⊢
   have HQ:=hid hq;clear hq
   generalize hz:w.heap.size=z at HM HU⊢
   have HZZ:=hid hz;clear hz
   have k1:w1.cell? ⟨z,19,none⟩=some (.int .u32 (m.perm:Int)):=Blk.cell HM.out 19
   have f1:w1.frozen? ⟨z,19,none⟩=false:=Blk.frozen HM.out 19
   have HT:=hid (show aK (w1.setCell ⟨z,19,none⟩ (.int .u32 (n:Int))) z (m.aG n .perm) vn vq vd from Blk.aW HM.out 19 _)
   have hne:q≠z:=by have:=HQ.out;have:=HZZ.out;omega
   have HZ2:=hid (show aK (w1.setCell ⟨z,19,none⟩ (.int .u32 (n:Int))) q (head 0 0) (.slice none 0 0) (.slice none 0 0) (.slice none 0 0)from Blk.far HZ.out hne _)
   have HU2:=hid (show Below z w (w1.setCell ⟨z,19,none⟩ (.int .u32 (n:Int)))from HU.out.setCell (Nat.le_refl _) _)
   clear hne
   go_wp2_with(first|(refine wlw HT.out 0 (aF (m.aG n .perm) vn vq vd) rfl rfl _ _ rfl rfl _ Tryz.underlying41 rfl aB ?_)|(refine dA HZ2.out 0 (aF (m.aG n .perm) vn vq vd) _ (bW ..) (Nat.le_refl 36) (bT _ h1 h2 h3) rfl _ _ _ rfl rfl rfl aB ?_;intro wz hs ho;have HZF:=hid hs;have HOF:=hid ((ho (fun i=>i=q) rfl _ (Off.refl _ _)).below (B:=z) (fun i hi=>(by have hi:i=q:=hi;have:=HQ.out;have:=HZZ.out;omega)) (by have:=Blk.lt HT.out;omega));clear hs ho))
   refine bodyPost_ret (bf (l:=aF (m.aG n .perm) vn vq vd) rfl Tryz.underlying41 rfl aB rfl HZF.out) rfl ⟨rfl, ?_⟩
   rw[HZZ.out]
   exact HU2.out.trans HOF.out
 ·as_aux_lemma=>
   change Calls Tryz.prog 92 #[iM m vn vq vd,.int .u8 79,.int .u64 (n:Int)] w _
   have hn:n<18446744073709551616:=hn
   go_enter Tryz.func92,Tryz.ntmps92
   go_upto_region 1 with(fail)
   change Code.wp _ _ _ _ ((w.alloc (.cells (aF m vn vq vd).toArray 41)).alloc (.cells (mgN (head 0 0)).toArray 41))
   generalize(w.alloc (.cells (aF m vn vq vd).toArray 41)).alloc (.cells (mgN (head 0 0)).toArray 41)=w1 at HU HM HZ⊢
   generalize hq:w.heap.size+1=q at HZ⊢
   have HQ:=hid hq;clear hq
   generalize hz:w.heap.size=z at HM HU⊢
   have HZZ:=hid hz;clear hz
   have k1:w1.cell? ⟨z,20,none⟩=some (.int .u64 (m.offset:Int)):=Blk.cell HM.out 20
   have f1:w1.frozen? ⟨z,20,none⟩=false:=Blk.frozen HM.out 20
   have HT:=hid (show aK (w1.setCell ⟨z,20,none⟩ (.int .u64 (n:Int))) z (m.aG n .offset) vn vq vd from Blk.aW HM.out 20 _)
   have hne:q≠z:=by have:=HQ.out;have:=HZZ.out;omega
   have HZ2:=hid (show aK (w1.setCell ⟨z,20,none⟩ (.int .u64 (n:Int))) q (head 0 0) (.slice none 0 0) (.slice none 0 0) (.slice none 0 0)from Blk.far HZ.out hne _)
   have HU2:=hid (show Below z w (w1.setCell ⟨z,20,none⟩ (.int .u64 (n:Int)))from HU.out.setCell (Nat.le_refl _) _)
   clear hne
   go_wp2_with(first|(refine wlw HT.out 0 (aF (m.aG n .offset) vn vq vd) rfl rfl _ _ rfl rfl _ Tryz.underlying41 rfl aB ?_)|(refine dA HZ2.out 0 (aF (m.aG n .offset) vn vq vd) _ (bW ..) (Nat.le_refl 36) (bT _ h1 h2 h3) rfl _ _ _ rfl rfl rfl aB ?_;intro wz hs ho;have HZF:=hid hs;have HOF:=hid ((ho (fun i=>i=q) rfl _ (Off.refl _ _)).below (B:=z) (fun i hi=>(by have hi:i=q:=hi;have:=HQ.out;have:=HZZ.out;omega)) (by have:=Blk.lt HT.out;omega));clear hs ho))
   refine bodyPost_ret (bf (l:=aF (m.aG n .offset) vn vq vd) rfl Tryz.underlying41 rfl aB rfl HZF.out) rfl ⟨rfl, ?_⟩
   rw[HZZ.out]
   exact HU2.out.trans HOF.out
 ·as_aux_lemma=>
   change Calls Tryz.prog 92 #[iM m vn vq vd,.int .u8 67,.int .u64 (n:Int)] w _
   have hn:n<4294967296:=hn
   have hw:IntKind.u32.wrap (n:Int)=(n:Int):=by rw[IntKind.wrap_u32];omega
   go_enter Tryz.func92,Tryz.ntmps92
   go_upto_region 1 with(fail)
   change Code.wp _ _ _ _ ((w.alloc (.cells (aF m vn vq vd).toArray 41)).alloc (.cells (mgN (head 0 0)).toArray 41))
   generalize(w.alloc (.cells (aF m vn vq vd).toArray 41)).alloc (.cells (mgN (head 0 0)).toArray 41)=w1 at HU HM HZ⊢
   generalize hq:w.heap.size+1=q at HZ⊢
   have HQ:=hid hq;clear hq
   generalize hz:w.heap.size=z at HM HU⊢
   have HZZ:=hid hz;clear hz
   have k1:w1.cell? ⟨z,21,none⟩=some (.int .u32 (m.count:Int)):=Blk.cell HM.out 21
   have f1:w1.frozen? ⟨z,21,none⟩=false:=Blk.frozen HM.out 21
   have HT:=hid (show aK (w1.setCell ⟨z,21,none⟩ (.int .u32 (n:Int))) z (m.aG n .count) vn vq vd from Blk.aW HM.out 21 _)
   have hne:q≠z:=by have:=HQ.out;have:=HZZ.out;omega
   have HZ2:=hid (show aK (w1.setCell ⟨z,21,none⟩ (.int .u32 (n:Int))) q (head 0 0) (.slice none 0 0) (.slice none 0 0) (.slice none 0 0)from Blk.far HZ.out hne _)
   have HU2:=hid (show Below z w (w1.setCell ⟨z,21,none⟩ (.int .u32 (n:Int)))from HU.out.setCell (Nat.le_refl _) _)
   clear hne
   go_wp2_with(first|(refine wlw HT.out 0 (aF (m.aG n .count) vn vq vd) rfl rfl _ _ rfl rfl _ Tryz.underlying41 rfl aB ?_)|(refine dA HZ2.out 0 (aF (m.aG n .count) vn vq vd) _ (bW ..) (Nat.le_refl 36) (bT _ h1 h2 h3) rfl _ _ _ rfl rfl rfl aB ?_;intro wz hs ho;have HZF:=hid hs;have HOF:=hid ((ho (fun i=>i=q) rfl _ (Off.refl _ _)).below (B:=z) (fun i hi=>(by have hi:i=q:=hi;have:=HQ.out;have:=HZZ.out;omega)) (by have:=Blk.lt HT.out;omega));clear hs ho))
   refine bodyPost_ret (bf (l:=aF (m.aG n .count) vn vq vd) rfl Tryz.underlying41 rfl aB rfl HZF.out) rfl ⟨rfl, ?_⟩
   rw[HZZ.out]
   exact HU2.out.trans HOF.out
 ·exact absurd hf (by decide)
 ·exact absurd hf (by decide)
theorem yP(f:Fld)(hf:f.isText=true)(s:ByteArray)(m:Mg)(vn vq vd:Value)(h1:vn.oneCell'=true)(h2:vq.oneCell'=true)(h3:vd.oneCell'=true)(w:World):Calls Tryz.prog 95 #[iM m vn vq vd,.int .u8 (f.rX.toNat:Int),.string s] w (Pz (m.bV s f) vn vq vd w):=by
 obtain⟨hu,hm,hz⟩:=uZ w m vn vq vd
 have HU:=hid hu
 have HM:=hid hm
 have HZ:=hid hz
 clear hu hm hz
 cases f
 ·cases hf
 ·as_aux_lemma=>
   change Calls Tryz.prog 95 #[iM m vn vq vd,.int .u8 118,.string s] w _
   go_enter Tryz.func95,Tryz.ntmps95
   go_upto_region 1 with(fail)
   change Code.wp _ _ _ _ ((w.alloc (.cells (aF m vn vq vd).toArray 41)).alloc (.cells (mgN (head 0 0)).toArray 41))
   generalize(w.alloc (.cells (aF m vn vq vd).toArray 41)).alloc (.cells (mgN (head 0 0)).toArray 41)=w1 at HU HM HZ⊢
   generalize hq:w.heap.size+1=q at HZ⊢
   have HQ:=hid hq;clear hq
   generalize hz:w.heap.size=z at HM HU⊢
   have HZZ:=hid hz;clear hz
   have k1:w1.cell? ⟨z,3,none⟩=some (.string m.version):=Blk.cell HM.out 3
   have f1:w1.frozen? ⟨z,3,none⟩=false:=Blk.frozen HM.out 3
   have HT:=hid (show aK (w1.setCell ⟨z,3,none⟩ (.string s)) z (m.bV s .version) vn vq vd from Blk.aW HM.out 3 _)
   have hne:q≠z:=by have:=HQ.out;have:=HZZ.out;omega
   have HZ2:=hid (show aK (w1.setCell ⟨z,3,none⟩ (.string s)) q (head 0 0) (.slice none 0 0) (.slice none 0 0) (.slice none 0 0)from Blk.far HZ.out hne _)
   have HU2:=hid (show Below z w (w1.setCell ⟨z,3,none⟩ (.string s))from HU.out.setCell (Nat.le_refl _) _)
   clear hne
   go_wp2_with(first|(refine wlw HT.out 0 (aF (m.bV s .version) vn vq vd) rfl rfl _ _ rfl rfl _ Tryz.underlying41 rfl aB ?_)|(refine dA HZ2.out 0 (aF (m.bV s .version) vn vq vd) _ (bW ..) (Nat.le_refl 36) (bT _ h1 h2 h3) rfl _ _ _ rfl rfl rfl aB ?_;intro wz hs ho;have HZF:=hid hs;have HOF:=hid ((ho (fun i=>i=q) rfl _ (Off.refl _ _)).below (B:=z) (fun i hi=>(by have hi:i=q:=hi;have:=HQ.out;have:=HZZ.out;omega)) (by have:=Blk.lt HT.out;omega));clear hs ho))
   refine bodyPost_ret (bf (l:=aF (m.bV s .version) vn vq vd) rfl Tryz.underlying41 rfl aB rfl HZF.out) rfl ⟨rfl, ?_⟩
   rw[HZZ.out]
   exact HU2.out.trans HOF.out
 ·cases hf
 ·as_aux_lemma=>
   change Calls Tryz.prog 95 #[iM m vn vq vd,.int .u8 117,.string s] w _
   go_enter Tryz.func95,Tryz.ntmps95
   go_upto_region 1 with(fail)
   change Code.wp _ _ _ _ ((w.alloc (.cells (aF m vn vq vd).toArray 41)).alloc (.cells (mgN (head 0 0)).toArray 41))
   generalize(w.alloc (.cells (aF m vn vq vd).toArray 41)).alloc (.cells (mgN (head 0 0)).toArray 41)=w1 at HU HM HZ⊢
   generalize hq:w.heap.size+1=q at HZ⊢
   have HQ:=hid hq;clear hq
   generalize hz:w.heap.size=z at HM HU⊢
   have HZZ:=hid hz;clear hz
   have k1:w1.cell? ⟨z,5,none⟩=some (.string m.uname):=Blk.cell HM.out 5
   have f1:w1.frozen? ⟨z,5,none⟩=false:=Blk.frozen HM.out 5
   have HT:=hid (show aK (w1.setCell ⟨z,5,none⟩ (.string s)) z (m.bV s .uname) vn vq vd from Blk.aW HM.out 5 _)
   have hne:q≠z:=by have:=HQ.out;have:=HZZ.out;omega
   have HZ2:=hid (show aK (w1.setCell ⟨z,5,none⟩ (.string s)) q (head 0 0) (.slice none 0 0) (.slice none 0 0) (.slice none 0 0)from Blk.far HZ.out hne _)
   have HU2:=hid (show Below z w (w1.setCell ⟨z,5,none⟩ (.string s))from HU.out.setCell (Nat.le_refl _) _)
   clear hne
   go_wp2_with(first|(refine wlw HT.out 0 (aF (m.bV s .uname) vn vq vd) rfl rfl _ _ rfl rfl _ Tryz.underlying41 rfl aB ?_)|(refine dA HZ2.out 0 (aF (m.bV s .uname) vn vq vd) _ (bW ..) (Nat.le_refl 36) (bT _ h1 h2 h3) rfl _ _ _ rfl rfl rfl aB ?_;intro wz hs ho;have HZF:=hid hs;have HOF:=hid ((ho (fun i=>i=q) rfl _ (Off.refl _ _)).below (B:=z) (fun i hi=>(by have hi:i=q:=hi;have:=HQ.out;have:=HZZ.out;omega)) (by have:=Blk.lt HT.out;omega));clear hs ho))
   refine bodyPost_ret (bf (l:=aF (m.bV s .uname) vn vq vd) rfl Tryz.underlying41 rfl aB rfl HZF.out) rfl ⟨rfl, ?_⟩
   rw[HZZ.out]
   exact HU2.out.trans HOF.out
 ·as_aux_lemma=>
   change Calls Tryz.prog 95 #[iM m vn vq vd,.int .u8 110,.string s] w _
   go_enter Tryz.func95,Tryz.ntmps95
   go_upto_region 1 with(fail)
   change Code.wp _ _ _ _ ((w.alloc (.cells (aF m vn vq vd).toArray 41)).alloc (.cells (mgN (head 0 0)).toArray 41))
   generalize(w.alloc (.cells (aF m vn vq vd).toArray 41)).alloc (.cells (mgN (head 0 0)).toArray 41)=w1 at HU HM HZ⊢
   generalize hq:w.heap.size+1=q at HZ⊢
   have HQ:=hid hq;clear hq
   generalize hz:w.heap.size=z at HM HU⊢
   have HZZ:=hid hz;clear hz
   have k1:w1.cell? ⟨z,6,none⟩=some (.string m.bF):=Blk.cell HM.out 6
   have f1:w1.frozen? ⟨z,6,none⟩=false:=Blk.frozen HM.out 6
   have HT:=hid (show aK (w1.setCell ⟨z,6,none⟩ (.string s)) z (m.bV s .bF) vn vq vd from Blk.aW HM.out 6 _)
   have hne:q≠z:=by have:=HQ.out;have:=HZZ.out;omega
   have HZ2:=hid (show aK (w1.setCell ⟨z,6,none⟩ (.string s)) q (head 0 0) (.slice none 0 0) (.slice none 0 0) (.slice none 0 0)from Blk.far HZ.out hne _)
   have HU2:=hid (show Below z w (w1.setCell ⟨z,6,none⟩ (.string s))from HU.out.setCell (Nat.le_refl _) _)
   clear hne
   go_wp2_with(first|(refine wlw HT.out 0 (aF (m.bV s .bF) vn vq vd) rfl rfl _ _ rfl rfl _ Tryz.underlying41 rfl aB ?_)|(refine dA HZ2.out 0 (aF (m.bV s .bF) vn vq vd) _ (bW ..) (Nat.le_refl 36) (bT _ h1 h2 h3) rfl _ _ _ rfl rfl rfl aB ?_;intro wz hs ho;have HZF:=hid hs;have HOF:=hid ((ho (fun i=>i=q) rfl _ (Off.refl _ _)).below (B:=z) (fun i hi=>(by have hi:i=q:=hi;have:=HQ.out;have:=HZZ.out;omega)) (by have:=Blk.lt HT.out;omega));clear hs ho))
   refine bodyPost_ret (bf (l:=aF (m.bV s .bF) vn vq vd) rfl Tryz.underlying41 rfl aB rfl HZF.out) rfl ⟨rfl, ?_⟩
   rw[HZZ.out]
   exact HU2.out.trans HOF.out
 ·as_aux_lemma=>
   change Calls Tryz.prog 95 #[iM m vn vq vd,.int .u8 101,.string s] w _
   go_enter Tryz.func95,Tryz.ntmps95
   go_upto_region 1 with(fail)
   change Code.wp _ _ _ _ ((w.alloc (.cells (aF m vn vq vd).toArray 41)).alloc (.cells (mgN (head 0 0)).toArray 41))
   generalize(w.alloc (.cells (aF m vn vq vd).toArray 41)).alloc (.cells (mgN (head 0 0)).toArray 41)=w1 at HU HM HZ⊢
   generalize hq:w.heap.size+1=q at HZ⊢
   have HQ:=hid hq;clear hq
   generalize hz:w.heap.size=z at HM HU⊢
   have HZZ:=hid hz;clear hz
   have k1:w1.cell? ⟨z,7,none⟩=some (.string m.bH):=Blk.cell HM.out 7
   have f1:w1.frozen? ⟨z,7,none⟩=false:=Blk.frozen HM.out 7
   have HT:=hid (show aK (w1.setCell ⟨z,7,none⟩ (.string s)) z (m.bV s .bH) vn vq vd from Blk.aW HM.out 7 _)
   have hne:q≠z:=by have:=HQ.out;have:=HZZ.out;omega
   have HZ2:=hid (show aK (w1.setCell ⟨z,7,none⟩ (.string s)) q (head 0 0) (.slice none 0 0) (.slice none 0 0) (.slice none 0 0)from Blk.far HZ.out hne _)
   have HU2:=hid (show Below z w (w1.setCell ⟨z,7,none⟩ (.string s))from HU.out.setCell (Nat.le_refl _) _)
   clear hne
   go_wp2_with(first|(refine wlw HT.out 0 (aF (m.bV s .bH) vn vq vd) rfl rfl _ _ rfl rfl _ Tryz.underlying41 rfl aB ?_)|(refine dA HZ2.out 0 (aF (m.bV s .bH) vn vq vd) _ (bW ..) (Nat.le_refl 36) (bT _ h1 h2 h3) rfl _ _ _ rfl rfl rfl aB ?_;intro wz hs ho;have HZF:=hid hs;have HOF:=hid ((ho (fun i=>i=q) rfl _ (Off.refl _ _)).below (B:=z) (fun i hi=>(by have hi:i=q:=hi;have:=HQ.out;have:=HZZ.out;omega)) (by have:=Blk.lt HT.out;omega));clear hs ho))
   refine bodyPost_ret (bf (l:=aF (m.bV s .bH) vn vq vd) rfl Tryz.underlying41 rfl aB rfl HZF.out) rfl ⟨rfl, ?_⟩
   rw[HZZ.out]
   exact HU2.out.trans HOF.out
 ·cases hf
 ·cases hf
 ·cases hf
 ·cases hf
 ·cases hf
 ·cases hf
 ·cases hf
 ·cases hf
 ·as_aux_lemma=>
   change Calls Tryz.prog 95 #[iM m vn vq vd,.int .u8 99,.string s] w _
   go_enter Tryz.func95,Tryz.ntmps95
   go_upto_region 1 with(fail)
   change Code.wp _ _ _ _ ((w.alloc (.cells (aF m vn vq vd).toArray 41)).alloc (.cells (mgN (head 0 0)).toArray 41))
   generalize(w.alloc (.cells (aF m vn vq vd).toArray 41)).alloc (.cells (mgN (head 0 0)).toArray 41)=w1 at HU HM HZ⊢
   generalize hq:w.heap.size+1=q at HZ⊢
   have HQ:=hid hq;clear hq
   generalize hz:w.heap.size=z at HM HU⊢
   have HZZ:=hid hz;clear hz
   have k1:w1.cell? ⟨z,18,none⟩=some (.string m.name):=Blk.cell HM.out 18
   have f1:w1.frozen? ⟨z,18,none⟩=false:=Blk.frozen HM.out 18
   have HT:=hid (show aK (w1.setCell ⟨z,18,none⟩ (.string s)) z (m.bV s .name) vn vq vd from Blk.aW HM.out 18 _)
   have hne:q≠z:=by have:=HQ.out;have:=HZZ.out;omega
   have HZ2:=hid (show aK (w1.setCell ⟨z,18,none⟩ (.string s)) q (head 0 0) (.slice none 0 0) (.slice none 0 0) (.slice none 0 0)from Blk.far HZ.out hne _)
   have HU2:=hid (show Below z w (w1.setCell ⟨z,18,none⟩ (.string s))from HU.out.setCell (Nat.le_refl _) _)
   clear hne
   go_wp2_with(first|(refine wlw HT.out 0 (aF (m.bV s .name) vn vq vd) rfl rfl _ _ rfl rfl _ Tryz.underlying41 rfl aB ?_)|(refine dA HZ2.out 0 (aF (m.bV s .name) vn vq vd) _ (bW ..) (Nat.le_refl 36) (bT _ h1 h2 h3) rfl _ _ _ rfl rfl rfl aB ?_;intro wz hs ho;have HZF:=hid hs;have HOF:=hid ((ho (fun i=>i=q) rfl _ (Off.refl _ _)).below (B:=z) (fun i hi=>(by have hi:i=q:=hi;have:=HQ.out;have:=HZZ.out;omega)) (by have:=Blk.lt HT.out;omega));clear hs ho))
   refine bodyPost_ret (bf (l:=aF (m.bV s .name) vn vq vd) rfl Tryz.underlying41 rfl aB rfl HZF.out) rfl ⟨rfl, ?_⟩
   rw[HZZ.out]
   exact HU2.out.trans HOF.out
 ·cases hf
 ·cases hf
 ·cases hf
 ·cases hf
 ·cases hf
end Go.Proofs.YtkblmloobkiloaaGreatDoor
