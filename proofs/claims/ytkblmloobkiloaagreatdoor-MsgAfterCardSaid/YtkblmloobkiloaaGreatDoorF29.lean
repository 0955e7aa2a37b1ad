/-
  MUH MSC: what the laws of package msg need of them.
-/
import Derived.Test.YtkblmloobkiloaaGreatDoorF00
import Derived.Test.YtkblmloobkiloaaGreatDoorF28
set_option maxRecDepth 100000
set_option maxHeartbeats 12800000
namespace Go.Proofs.YtkblmloobkiloaaGreatDoor
open Go.Lib (hid)
open Go.RowKit
def Sta.rd(s:Sta):Prop:=s.ok∧s.name.size≤16777216∧s.uid.size≤16777216∧s.gid.size≤16777216∧s.fE.size≤16777216
theorem ZI(st:Except Nat (List UInt8)):Ch (st >>= g_) st (fun l=>(dQ (⟨#[123,116,121,112,101,61]⟩:ByteArray).data.toList l >>= fun l=>fZ 65535 l >>= fun q0=>(dQ (⟨#[32,100,101,118,61]⟩:ByteArray).data.toList q0.2 >>= fun l=>fZ 4294967295 l >>= fun q1=>(dQ (⟨#[32,113,105,100,61]⟩:ByteArray).data.toList q1.2 >>= fun l=>gW l >>= fun q2=>(dQ (⟨#[32,109,111,100,101,61]⟩:ByteArray).data.toList q2.2 >>= fun l=>fZ 4294967295 l >>= fun q3=>(dQ (⟨#[32,97,116,105,109,101,61]⟩:ByteArray).data.toList q3.2 >>= fun l=>fZ 4294967295 l >>= fun q4=>(dQ (⟨#[32,109,116,105,109,101,61]⟩:ByteArray).data.toList q4.2 >>= fun l=>fZ 4294967295 l >>= fun q5=>(dQ (⟨#[32,108,101,110,103,116,104,61]⟩:ByteArray).data.toList q5.2 >>= fun l=>fZ 18446744073709551615 l >>= fun q6=>(dQ (⟨#[32,110,97,109,101,61]⟩:ByteArray).data.toList q6.2 >>= fun l=>dJ l >>= fun q7=>(dQ (⟨#[32,117,105,100,61]⟩:ByteArray).data.toList q7.2 >>= fun l=>dJ l >>= fun q8=>(dQ (⟨#[32,103,105,100,61]⟩:ByteArray).data.toList q8.2 >>= fun l=>dJ l >>= fun q9=>(dQ (⟨#[32,109,117,105,100,61]⟩:ByteArray).data.toList q9.2 >>= fun l=>dJ l >>= fun q10=>(dQ (⟨#[125]⟩:ByteArray).data.toList q10.2 >>= fun l=> .ok ((⟨q0.1,q1.1,q2.1,q3.1,q4.1,q5.1,q6.1,q7.1,q8.1,q9.1,q10.1⟩:Sta),l)))))))))))))):=rfl
theorem Y0{w:World}{p:Nat}{s:ByteArray}{st:Except Nat (List UInt8)}(h:RwS w p s st):
  Calls Tryz.prog 104 #[.pointer (some ⟨p,0,none⟩)] w (Yn p s stV Sta.rd (st >>= g_) (fun i=>i=p) w):=by
 have hu1:Below w.heap.size w (w.alloc (.cells (stL zst).toArray 39)):=(Below.refl _ _).alloc (Nat.le_refl _) _
 have hu2:Below w.heap.size w ((w.alloc (.cells (stL zst).toArray 39)).alloc (.cells (stL zst).toArray 39)):=hu1.alloc (by rw[World.size_alloc];omega) _
 have HF:=hid (show PtS w ((w.alloc (.cells (stL zst).toArray 39)).alloc (.cells (stL zst).toArray 39)) p (w.heap.size+1) s st 39 #[.int .u16 0,.int .u32 0,.int .u8 0,.int .u32 0,.int .u64 0,.int .u32 0,.int .u32 0,.int .u32 0,.int .u64 0,.string ⟨#[]⟩,.string ⟨#[]⟩,.string ⟨#[]⟩,.string ⟨#[]⟩] 39 (stL zst).toArray w.heap.size from⟨h.below hu2,(by have h:=Blk.new (w.alloc (.cells (stL zst).toArray 39)) 39 (stL zst).toArray;rw[World.size_alloc]at h;exact h),(Blk.new w 39 _).alloc _,Off.of_below hu2,h.lt,Nat.le_succ _,Nat.le_refl _⟩)
 have HC:=hid (ZI st)
 generalize(st >>= g_)=R at HC⊢
 clear h hu1 hu2
 go_enter Tryz.func104,Tryz.ntmps104
 go_upto_region 2 with(fail)
 change Code.wp _ _ _ _ ((w.alloc (.cells (stL zst).toArray 39)).alloc (.cells (stL zst).toArray 39))
 generalize((w.alloc (.cells (stL zst).toArray 39)).alloc (.cells (stL zst).toArray 39))=w0 at HF⊢
 have hzy:w.heap.size+1≠w.heap.size:=by omega
 have HZY:=hid hzy
 clear hzy
 generalize w.heap.size+1=z at HF HZY⊢
 generalize w.heap.size=y at HF HZY⊢
 go_wp2_with fail
 refine(acT ⟨#[123,116,121,112,101,61]⟩ (by decide) HF.out.ln).mono ?_
 rintro e w1 ⟨rfl,hs,ho⟩
 replace HF:=hid (HF.out.call hs ho)
 replace HC:=hid (HC.out.word ⟨#[123,116,121,112,101,61]⟩)
 clear hs ho
 go_wp2_with fail
 refine(XU 65535 (by decide) (by decide) HF.out.ln).mono ?_
 rintro e w2 ⟨m0,st2,rfl,b0,hs,hg,ho⟩
 replace HF:=hid (HF.out.call hs ho)
 have HC2:=HC.out.part hg
 dsimp only at HC2
 replace HC:=hid HC2
 clear hs ho hg HC2
 have hw:IntKind.u16.wrap (m0:Int)=(m0:Int):=by rw[IntKind.wrap_u16];omega
 have k0:w2.cell? ⟨z,0,none⟩=some (.int .u16 0):=HF.out.zb.cell 0
 have f0:w2.frozen? ⟨z,0,none⟩=false:=HF.out.zb.frozen 0
 replace HF:=hid (show PtS w (w2.setCell ⟨z,0,none⟩ (.int .u16 (m0:Int))) p z s st2 39 #[.int .u16 (m0:Int),.int .u32 0,.int .u8 0,.int .u32 0,.int .u64 0,.int .u32 0,.int .u32 0,.int .u32 0,.int .u64 0,.string ⟨#[]⟩,.string ⟨#[]⟩,.string ⟨#[]⟩,.string ⟨#[]⟩] 39 (stL zst).toArray y from(HF.out.set 0 (.int .u16 (m0:Int)) HZY.out))
 go_upto_region 4 with(fail)
 clear k0 f0 hw
 generalize(w2.setCell ⟨z,0,none⟩ (.int .u16 (m0:Int)))=v0 at HF⊢
 go_wp2_with fail
 refine(acT ⟨#[32,100,101,118,61]⟩ (by decide) HF.out.ln).mono ?_
 rintro e w3 ⟨rfl,hs,ho⟩
 replace HF:=hid (HF.out.call hs ho)
 replace HC:=hid (HC.out.word ⟨#[32,100,101,118,61]⟩)
 clear hs ho
 go_wp2_with fail
 refine(XU 4294967295 (by decide) (by decide) HF.out.ln).mono ?_
 rintro e w4 ⟨m1,st4,rfl,b1,hs,hg,ho⟩
 replace HF:=hid (HF.out.call hs ho)
 have HC2:=HC.out.part hg
 dsimp only at HC2
 replace HC:=hid HC2
 clear hs ho hg HC2
 have hw:IntKind.u32.wrap (m1:Int)=(m1:Int):=by rw[IntKind.wrap_u32];omega
 have k0:w4.cell? ⟨z,1,none⟩=some (.int .u32 0):=HF.out.zb.cell 1
 have f0:w4.frozen? ⟨z,1,none⟩=false:=HF.out.zb.frozen 1
 replace HF:=hid (show PtS w (w4.setCell ⟨z,1,none⟩ (.int .u32 (m1:Int))) p z s st4 39 #[.int .u16 (m0:Int),.int .u32 (m1:Int),.int .u8 0,.int .u32 0,.int .u64 0,.int .u32 0,.int .u32 0,.int .u32 0,.int .u64 0,.string ⟨#[]⟩,.string ⟨#[]⟩,.string ⟨#[]⟩,.string ⟨#[]⟩] 39 (stL zst).toArray y from(HF.out.set 1 (.int .u32 (m1:Int)) HZY.out))
 go_upto_region 6 with(fail)
 clear k0 f0 hw
 generalize(w4.setCell ⟨z,1,none⟩ (.int .u32 (m1:Int)))=v1 at HF⊢
 go_wp2_with fail
 refine(acT ⟨#[32,113,105,100,61]⟩ (by decide) HF.out.ln).mono ?_
 rintro e w5 ⟨rfl,hs,ho⟩
 replace HF:=hid (HF.out.call hs ho)
 replace HC:=hid (HC.out.word ⟨#[32,113,105,100,61]⟩)
 clear hs ho
 go_wp2_with fail
 refine(Ym HF.out.ln).mono ?_
 rintro e w6 ⟨m2,st6,rfl,b2,hs,hg,ho⟩
 replace HF:=hid (HF.out.call hs ho)
 have HC2:=HC.out.part hg
 dsimp only at HC2
 replace HC:=hid HC2
 clear hs ho hg HC2
 unfold qdV
 have k0:w6.cell? ⟨z,2,none⟩=some (.int .u8 0):=HF.out.zb.cell 2
 have f0:w6.frozen? ⟨z,2,none⟩=false:=HF.out.zb.frozen 2
 have k1:w6.cell? ⟨z,3,none⟩=some (.int .u32 0):=HF.out.zb.cell 3
 have f1:w6.frozen? ⟨z,3,none⟩=false:=HF.out.zb.frozen 3
 have k2:w6.cell? ⟨z,4,none⟩=some (.int .u64 0):=HF.out.zb.cell 4
 have f2:w6.frozen? ⟨z,4,none⟩=false:=HF.out.zb.frozen 4
 replace HF:=hid (show PtS w (((w6.setCell ⟨z,2,none⟩ (.int .u8 (m2.kind:Int))).setCell ⟨z,3,none⟩ (.int .u32 (m2.vers:Int))).setCell ⟨z,4,none⟩ (.int .u64 (m2.path:Int))) p z s st6 39 #[.int .u16 (m0:Int),.int .u32 (m1:Int),.int .u8 (m2.kind:Int),.int .u32 (m2.vers:Int),.int .u64 (m2.path:Int),.int .u32 0,.int .u32 0,.int .u32 0,.int .u64 0,.string ⟨#[]⟩,.string ⟨#[]⟩,.string ⟨#[]⟩,.string ⟨#[]⟩] 39 (stL zst).toArray y from(((HF.out.set 2 (.int .u8 (m2.kind:Int)) HZY.out).set 3 (.int .u32 (m2.vers:Int)) HZY.out).set 4 (.int .u64 (m2.path:Int)) HZY.out))
 go_upto_region 8 with(fail)
 clear k0 f0 k1 f1 k2 f2
 generalize(((w6.setCell ⟨z,2,none⟩ (.int .u8 (m2.kind:Int))).setCell ⟨z,3,none⟩ (.int .u32 (m2.vers:Int))).setCell ⟨z,4,none⟩ (.int .u64 (m2.path:Int)))=v2 at HF⊢
 go_wp2_with fail
 refine(acT ⟨#[32,109,111,100,101,61]⟩ (by decide) HF.out.ln).mono ?_
 rintro e w7 ⟨rfl,hs,ho⟩
 replace HF:=hid (HF.out.call hs ho)
 replace HC:=hid (HC.out.word ⟨#[32,109,111,100,101,61]⟩)
 clear hs ho
 go_wp2_with fail
 refine(XU 4294967295 (by decide) (by decide) HF.out.ln).mono ?_
 rintro e w8 ⟨m3,st8,rfl,b3,hs,hg,ho⟩
 replace HF:=hid (HF.out.call hs ho)
 have HC2:=HC.out.part hg
 dsimp only at HC2
 replace HC:=hid HC2
 clear hs ho hg HC2
 have hw:IntKind.u32.wrap (m3:Int)=(m3:Int):=by rw[IntKind.wrap_u32];omega
 have k0:w8.cell? ⟨z,5,none⟩=some (.int .u32 0):=HF.out.zb.cell 5
 have f0:w8.frozen? ⟨z,5,none⟩=false:=HF.out.zb.frozen 5
 replace HF:=hid (show PtS w (w8.setCell ⟨z,5,none⟩ (.int .u32 (m3:Int))) p z s st8 39 #[.int .u16 (m0:Int),.int .u32 (m1:Int),.int .u8 (m2.kind:Int),.int .u32 (m2.vers:Int),.int .u64 (m2.path:Int),.int .u32 (m3:Int),.int .u32 0,.int .u32 0,.int .u64 0,.string ⟨#[]⟩,.string ⟨#[]⟩,.string ⟨#[]⟩,.string ⟨#[]⟩] 39 (stL zst).toArray y from(HF.out.set 5 (.int .u32 (m3:Int)) HZY.out))
 go_upto_region 10 with(fail)
 clear k0 f0 hw
 generalize(w8.setCell ⟨z,5,none⟩ (.int .u32 (m3:Int)))=v3 at HF⊢
 go_wp2_with fail
 refine(acT ⟨#[32,97,116,105,109,101,61]⟩ (by decide) HF.out.ln).mono ?_
 rintro e w9 ⟨rfl,hs,ho⟩
 replace HF:=hid (HF.out.call hs ho)
 replace HC:=hid (HC.out.word ⟨#[32,97,116,105,109,101,61]⟩)
 clear hs ho
 go_wp2_with fail
 refine(XU 4294967295 (by decide) (by decide) HF.out.ln).mono ?_
 rintro e w10 ⟨m4,aaJ,rfl,b4,hs,hg,ho⟩
 replace HF:=hid (HF.out.call hs ho)
 have HC2:=HC.out.part hg
 dsimp only at HC2
 replace HC:=hid HC2
 clear hs ho hg HC2
 have hw:IntKind.u32.wrap (m4:Int)=(m4:Int):=by rw[IntKind.wrap_u32];omega
 have k0:w10.cell? ⟨z,6,none⟩=some (.int .u32 0):=HF.out.zb.cell 6
 have f0:w10.frozen? ⟨z,6,none⟩=false:=HF.out.zb.frozen 6
 replace HF:=hid (show PtS w (w10.setCell ⟨z,6,none⟩ (.int .u32 (m4:Int))) p z s aaJ 39 #[.int .u16 (m0:Int),.int .u32 (m1:Int),.int .u8 (m2.kind:Int),.int .u32 (m2.vers:Int),.int .u64 (m2.path:Int),.int .u32 (m3:Int),.int .u32 (m4:Int),.int .u32 0,.int .u64 0,.string ⟨#[]⟩,.string ⟨#[]⟩,.string ⟨#[]⟩,.string ⟨#[]⟩] 39 (stL zst).toArray y from(HF.out.set 6 (.int .u32 (m4:Int)) HZY.out))
 go_upto_region 12 with(fail)
 clear k0 f0 hw
 generalize(w10.setCell ⟨z,6,none⟩ (.int .u32 (m4:Int)))=v4 at HF⊢
 go_wp2_with fail
 refine(acT ⟨#[32,109,116,105,109,101,61]⟩ (by decide) HF.out.ln).mono ?_
 rintro e w11 ⟨rfl,hs,ho⟩
 replace HF:=hid (HF.out.call hs ho)
 replace HC:=hid (HC.out.word ⟨#[32,109,116,105,109,101,61]⟩)
 clear hs ho
 go_wp2_with fail
 refine(XU 4294967295 (by decide) (by decide) HF.out.ln).mono ?_
 rintro e w12 ⟨m5,aaK,rfl,b5,hs,hg,ho⟩
 replace HF:=hid (HF.out.call hs ho)
 have HC2:=HC.out.part hg
 dsimp only at HC2
 replace HC:=hid HC2
 clear hs ho hg HC2
 have hw:IntKind.u32.wrap (m5:Int)=(m5:Int):=by rw[IntKind.wrap_u32];omega
 have k0:w12.cell? ⟨z,7,none⟩=some (.int .u32 0):=HF.out.zb.cell 7
 have f0:w12.frozen? ⟨z,7,none⟩=false:=HF.out.zb.frozen 7
 replace HF:=hid (show PtS w (w12.setCell ⟨z,7,none⟩ (.int .u32 (m5:Int))) p z s aaK 39 #[.int .u16 (m0:Int),.int .u32 (m1:Int),.int .u8 (m2.kind:Int),.int .u32 (m2.vers:Int),.int .u64 (m2.path:Int),.int .u32 (m3:Int),.int .u32 (m4:Int),.int .u32 (m5:Int),.int .u64 0,.string ⟨#[]⟩,.string ⟨#[]⟩,.string ⟨#[]⟩,.string ⟨#[]⟩] 39 (stL zst).toArray y from(HF.out.set 7 (.int .u32 (m5:Int)) HZY.out))
 go_upto_region 14 with(fail)
 clear k0 f0 hw
 generalize(w12.setCell ⟨z,7,none⟩ (.int .u32 (m5:Int)))=v5 at HF⊢
 go_wp2_with fail
 refine(acT ⟨#[32,108,101,110,103,116,104,61]⟩ (by decide) HF.out.ln).mono ?_
 rintro e w13 ⟨rfl,hs,ho⟩
 replace HF:=hid (HF.out.call hs ho)
 replace HC:=hid (HC.out.word ⟨#[32,108,101,110,103,116,104,61]⟩)
 clear hs ho
 go_wp2_with fail
 refine(XU 18446744073709551615 (by decide) (by decide) HF.out.ln).mono ?_
 rintro e w14 ⟨m6,aaL,rfl,b6,hs,hg,ho⟩
 replace HF:=hid (HF.out.call hs ho)
 have HC2:=HC.out.part hg
 dsimp only at HC2
 replace HC:=hid HC2
 clear hs ho hg HC2
 have k0:w14.cell? ⟨z,8,none⟩=some (.int .u64 0):=HF.out.zb.cell 8
 have f0:w14.frozen? ⟨z,8,none⟩=false:=HF.out.zb.frozen 8
 replace HF:=hid (show PtS w (w14.setCell ⟨z,8,none⟩ (.int .u64 (m6:Int))) p z s aaL 39 #[.int .u16 (m0:Int),.int .u32 (m1:Int),.int .u8 (m2.kind:Int),.int .u32 (m2.vers:Int),.int .u64 (m2.path:Int),.int .u32 (m3:Int),.int .u32 (m4:Int),.int .u32 (m5:Int),.int .u64 (m6:Int),.string ⟨#[]⟩,.string ⟨#[]⟩,.string ⟨#[]⟩,.string ⟨#[]⟩] 39 (stL zst).toArray y from(HF.out.set 8 (.int .u64 (m6:Int)) HZY.out))
 go_upto_region 16 with(fail)
 clear k0 f0
 generalize(w14.setCell ⟨z,8,none⟩ (.int .u64 (m6:Int)))=v6 at HF⊢
 go_wp2_with fail
 refine(acT ⟨#[32,110,97,109,101,61]⟩ (by decide) HF.out.ln).mono ?_
 rintro e w15 ⟨rfl,hs,ho⟩
 replace HF:=hid (HF.out.call hs ho)
 replace HC:=hid (HC.out.word ⟨#[32,110,97,109,101,61]⟩)
 clear hs ho
 go_wp2_with fail
 refine(XY HF.out.ln).mono ?_
 rintro e w16 ⟨m7,aaM,rfl,b7,hs,hg,ho⟩
 replace HF:=hid (HF.out.call hs ho)
 have HC2:=HC.out.part hg
 dsimp only at HC2
 replace HC:=hid HC2
 clear hs ho hg HC2
 have k0:w16.cell? ⟨z,9,none⟩=some (.string ⟨#[]⟩):=HF.out.zb.cell 9
 have f0:w16.frozen? ⟨z,9,none⟩=false:=HF.out.zb.frozen 9
 replace HF:=hid (show PtS w (w16.setCell ⟨z,9,none⟩ (.string m7)) p z s aaM 39 #[.int .u16 (m0:Int),.int .u32 (m1:Int),.int .u8 (m2.kind:Int),.int .u32 (m2.vers:Int),.int .u64 (m2.path:Int),.int .u32 (m3:Int),.int .u32 (m4:Int),.int .u32 (m5:Int),.int .u64 (m6:Int),.string m7,.string ⟨#[]⟩,.string ⟨#[]⟩,.string ⟨#[]⟩] 39 (stL zst).toArray y from(HF.out.set 9 (.string m7) HZY.out))
 go_upto_region 18 with(fail)
 clear k0 f0
 generalize(w16.setCell ⟨z,9,none⟩ (.string m7))=v7 at HF⊢
 go_wp2_with fail
 refine(acT ⟨#[32,117,105,100,61]⟩ (by decide) HF.out.ln).mono ?_
 rintro e w17 ⟨rfl,hs,ho⟩
 replace HF:=hid (HF.out.call hs ho)
 replace HC:=hid (HC.out.word ⟨#[32,117,105,100,61]⟩)
 clear hs ho
 go_wp2_with fail
 refine(XY HF.out.ln).mono ?_
 rintro e w18 ⟨m8,aaN,rfl,b8,hs,hg,ho⟩
 replace HF:=hid (HF.out.call hs ho)
 have HC2:=HC.out.part hg
 dsimp only at HC2
 replace HC:=hid HC2
 clear hs ho hg HC2
 have k0:w18.cell? ⟨z,10,none⟩=some (.string ⟨#[]⟩):=HF.out.zb.cell 10
 have f0:w18.frozen? ⟨z,10,none⟩=false:=HF.out.zb.frozen 10
 replace HF:=hid (show PtS w (w18.setCell ⟨z,10,none⟩ (.string m8)) p z s aaN 39 #[.int .u16 (m0:Int),.int .u32 (m1:Int),.int .u8 (m2.kind:Int),.int .u32 (m2.vers:Int),.int .u64 (m2.path:Int),.int .u32 (m3:Int),.int .u32 (m4:Int),.int .u32 (m5:Int),.int .u64 (m6:Int),.string m7,.string m8,.string ⟨#[]⟩,.string ⟨#[]⟩] 39 (stL zst).toArray y from(HF.out.set 10 (.string m8) HZY.out))
 go_upto_region 20 with(fail)
 clear k0 f0
 generalize(w18.setCell ⟨z,10,none⟩ (.string m8))=v8 at HF⊢
 go_wp2_with fail
 refine(acT ⟨#[32,103,105,100,61]⟩ (by decide) HF.out.ln).mono ?_
 rintro e w19 ⟨rfl,hs,ho⟩
 replace HF:=hid (HF.out.call hs ho)
 replace HC:=hid (HC.out.word ⟨#[32,103,105,100,61]⟩)
 clear hs ho
 go_wp2_with fail
 refine(XY HF.out.ln).mono ?_
 rintro e w20 ⟨m9,aaO,rfl,b9,hs,hg,ho⟩
 replace HF:=hid (HF.out.call hs ho)
 have HC2:=HC.out.part hg
 dsimp only at HC2
 replace HC:=hid HC2
 clear hs ho hg HC2
 have k0:w20.cell? ⟨z,11,none⟩=some (.string ⟨#[]⟩):=HF.out.zb.cell 11
 have f0:w20.frozen? ⟨z,11,none⟩=false:=HF.out.zb.frozen 11
 replace HF:=hid (show PtS w (w20.setCell ⟨z,11,none⟩ (.string m9)) p z s aaO 39 #[.int .u16 (m0:Int),.int .u32 (m1:Int),.int .u8 (m2.kind:Int),.int .u32 (m2.vers:Int),.int .u64 (m2.path:Int),.int .u32 (m3:Int),.int .u32 (m4:Int),.int .u32 (m5:Int),.int .u64 (m6:Int),.string m7,.string m8,.string m9,.string ⟨#[]⟩] 39 (stL zst).toArray y from(HF.out.set 11 (.string m9) HZY.out))
 go_upto_region 22 with(fail)
 clear k0 f0
 generalize(w20.setCell ⟨z,11,none⟩ (.string m9))=v9 at HF⊢
 go_wp2_with fail
 refine(acT ⟨#[32,109,117,105,100,61]⟩ (by decide) HF.out.ln).mono ?_
 rintro e w21 ⟨rfl,hs,ho⟩
 replace HF:=hid (HF.out.call hs ho)
 replace HC:=hid (HC.out.word ⟨#[32,109,117,105,100,61]⟩)
 clear hs ho
 go_wp2_with fail
 refine(XY HF.out.ln).mono ?_
 rintro e w22 ⟨m10,aaP,rfl,b10,hs,hg,ho⟩
 replace HF:=hid (HF.out.call hs ho)
 have HC2:=HC.out.part hg
 dsimp only at HC2
 replace HC:=hid HC2
 clear hs ho hg HC2
 have k0:w22.cell? ⟨z,12,none⟩=some (.string ⟨#[]⟩):=HF.out.zb.cell 12
 have f0:w22.frozen? ⟨z,12,none⟩=false:=HF.out.zb.frozen 12
 replace HF:=hid (show PtS w (w22.setCell ⟨z,12,none⟩ (.string m10)) p z s aaP 39 #[.int .u16 (m0:Int),.int .u32 (m1:Int),.int .u8 (m2.kind:Int),.int .u32 (m2.vers:Int),.int .u64 (m2.path:Int),.int .u32 (m3:Int),.int .u32 (m4:Int),.int .u32 (m5:Int),.int .u64 (m6:Int),.string m7,.string m8,.string m9,.string m10] 39 (stL zst).toArray y from(HF.out.set 12 (.string m10) HZY.out))
 go_upto_region 24 with(fail)
 clear k0 f0
 generalize(w22.setCell ⟨z,12,none⟩ (.string m10))=v10 at HF⊢
 go_wp2_with fail
 refine(acT ⟨#[125]⟩ (by decide) HF.out.ln).mono ?_
 rintro e w23 ⟨rfl,hs,ho⟩
 replace HF:=hid (HF.out.call hs ho)
 replace HC:=hid (HC.out.word ⟨#[125]⟩)
 clear hs ho
 have HZB:=hid (show Blk w23 z 39 (stL ⟨m0,m1,m2,m3,m4,m5,m6,m7,m8,m9,m10⟩).toArray from HF.out.zb)
 have HRB:=hid (show Blk w23 y 39 (stL zst).toArray from HF.out.rb)
 go_wp2_with(first|(refine wlw HZB.out 0 (stL ⟨m0,m1,m2,m3,m4,m5,m6,m7,m8,m9,m10⟩) rfl rfl _ _ rfl rfl _ Tryz.underlying39 rfl bP ?_)|(refine dA HRB.out 0 (stL ⟨m0,m1,m2,m3,m4,m5,m6,m7,m8,m9,m10⟩) (stL ⟨m0,m1,m2,m3,m4,m5,m6,m7,m8,m9,m10⟩).toArray (kK ..) (Nat.le_refl 13) (lJ ..) rfl _ _ _ rfl rfl rfl bP ?_;intro wz hs ho;have HBz:=hid hs;have HOz:=hid (ho (fun i=>i=y) rfl _ (Off.refl _ _));clear hs ho))
 refine bodyPost_ret (bf (l:=stL ⟨m0,m1,m2,m3,m4,m5,m6,m7,m8,m9,m10⟩) rfl Tryz.underlying39 rfl bP rfl HBz.out) rfl ⟨⟨m0,m1,m2,m3,m4,m5,m6,m7,m8,m9,m10⟩,_,rfl,⟨⟨by show m0<65536;omega,by show m1<4294967296;omega,b2,by show m3<4294967296;omega,by show m4<4294967296;omega,by show m5<4294967296;omega,by show m6<18446744073709551616;omega⟩,b7,b8,b9,b10⟩,HF.out.ln.off HOz.out (fun e=>by have e:p=y:=e;have:=HF.out.pz;have:=HF.out.by_;omega),HC.out.end_,Y8 HF.out.of_ HOz.out HF.out.by_⟩
def rfF(m:Mg)(l:List UInt8):Fld→Option (Mg×List UInt8)
 | .stat=>match bU 2 l with
  |none=>none
  |some (n,r)=>match gJ n r with
   |none=>none
   |some (b,r)=>(fV b).map fun s=>({m with stat:=s},r)
 |f=>nD m l f
def Nc{α:Type}(o:Option (α×List UInt8))(s:α)(s2:Option (List UInt8)):Prop:=match o with|some (t,r)=>s=t∧s2=some r|none=>s2=none
def Ur(m m':Mg)(f:Fld):Prop:=(f≠ .names→m'.names=m.names)∧(f≠ .aV→m'.aV=m.aV)∧(f≠ .data→m'.data=m.data)
def Nh(base:Nat)(w w':World):Prop:=Below base w w'∧∀g cs,Blk w g 41 cs→Blk w' g 41 cs
def uw(p base:Nat)(hv:Value)(x:List UInt8)(m:Mg)(f:Fld)(st:Option (List UInt8))(w:World)(e:Ending)(w':World):Prop:=
 ∃m' vn vq vd,e= .returned (iM m' vn vq vd)∧OL w' base m' vn vq vd∧Ur m m' f∧Nh base w w'∧match st.bind (fun l=>rfF m l f)with
  |some (t,r)=>m'=t∧BdS w' p hv x (some r)
  |none=>BdS w' p hv x none
structure FS(w0 w:World)(p z q base:Nat)(hv:Value)(x:List UInt8)(st:Option (List UInt8))(m:Mg)(vn vq vd:Value):Prop where
 s:BdS w p hv x st
 x:Bys w base hv x
 m:aK w z m vn vq vd
 r:aK w q (head 0 0) (.slice none 0 0) (.slice none 0 0) (.slice none 0 0)
 bp:base≤p
 bb:base≤w0.heap.size
 bz:w0.heap.size≤z
 zq:z+1=q
 b:Below base w0 w
 k:∀g cs,Blk w0 g 41 cs→Blk w g 41 cs
theorem BdS.lt{w:World}{p:Nat}{hv:Value}{x:List UInt8}{st:Option (List UInt8)}(h:BdS w p hv x st):p<w.heap.size:=by
 obtain⟨a,b,hb, -⟩:=h
 exact Blk.lt hb
theorem BdS.noT{w:World}{p:Nat}{hv:Value}{x:List UInt8}{st:Option (List UInt8)}{e:TypeId}(h:BdS w p hv x st)(he:97≠e):∀g cur fr,g=p→w.heap[g]? ≠some (Obj.cells cur e fr):=by
 obtain⟨a,b,hb, -⟩:=h
 exact hb.noT he
theorem Ro{w:World}{i:Nat}(h:w.heap.size≤i){ob:Obj}:w.heap[i]? ≠some ob:=by
 rw[Array.getElem?_eq_none h]
 intro h
 cases h
theorem OL.bd{w w':World}{p base:Nat}{m:Mg}{vn vq vd hv:Value}{x:List UInt8}{st:Option (List UInt8)}(h:OL w base m vn vq vd)(hs:BdS w p hv x st)(ho:Off (fun i=>i=p∨w.heap.size≤i) w w'):OL w' base m vn vq vd:=
 h.off ho fun i cur fr e hi he=>by
  rcases hi with hi|hi
  ·rcases he with rfl|rfl|rfl<;>exact hs.noT (by decide) i cur fr hi
  ·exact Ro hi
theorem fC{w:World}{b b' n n' s s':Nat}{e e':TypeId}{u v:Value}{xs ys:List Value}(h:w.ownsRow b e s u n xs)(h':w.ownsRow b' e' s' v n' ys)(he:e≠e'):u.ownBlock=none∨u.ownBlock≠v.ownBlock:=by
 cases hu:u.ownBlock with
 |none=>exact .inl rfl
 |some g=>
  refine .inr fun hv=> ?_
  rcases h'.2 with⟨rfl, -⟩|⟨g',cap,cur,rfl, -,hg, -⟩
  ·cases hv
  ·injection hv with hv
   subst hv
   exact bZ h he g cur (0,0) hu hg
section
variable {w w' w0:World} {p z q base:Nat} {hv vn vq vd:Value} {x:List UInt8} {st st':Option (List UInt8)} {m:Mg}
theorem FS.step(h:FS w0 w p z q base hv x st m vn vq vd)(hs:BdS w' p hv x st')(ho:Off (fun i=>i=p∨w.heap.size≤i) w w'):FS w0 w' p z q base hv x st' m vn vq vd:=by
 have hz:=Blk.lt h.m
 have hbz:=h.bz
 have hbb:=h.bb
 have hbp:=h.bp
 have hS:∀i,(i=p∨w.heap.size≤i)→base≤i:=fun i hi=>by omega
 have hK:∀g cs,Blk w g 41 cs→Blk w' g 41 cs:=fun g cs hg=>ho.blk hg (fun hi=>hi.elim (fun e=>h.s.noT (by decide) _ _ _ e hg) (fun e=>Nat.lt_irrefl _ (Nat.lt_of_lt_of_le (Blk.lt hg) e)))
 exact⟨hs,Off.bys h.x ho (by omega) hS,hK _ _ h.m,hK _ _ h.r,hbp,hbb,hbz,h.zq,h.b.trans (ho.below hS (by omega)),fun g cs hg=>hK g cs (h.k g cs hg)⟩
theorem FS.new(h:FS w0 w p z q base hv x st m vn vq vd)(hb:Below w.heap.size w w'):FS w0 w' p z q base hv x st m vn vq vd:=h.step (h.s.below hb) (Off.of_below hb)
theorem FS.size(h:FS w0 w p z q base hv x st m vn vq vd):base≤w.heap.size:=by
 have hz:=Blk.lt h.m
 have hbz:=h.bz
 have hbb:=h.bb
 omega
theorem FS.turn{m':Mg}{xn xq xd:Value}(h:FS w0 w p z q base hv x st m vn vq vd)(hm:aK w' z m' xn xq xd)(ho:Off (fun i=>i=z) w w'):FS w0 w' p z q base hv x st m' xn xq xd:=by
 have hz:=Blk.lt h.m
 have hbz:=h.bz
 have hbb:=h.bb
 have hzq:=h.zq
 have hS:∀i,i=z→base≤i:=fun i hi=>by omega
 exact⟨h.s.off ho (fun e=>h.s.noT (by decide) z _ _ e.symm h.m),Off.bys h.x ho (by omega) hS,hm,ho.blk h.r (fun e=>by have e:q=z:=e;omega),h.bp,hbb,hbz,hzq,h.b.trans (ho.below hS (by omega)),fun g cs hg=>ho.blk (h.k g cs hg) (fun e=>by have e:g=z:=e;have:=Blk.lt hg;omega)⟩
theorem FS.app{e:TypeId}{v:Value}{n s:Nat}{xs:List Value}(h:FS w0 w p z q base hv x st m vn vq vd)(hr:w.ownsRow base e s v n xs)(h1:e≠97)(h2:e≠41)(hg:w.grownBy w' v.ownBlock):FS w0 w' p z q base hv x st m vn vq vd:=by
 have hS:∀i,v.ownBlock=some i→base≤i:=fun i hi=>dH hr i hi
 have ho:=(Off.refl (fun i=>v.ownBlock=some i) w).grown hg (fun g hg=>hg)
 obtain⟨a,b,hb, -⟩:=id h.s
 have hK:∀g cs,Blk w g 41 cs→Blk w' g 41 cs:=fun g cs hg=>ho.blk hg (fun e=>bZ hr h2 g _ _ e hg)
 exact⟨h.s.off ho (fun e=>bZ hr h1 p _ _ e hb),Off.bys h.x ho h.size hS,hK _ _ h.m,hK _ _ h.r,h.bp,h.bb,h.bz,h.zq,h.b.trans (ho.below hS h.size),fun g cs hg=>hK g cs (h.k g cs hg)⟩
theorem FS.end_{wz:World}{m':Mg}{xn xq xd:Value}(h:FS w0 w p z q base hv x st m vn vq vd)(hl:OL w base m' xn xq xd)(ho:Off (fun i=>i=q) w wz):OL wz base m' xn xq xd∧Nh base w0 wz∧BdS wz p hv x st:=by
 have hq:=Blk.lt h.r
 have hzq:=h.zq
 have hbz:=h.bz
 have hbb:=h.bb
 exact⟨hl.qp h.r ho,⟨h.b.trans (ho.below (fun i hi=>by have hi:i=q:=hi;omega) (by omega)),fun g cs hg=>ho.blk (h.k g cs hg) (fun e=>by have e:g=q:=e;have:=Blk.lt hg;omega)⟩,h.s.off ho (fun e=>h.s.noT (by decide) q _ _ e.symm h.r)⟩
end
theorem jO{w:World}{p base:Nat}{hv vn vq vd:Value}{x:List UInt8}{st:Option (List UInt8)}{m:Mg}(hx:Bys w base hv x)(hbp:base≤p)(h:BdS w p hv x st)(ho:OL w base m vn vq vd):
  FS w ((w.alloc (.cells (aF m vn vq vd).toArray 41)).alloc (.cells (mgN (head 0 0)).toArray 41)) p w.heap.size (w.heap.size+1) base hv x st m vn vq vd∧OL ((w.alloc (.cells (aF m vn vq vd).toArray 41)).alloc (.cells (mgN (head 0 0)).toArray 41)) base m vn vq vd:=by
 obtain⟨hu,hm,hz⟩:=uZ w m vn vq vd
 have hp:=h.lt
 exact⟨⟨h.below hu,hx.below (hu.mono (by omega)),hm,hz,hbp,by omega,Nat.le_refl _,rfl,hu.mono (by omega),fun g cs hg=>Blk.below hg hu (Blk.lt hg)⟩,ho.below hu⟩
theorem OL.as{w:World}{base:Nat}{m m':Mg}{vn vq vd:Value}(h:OL w base m vn vq vd)(h1:m'.names=m.names)(h2:m'.aV=m.aV)(h3:m'.data=m.data):OL w base m' vn vq vd:=⟨by rw[h1];exact h.n,by rw[h2];exact h.q,by rw[h3];exact h.d⟩
theorem JE(m:Mg)(n:Nat)(f:Fld):(m.aG n f).names=m.names∧(m.aG n f).aV=m.aV∧(m.aG n f).data=m.data:=by cases f<;>exact⟨rfl,rfl,rfl⟩
theorem JF(m:Mg)(s:ByteArray)(f:Fld):(m.bV s f).names=m.names∧(m.bV s f).aV=m.aV∧(m.bV s f).data=m.data:=by cases f<;>exact⟨rfl,rfl,rfl⟩
theorem O1{f:Fld}(hf:0<f.width)(m:Mg)(st:Option (List UInt8)):st.bind (fun l=>rfF m l f)=(dn st f.width).2.map (fun r=>(m.aG (aH (dn st f.width).1) f,r)):=by
 have h:=oI st f.width
 cases st with
 |none=>rfl
 |some l=>
  replace h:bU f.width l=_:=h
  show rfF m l f=_
  have e:rfF m l f=(bU f.width l).map fun p=>(m.aG p.1 f,p.2):=by
   cases f<;>first|rfl|exact absurd hf (by decide)
  rw[e,h,Option.map_map]
  rfl
theorem O4{f:Fld}(hf:f.isText=true)(m:Mg)(st:Option (List UInt8)):st.bind (fun l=>rfF m l f)=(st.bind aN).map (fun r=>(m.bV r.1 f,r.2)):=by
 cases st with
 |none=>rfl
 |some l=>
  show rfF m l f=(aN l).map _
  cases f<;>first|rfl|exact absurd hf (by decide)
theorem width_le(f:Fld):f.width≤8:=by cases f<;>decide
theorem F6{f:Fld}(hf:f.isText=true):f.width=0:=by cases f<;>first|rfl|exact absurd hf (by decide)
theorem F7{w:World}{p base:Nat}{hv vn vq vd:Value}{x:List UInt8}{st:Option (List UInt8)}{m:Mg}(hx:Bys w base hv x)(hbp:base≤p)(h:BdS w p hv x st)(ho:OL w base m vn vq vd)(f:Fld)(hf:0<f.width):
  Calls Tryz.prog 49 #[.pointer (some ⟨p,0,none⟩),iM m vn vq vd,.int .u8 (f.rX.toNat:Int)] w (uw p base hv x m f st w):=by
 have HFL:=hid (JE m (aH (dn st f.width).1) f)
 have HR:=hid (O1 hf m st)
 have HLT:=hid (show aH (dn st f.width).1<256^f.width from Nat.lt_of_lt_of_le (dD _) (Nat.pow_le_pow_right (by decide) (jM st _)))
 have HWC:=hid (jL f)
 have HSN:=hid (uT f hf _ HLT.out m vn vq vd (bG ho.n) (bG ho.q) (bG ho.d))
 have hf1:(0:Int)<(f.width:Int):=by omega
 clear hf
 have HF0:=jO hx hbp h ho
 have HF:=hid HF0.1
 have HOL:=hid HF0.2
 have h1:=bG ho.n
 have h2:=bG ho.q
 have h3:=bG ho.d
 clear hx hbp h ho HF0
 go_enter Tryz.func49,Tryz.ntmps49
 go_upto_region 1 with(fail)
 change Code.wp _ _ _ _ ((w.alloc (.cells (aF m vn vq vd).toArray 41)).alloc (.cells (mgN (head 0 0)).toArray 41))
 generalize((w.alloc (.cells (aF m vn vq vd).toArray 41)).alloc (.cells (mgN (head 0 0)).toArray 41))=w1 at HF HOL⊢
 generalize w.heap.size+1=q at HF⊢
 generalize w.heap.size=z at HF⊢
 go_wp2_with fail
 refine(HWC.out _).mono ?_
 rintro e w2 ⟨rfl,rfl⟩
 go_wp2_with fail
 refine(HWC.out _).mono ?_
 rintro e w2 ⟨rfl,rfl⟩
 go_wp2_with fail
 refine(iy f.width (width_le f) HF.out.x HF.out.bp HF.out.s).mono ?_
 rintro e w2 ⟨rfl,hs,ho⟩
 have lN:=hid (HOL.out.bd HF.out.s (ho.mono fun _ _ hi=> .inl hi))
 have HF2:=hid (HF.out.step hs (ho.mono fun _ _ hi=> .inl hi))
 clear hs ho HF HOL
 go_wp2_with(refine wlw HF2.out.m 0 (aF m vn vq vd) rfl rfl _ _ rfl rfl _ Tryz.underlying41 rfl aB ?_)
 refine(HSN.out _).mono ?_
 rintro e w3 ⟨rfl,hb⟩
 have HF3:=hid (HF2.out.new hb)
 have tJ:=hid (lN.out.below hb)
 clear hb HF2 lN
 go_wp2_with(refine dA HF3.out.r 0 (aF (m.aG (aH (dn st f.width).1) f) vn vq vd) _ (bW ..) (Nat.le_refl 36) (bT _ h1 h2 h3) rfl _ _ _ rfl rfl rfl aB ?_;intro wz hs ho;have HZF:=hid hs;have HOF:=hid (ho (fun i=>i=q) rfl _ (Off.refl _ _));clear hs ho)
 obtain⟨e1,e2,e3⟩:=HFL.out
 obtain⟨r1,r2,r3⟩:=HF3.out.end_ (tJ.out.as e1 e2 e3) HOF.out
 refine bodyPost_ret (bf (l:=aF (m.aG (aH (dn st f.width).1) f) vn vq vd) rfl Tryz.underlying41 rfl aB rfl HZF.out) rfl ⟨_,_,_,_,rfl,r1,⟨fun _=>e1,fun _=>e2,fun _=>e3⟩,r2, ?_⟩
 rw[HR.out]
 cases hr:(dn st f.width).2 with
 |none=>rw[hr]at r3;exact r3
 |some r=>rw[hr]at r3;exact⟨rfl,r3⟩
theorem F8{w:World}{p base:Nat}{hv vn vq vd:Value}{x:List UInt8}{st:Option (List UInt8)}{m:Mg}(hx:Bys w base hv x)(hbp:base≤p)(h:BdS w p hv x st)(ho:OL w base m vn vq vd)(f:Fld)(hf:f.isText=true):
  Calls Tryz.prog 49 #[.pointer (some ⟨p,0,none⟩),iM m vn vq vd,.int .u8 (f.rX.toNat:Int)] w (uw p base hv x m f st w):=by
 have HFL:=hid (fun s=>JF m s f)
 have HR:=hid (O4 hf m st)
 have HWC:=hid (show∀w,Calls Tryz.prog 91 #[.int .u8 (f.rX.toNat:Int)] w fun e w'=>e= .returned (.int .i64 0)∧w=w' from fun w=>by have h:=jL f w;rw[F6 hf]at h;exact h)
 have HIT:=hid (show∀w,Calls Tryz.prog 93 #[.int .u8 (f.rX.toNat:Int)] w fun e w'=>e= .returned (.bool true)∧w=w' from fun w=>by have h:=jV f w;rw[hf]at h;exact h)
 have HSN:=hid (fun s=>yP f hf s m vn vq vd (bG ho.n) (bG ho.q) (bG ho.d))
 clear hf
 have HF0:=jO hx hbp h ho
 have HF:=hid HF0.1
 have HOL:=hid HF0.2
 have h1:=bG ho.n
 have h2:=bG ho.q
 have h3:=bG ho.d
 clear hx hbp h ho HF0
 go_enter Tryz.func49,Tryz.ntmps49
 go_upto_region 1 with(fail)
 change Code.wp _ _ _ _ ((w.alloc (.cells (aF m vn vq vd).toArray 41)).alloc (.cells (mgN (head 0 0)).toArray 41))
 generalize((w.alloc (.cells (aF m vn vq vd).toArray 41)).alloc (.cells (mgN (head 0 0)).toArray 41))=w1 at HF HOL⊢
 generalize w.heap.size+1=q at HF⊢
 generalize w.heap.size=z at HF⊢
 go_wp2_with fail
 refine(HWC.out _).mono ?_
 rintro e w2 ⟨rfl,rfl⟩
 go_wp2_with fail
 refine(HIT.out _).mono ?_
 rintro e w2 ⟨rfl,rfl⟩
 go_wp2_with fail
 refine(xW HF.out.x HF.out.bp HF.out.s).mono ?_
 rintro e w2 ⟨s,rfl, -,ho,hm⟩
 obtain⟨st',hs,HST⟩:∃st',BdS w2 p hv x st'∧Hid (Nc (st.bind aN) s st'):=by
  cases hg:st.bind aN with
  |none=>rw[hg]at hm;exact⟨none,hm,hid rfl⟩
  |some y=>rw[hg]at hm;exact⟨some y.2,hm.2,hid ⟨hm.1,rfl⟩⟩
 have lN:=hid (HOL.out.bd HF.out.s ho)
 have HF2:=hid (HF.out.step hs ho)
 clear hs ho HF hm HOL
 go_wp2_with(refine wlw HF2.out.m 0 (aF m vn vq vd) rfl rfl _ _ rfl rfl _ Tryz.underlying41 rfl aB ?_)
 refine(HSN.out s _).mono ?_
 rintro e w3 ⟨rfl,hb⟩
 have HF3:=hid (HF2.out.new hb)
 have tJ:=hid (lN.out.below hb)
 clear hb HF2 lN
 go_wp2_with(refine dA HF3.out.r 0 (aF (m.bV s f) vn vq vd) _ (bW ..) (Nat.le_refl 36) (bT _ h1 h2 h3) rfl _ _ _ rfl rfl rfl aB ?_;intro wz hs ho;have HZF:=hid hs;have HOF:=hid (ho (fun i=>i=q) rfl _ (Off.refl _ _));clear hs ho)
 obtain⟨e1,e2,e3⟩:=HFL.out s
 obtain⟨r1,r2,r3⟩:=HF3.out.end_ (tJ.out.as e1 e2 e3) HOF.out
 refine bodyPost_ret (bf (l:=aF (m.bV s f) vn vq vd) rfl Tryz.underlying41 rfl aB rfl HZF.out) rfl ⟨_,_,_,_,rfl,r1,⟨fun _=>e1,fun _=>e2,fun _=>e3⟩,r2, ?_⟩
 rw[HR.out]
 have hst:=HST.out
 cases hr:st.bind aN with
 |none=>rw[hr]at hst;rw[show st'=none from hst]at r3;exact r3
 |some r=>rw[hr]at hst;obtain⟨a1,a2⟩:=hst;rw[a2]at r3;exact⟨by rw[a1],r3⟩
end Go.Proofs.YtkblmloobkiloaaGreatDoor
