/-
  MVB MVC MVD MSE MSF: what the laws of package msg need of them.
-/
import Derived.Test.YtkblmloobkiloaaGreatDoorK00
import Derived.Test.YtkblmloobkiloaaGreatDoorK15
import Derived.Test.YtkblmloobkiloaaGreatDoorK14
set_option maxRecDepth 100000
set_option maxHeartbeats 12800000
namespace Go.Proofs.YtkblmloobkiloaaGreatDoor
open Go.Lib (hid)
open Go.RowKit
theorem aaY{l:List ByteArray}{k:Nat}{x:ByteArray}(h:l[k]? =some x):(l.take (k+1)).flatMap fP=(l.take k).flatMap fP++(le 2 x.size++x.data.toList):=by
 rw[List.take_add_one,h,Option.toList_some,List.flatMap_append]
 simp[fP]
theorem abn(l:List ByteArray)(k:Nat)(h:∀s∈l,s.size≤65535)(hk:k≤4):((l.take k).flatMap fP).length≤k*65537:=by
 have h':∀(j:Nat) (r:List ByteArray),(∀s∈r,s.size≤65535)→r.length≤j→(r.flatMap fP).length≤j*65537:=by
  intro j
  induction j with
  |zero=>intro r _ hr;rw[List.length_eq_zero_iff.1 (Nat.le_zero.1 hr)];exact Nat.zero_le _
  |succ j ih=>
   intro r hs hr
   cases r with
   |nil=>exact Nat.zero_le _
   |cons x r=>
    have h1:=ih r (fun s hh=>hs s (List.mem_cons_of_mem _ hh)) (by simpa using hr)
    have h2:=hs x (List.mem_cons_self ..)
    rw[List.flatMap_cons,List.length_append,ji]
    omega
 exact h' k _ (fun s hs=>h s (List.mem_of_mem_take hs)) (by rw[List.length_take];exact Nat.min_le_left _ _)
theorem aaZ(s:Sta)(hs:s.ok)(hg:s.good=true)(hz:dY s≤65537)(w:World):
  Calls Tryz.prog 122 #[stV s] w fun e w'=>(∃v,e= .returned (.tuple #[v,.int .i64 0])∧w'.ownsRow w.heap.size 5 1 v (kX s).length (aX (kX s)))∧Below w.heap.size w w':=by
 obtain⟨L,hL⟩:∃L,L=[s.name,s.uid,s.gid,s.fE]:=⟨_,rfl⟩
 have HSB:=hid (show kX s=qN s++L.flatMap fP from by rw[BX,hL];simp)
 have HLG:=hid (show∀x∈L,good x=true from by
  intro x hx
  unfold Sta.good at hg
  simp only[Bool.and_eq_true]at hg
  rw[hL]at hx
  simp only[List.mem_cons,List.not_mem_nil,or_false]at hx
  rcases hx with rfl|rfl|rfl|rfl
  ·exact hg.1.1.1
  ·exact hg.1.1.2
  ·exact hg.1.2
  ·exact hg.2)
 have HLZ:=hid (show∀x∈L,x.size≤65535 from by
  intro x hx
  unfold dY at hz
  rw[hL]at hx
  simp only[List.mem_cons,List.not_mem_nil,or_false]at hx
  rcases hx with rfl|rfl|rfl|rfl<;>omega)
 have HL4:=hid (show L.length=4 from by rw[hL];rfl)
 have h49:49≤dY s:=by unfold dY;omega
 have HRL:=hid (JZ s)
 have HSZ:=hid (fun w=>Zc s (by omega) w)
 obtain⟨hs1,hs2,⟨hs3,hs4,hs5⟩,hs6,hs7,hs8,hs9⟩:=hs
 have hup:Below w.heap.size w (w.alloc (.cells (stL s).toArray 39)):=(Below.refl _ _).alloc (Nat.le_refl _) _
 have Un:Below w.heap.size w ((w.alloc (.cells (stL s).toArray 39)).alloc (.cells (h_ L).toArray 9)):=hup.alloc (by rw[World.size_alloc];omega) _
 have HKB:=hid ((oq.refl w.heap.size w).new Un (Nat.le_refl _))
 have HM:=hid (show Blk ((w.alloc (.cells (stL s).toArray 39)).alloc (.cells (h_ L).toArray 9)) w.heap.size 39 (stL s).toArray from(Blk.new w _ _).alloc _)
 have HN:=hid (show Blk ((w.alloc (.cells (stL s).toArray 39)).alloc (.cells (h_ L).toArray 9)) (w.heap.size+1) 9 (h_ L).toArray from by have h:=Blk.new (w.alloc (.cells (stL s).toArray 39)) 9 (h_ L).toArray;rw[World.size_alloc]at h;exact h)
 have HLE:=hid hL
 clear hup Un hg
 have HM0:=hid (Blk.new w 39 (stL s).toArray)
 go_enter Tryz.func122,Tryz.ntmps122
 go_upto_region 1 with(fail)
 change Code.wp _ _ _ _ (w.alloc (.cells (stL s).toArray 39))
 generalize hwa:w.alloc (.cells (stL s).toArray 39)=wa at HKB HM HN HM0⊢
 have HWA:=hid (show wa.heap.size=w.heap.size+1 from by rw[←hwa,World.size_alloc])
 clear hwa
 generalize hzz:w.heap.size=z at HM HM0⊢
 have HZZ:=hid hzz
 clear hzz
 have k1:wa.cell? ⟨z,9,none⟩=some (.string s.name):=Blk.cell HM0.out 9
 have k2:wa.cell? ⟨z,10,none⟩=some (.string s.uid):=Blk.cell HM0.out 10
 have k3:wa.cell? ⟨z,11,none⟩=some (.string s.gid):=Blk.cell HM0.out 11
 have k4:wa.cell? ⟨z,12,none⟩=some (.string s.fE):=Blk.cell HM0.out 12
 go_upto_region 2 with(fail)
 rw[show(#[Value.string s.name,Value.string s.uid,Value.string s.gid,Value.string s.fE]:Array Value)=(h_ L).toArray from by rw[hL];rfl]
 clear hL k1 k2 k3 k4 HM0
 rw[HWA.out]
 generalize wa.alloc (.cells (h_ L).toArray 9)=w1 at HKB HM HN⊢
 generalize hzl:w.heap.size+1=zl at HN⊢
 have HZL:=hid hzl
 clear hzl
 go_upto_region 3 with(fail)
 go_loop [5,6] (fun i _=>∃j:Nat,i= .int .i64 (j:Int)∧j≤4) (fun i _=>4-(intOf i).toNat)
 case atStart=>exact⟨0,rfl,Nat.zero_le _⟩
 case round=>
  obtain⟨j,rfl,hj⟩:=hrel
  by_cases hlt:j<4
  ·obtain⟨x,hx⟩:∃x,L[j]? =some x:=⟨L[j]'(by rw[HL4.out];exact hlt),List.getElem?_eq_getElem _⟩
   have kx:w1.cell? ⟨zl,j,none⟩=some (.string x):=(Blk.cell HN.out j).trans (by rw[List.getElem?_toArray,h_,List.getElem?_map,hx];rfl)
   have hxz:=HLZ.out x (List.mem_of_getElem? hx)
   have HXG:=hid (HLG.out x (List.mem_of_getElem? hx))
   clear hx
   go_wp2_with fail
   refine(qM x w1 (by omega)).mono ?_
   rintro e w2 ⟨rfl,rfl⟩
   rw[HXG.out]
   go_wp2_with fail
   go_round
   case rel=>exact⟨j+1,by go_num,hlt⟩
   case measure=>first|(simp[intOf];done)|(simp[intOf];omega)
  ·go_wp2_with(refine wlw HM.out 0 (stL s) rfl rfl _ _ rfl rfl _ Tryz.underlying39 rfl bP ?_)
   refine(HSZ.out _).mono ?_
   rintro e w2 ⟨rfl,hb⟩
   have HM2:=hid (Blk.below HM.out hb (Blk.lt HM.out))
   have HN2:=hid (Blk.below HN.out hb (Blk.lt HN.out))
   have HK2:=hid (HKB.out.new hb HKB.out.1.size)
   clear hb HM HN HKB HSZ
   obtain⟨sz,hsz⟩:∃sz,sz=dY s-2:=⟨_,rfl⟩
   have HS2:=hid (show((dY s:Nat):Int)=(sz:Int)+2 from by omega)
   have HSE:=hid hsz
   have Ug:sz≤65535:=by omega
   rw[HS2.out]
   clear hsz h49 hz
   have hO0:w2.ownsRow w.heap.size 5 1 (.slice none 0 0) ([]:List UInt8).length (aX []):=dS _ _ _ _
   have HO2:=hid hO0
   clear hO0 hlt hj
   have hw:IntKind.u64.wrap (sz:Int)=(sz:Int):=by rw[IntKind.wrap_u64];omega
   go_wp2_with fail
   refine(eu (k:=2) (n:=sz) HK2.out.1.size HO2.out (by omega) (by decide) (by decide)).mono ?_
   rintro e w3 ⟨⟨v3,rfl,ho⟩,hk⟩
   have HO3:=hid ho
   have HM3:=hid (hk.2 _ _ _ (by decide) HM2.out)
   have HN3:=hid (hk.2 _ _ _ (by decide) HN2.out)
   have HK3:=hid (HK2.out.trans hk)
   have HQ3:=hid (show(([]:List UInt8)++le 2 sz).length=2 from by rw[List.length_append,List.length_nil,bK])
   clear ho hk HO2 HM2 HN2 HK2 hw
   have k1:w3.cell? ⟨z,0,none⟩=some (.int .u16 (s.type:Int)):=Blk.cell HM3.out 0
   have hw:IntKind.u64.wrap (s.type:Int)=(s.type:Int):=by rw[IntKind.wrap_u64];omega
   go_wp2_with fail
   refine(eu (k:=2) (n:=s.type) HK3.out.1.size HO3.out (by omega) (by decide) (by rw[HQ3.out];decide)).mono ?_
   rintro e w4 ⟨⟨v4,rfl,ho⟩,hk⟩
   have HO4:=hid ho
   have HM4:=hid (hk.2 _ _ _ (by decide) HM3.out)
   have HN4:=hid (hk.2 _ _ _ (by decide) HN3.out)
   have HK4:=hid (HK3.out.trans hk)
   have HQ4:=hid (show((([]:List UInt8)++le 2 sz)++le 2 s.type).length=4 from by rw[List.length_append,HQ3.out,bK])
   clear ho hk HO3 HM3 HN3 HK3 k1 hw
   have k1:w4.cell? ⟨z,1,none⟩=some (.int .u32 (s.dev:Int)):=Blk.cell HM4.out 1
   have hw:IntKind.u64.wrap (s.dev:Int)=(s.dev:Int):=by rw[IntKind.wrap_u64];omega
   go_wp2_with fail
   refine(eu (k:=4) (n:=s.dev) HK4.out.1.size HO4.out (by omega) (by decide) (by rw[HQ4.out];decide)).mono ?_
   rintro e w5 ⟨⟨v5,rfl,ho⟩,hk⟩
   have HO5:=hid ho
   have HM5:=hid (hk.2 _ _ _ (by decide) HM4.out)
   have HN5:=hid (hk.2 _ _ _ (by decide) HN4.out)
   have HK5:=hid (HK4.out.trans hk)
   have HQ5:=hid (show(((([]:List UInt8)++le 2 sz)++le 2 s.type)++le 4 s.dev).length=8 from by rw[List.length_append,HQ4.out,bK])
   clear ho hk HO4 HM4 HN4 HK4 k1 hw
   have k1:w5.cell? ⟨z,2,none⟩=some (.int .u8 (s.qid.kind:Int)):=Blk.cell HM5.out 2
   have hw:IntKind.u64.wrap (s.qid.kind:Int)=(s.qid.kind:Int):=by rw[IntKind.wrap_u64];omega
   go_wp2_with fail
   refine(eu (k:=1) (n:=s.qid.kind) HK5.out.1.size HO5.out (by omega) (by decide) (by rw[HQ5.out];decide)).mono ?_
   rintro e w6 ⟨⟨v6,rfl,ho⟩,hk⟩
   have HO6:=hid ho
   have HM6:=hid (hk.2 _ _ _ (by decide) HM5.out)
   have HN6:=hid (hk.2 _ _ _ (by decide) HN5.out)
   have HK6:=hid (HK5.out.trans hk)
   have HQ6:=hid (show((((([]:List UInt8)++le 2 sz)++le 2 s.type)++le 4 s.dev)++le 1 s.qid.kind).length=9 from by rw[List.length_append,HQ5.out,bK])
   clear ho hk HO5 HM5 HN5 HK5 k1 hw
   have k1:w6.cell? ⟨z,3,none⟩=some (.int .u32 (s.qid.vers:Int)):=Blk.cell HM6.out 3
   have hw:IntKind.u64.wrap (s.qid.vers:Int)=(s.qid.vers:Int):=by rw[IntKind.wrap_u64];omega
   go_wp2_with fail
   refine(eu (k:=4) (n:=s.qid.vers) HK6.out.1.size HO6.out (by omega) (by decide) (by rw[HQ6.out];decide)).mono ?_
   rintro e w7 ⟨⟨v7,rfl,ho⟩,hk⟩
   have HO7:=hid ho
   have HM7:=hid (hk.2 _ _ _ (by decide) HM6.out)
   have HN7:=hid (hk.2 _ _ _ (by decide) HN6.out)
   have HK7:=hid (HK6.out.trans hk)
   have HQ7:=hid (show(((((([]:List UInt8)++le 2 sz)++le 2 s.type)++le 4 s.dev)++le 1 s.qid.kind)++le 4 s.qid.vers).length=13 from by rw[List.length_append,HQ6.out,bK])
   clear ho hk HO6 HM6 HN6 HK6 k1 hw
   have k1:w7.cell? ⟨z,4,none⟩=some (.int .u64 (s.qid.path:Int)):=Blk.cell HM7.out 4
   go_wp2_with fail
   refine(eu (k:=8) (n:=s.qid.path) HK7.out.1.size HO7.out (by omega) (by decide) (by rw[HQ7.out];decide)).mono ?_
   rintro e w8 ⟨⟨v8,rfl,ho⟩,hk⟩
   have HO8:=hid ho
   have HM8:=hid (hk.2 _ _ _ (by decide) HM7.out)
   have HN8:=hid (hk.2 _ _ _ (by decide) HN7.out)
   have HK8:=hid (HK7.out.trans hk)
   have HQ8:=hid (show((((((([]:List UInt8)++le 2 sz)++le 2 s.type)++le 4 s.dev)++le 1 s.qid.kind)++le 4 s.qid.vers)++le 8 s.qid.path).length=21 from by rw[List.length_append,HQ7.out,bK])
   clear ho hk HO7 HM7 HN7 HK7 k1
   have k1:w8.cell? ⟨z,5,none⟩=some (.int .u32 (s.mode:Int)):=Blk.cell HM8.out 5
   have hw:IntKind.u64.wrap (s.mode:Int)=(s.mode:Int):=by rw[IntKind.wrap_u64];omega
   go_wp2_with fail
   refine(eu (k:=4) (n:=s.mode) HK8.out.1.size HO8.out (by omega) (by decide) (by rw[HQ8.out];decide)).mono ?_
   rintro e w9 ⟨⟨v9,rfl,ho⟩,hk⟩
   have HO9:=hid ho
   have HM9:=hid (hk.2 _ _ _ (by decide) HM8.out)
   have HN9:=hid (hk.2 _ _ _ (by decide) HN8.out)
   have HK9:=hid (HK8.out.trans hk)
   have HQ9:=hid (show(((((((([]:List UInt8)++le 2 sz)++le 2 s.type)++le 4 s.dev)++le 1 s.qid.kind)++le 4 s.qid.vers)++le 8 s.qid.path)++le 4 s.mode).length=25 from by rw[List.length_append,HQ8.out,bK])
   clear ho hk HO8 HM8 HN8 HK8 k1 hw
   have k1:w9.cell? ⟨z,6,none⟩=some (.int .u32 (s.atime:Int)):=Blk.cell HM9.out 6
   have hw:IntKind.u64.wrap (s.atime:Int)=(s.atime:Int):=by rw[IntKind.wrap_u64];omega
   go_wp2_with fail
   refine(eu (k:=4) (n:=s.atime) HK9.out.1.size HO9.out (by omega) (by decide) (by rw[HQ9.out];decide)).mono ?_
   rintro e w10 ⟨⟨v10,rfl,ho⟩,hk⟩
   have C_:=hid ho
   have abw:=hid (hk.2 _ _ _ (by decide) HM9.out)
   have abG:=hid (hk.2 _ _ _ (by decide) HN9.out)
   have abx:=hid (HK9.out.trans hk)
   have V8:=hid (show((((((((([]:List UInt8)++le 2 sz)++le 2 s.type)++le 4 s.dev)++le 1 s.qid.kind)++le 4 s.qid.vers)++le 8 s.qid.path)++le 4 s.mode)++le 4 s.atime).length=29 from by rw[List.length_append,HQ9.out,bK])
   clear ho hk HO9 HM9 HN9 HK9 k1 hw
   have k1:w10.cell? ⟨z,7,none⟩=some (.int .u32 (s.mtime:Int)):=Blk.cell abw.out 7
   have hw:IntKind.u64.wrap (s.mtime:Int)=(s.mtime:Int):=by rw[IntKind.wrap_u64];omega
   go_wp2_with fail
   refine(eu (k:=4) (n:=s.mtime) abx.out.1.size C_.out (by omega) (by decide) (by rw[V8.out];decide)).mono ?_
   rintro e w11 ⟨⟨v11,rfl,ho⟩,hk⟩
   have A_:=hid ho
   have aby:=hid (hk.2 _ _ _ (by decide) abw.out)
   have abH:=hid (hk.2 _ _ _ (by decide) abG.out)
   have abz:=hid (abx.out.trans hk)
   have abI:=hid (show(((((((((([]:List UInt8)++le 2 sz)++le 2 s.type)++le 4 s.dev)++le 1 s.qid.kind)++le 4 s.qid.vers)++le 8 s.qid.path)++le 4 s.mode)++le 4 s.atime)++le 4 s.mtime).length=33 from by rw[List.length_append,V8.out,bK])
   clear ho hk C_ abw abG abx k1 hw
   have k1:w11.cell? ⟨z,8,none⟩=some (.int .u64 (s.length:Int)):=Blk.cell aby.out 8
   go_wp2_with fail
   refine(eu (k:=8) (n:=s.length) abz.out.1.size A_.out (by omega) (by decide) (by rw[abI.out];decide)).mono ?_
   rintro e w12 ⟨⟨v12,rfl,ho⟩,hk⟩
   have wV:=hid ho
   have Ls:=hid (hk.2 _ _ _ (by decide) aby.out)
   have abP:=hid (hk.2 _ _ _ (by decide) abH.out)
   have abQ:=hid (abz.out.trans hk)
   have abT:=hid (show((((((((((([]:List UInt8)++le 2 sz)++le 2 s.type)++le 4 s.dev)++le 1 s.qid.kind)++le 4 s.qid.vers)++le 8 s.qid.path)++le 4 s.mode)++le 4 s.atime)++le 4 s.mtime)++le 8 s.length).length=41 from by rw[List.length_append,abI.out,bK])
   clear ho hk A_ aby abH abz k1
   have HRC:=hid (show((((((((((([]:List UInt8)++le 2 sz)++le 2 s.type)++le 4 s.dev)++le 1 s.qid.kind)++le 4 s.qid.vers)++le 8 s.qid.path)++le 4 s.mode)++le 4 s.atime)++le 4 s.mtime)++le 8 s.length)=qN s from by unfold qN;rw[HSE.out];simp only[List.nil_append,List.append_assoc])
   rw[HRC.out]at wV
   go_upto_region 25 with(fail)
   go_loopw [8,9] (fun b i wr=>∃(j:Nat) (B:List UInt8),i= .int .i64 (j:Int)∧j≤4∧wr.ownsRow w.heap.size 5 1 b B.length (aX B)∧oq w.heap.size w wr∧Blk wr zl 9 (h_ L).toArray∧Hid (B=qN s++(L.take j).flatMap fP)) (fun _ i _=>4-(intOf i).toNat)
   case atStart=>exact⟨0,qN s,rfl,Nat.zero_le _,wV.out,abQ.out,abP.out,hid (by rw[List.take_zero];exact(List.append_nil _).symm)⟩
   case round=>
    obtain⟨j,B,rfl,hj,ho,hk,hnb,HBE⟩:=hrel
    have HO:=hid ho
    have HK:=hid hk
    have HNB:=hid hnb
    have HBL:=hid (show B.length≤300000 from by rw[HBE.out,List.length_append,HRL.out];have:=abn L j HLZ.out hj;omega)
    clear ho hk hnb
    by_cases hlt:j<4
    ·obtain⟨x,hx⟩:∃x,L[j]? =some x:=⟨L[j]'(by rw[HL4.out];exact hlt),List.getElem?_eq_getElem _⟩
     have kx:wr.cell? ⟨zl,j,none⟩=some (.string x):=(Blk.cell HNB.out j).trans (by rw[List.getElem?_toArray,h_,List.getElem?_map,hx];rfl)
     have hxz:=HLZ.out x (List.mem_of_getElem? hx)
     have HFT:=hid (aaY hx)
     have hw:IntKind.u64.wrap (x.size:Int)=(x.size:Int):=by rw[IntKind.wrap_u64];omega
     clear hx
     go_wp2_with fail
     refine(eu (k:=2) (n:=x.size) HK.out.1.size HO.out (by omega) (by decide) (by have:=HBL.out;omega)).mono ?_
     rintro e wx ⟨⟨vx,rfl,ho⟩,hk⟩
     have HOX:=hid ho
     have HKX:=hid (HK.out.trans hk)
     have HNX:=hid (hk.2 _ _ _ (by decide) HNB.out)
     have kx2:wx.cell? ⟨zl,j,none⟩=some (.string x):=(hk.2 _ _ _ (by decide) HNB.out |>.cell j).trans ((HNB.out.cell j).symm.trans kx)
     have HBX:=hid (show(B++le 2 x.size).length≤300002 from by rw[List.length_append,bK];have:=HBL.out;omega)
     have HE:=hid (show(B++le 2 x.size)++x.data.toList=qN s++(L.take (j+1)).flatMap fP from by rw[HFT.out,HBE.out];simp only[List.append_assoc])
     clear ho hk kx hw
     obtain⟨Ax,cx,rfl, -⟩:=aJ HOX.out
     generalize B++le 2 x.size=B1 at HOX HBX HE⊢
     have hbl:=HBX.out
     go_wp2_with(at_builtin;refine UK (.tmp 108) (.tmp 112) rfl rfl w.heap.size _ B1 rfl HOX.out x rfl (by omega) HKX.out.1.size ?_;intro v9 w9 hown hgr;have HO9:=hid hown;have HK9:=hid (HKX.out.grown HOX.out HKX.out.1.size hgr);have HN9:=hid (show Blk w9 zl 9 (h_ L).toArray from((oq.refl w.heap.size wx).grown HOX.out HKX.out.1.size hgr).2 _ _ _ (by decide) HNX.out);clear hown hgr)
     go_roundw
     case rel=>exact⟨j+1,_,by go_num,hlt,HO9.out,HK9.out,HN9.out,HE⟩
     case measure=>first|(simp[intOf];done)|(simp[intOf];omega)
    ·have HBF:=hid (show B=kX s from by rw[HBE.out,HSB.out,List.take_of_length_le (by rw[HL4.out];omega)])
     obtain⟨Ax,cx,rfl, -⟩:=aJ HO.out
     go_wp2_with fail
     refine bodyPost_ret (v:= .tuple #[.slice Ax B.length cx,.int .i64 0]) (by simp[results,Tryz.results122]) rfl ⟨⟨_,rfl, ?_⟩,by rw[←HZZ.out]at*;exact HK.out.1⟩
     rw[←HBF.out]
     exact HO.out
theorem abh{f:Fld}(hf:0<f.width)(m:Mg):m.bytes f=le f.width (m.num f):=by cases f<;>first|rfl|exact absurd hf (by decide)
theorem abj{f:Fld}(hf:f.isText=true)(m:Mg):m.bytes f=fP (m.txt f):=by cases f<;>first|rfl|exact absurd hf (by decide)
theorem abA{w:World}{base n size:Nat}{e:TypeId}{v:Value}{xs:List Value}(h:w.ownsRow base e size v n xs){i:Nat}(hi:v.ownBlock=some i):i<w.heap.size:=by
 rcases h.2 with⟨rfl,rfl⟩|⟨g,cap,cur,rfl,hb,hg,r⟩
 ·cases hi
 ·injection hi with hi
  subst hi
  exact dP hg
theorem abB{m:Mg}(hm:m.ok){f:Fld}(hf:0<f.width):m.num f<18446744073709551616:=by
 cases f<;>first
  |exact absurd hf (by decide)
  |exact Nat.lt_of_lt_of_le hm.bI (by decide)
  |exact Nat.lt_of_lt_of_le hm.dB (by decide)
  |exact Nat.lt_of_lt_of_le hm.fid (by decide)
  |exact Nat.lt_of_lt_of_le hm.aU (by decide)
  |exact Nat.lt_of_lt_of_le hm.aQ (by decide)
  |exact Nat.lt_of_lt_of_le hm.perm (by decide)
  |exact Nat.lt_of_lt_of_le hm.count (by decide)
  |exact Nat.lt_of_lt_of_le hm.aT (by decide)
  |exact Nat.lt_of_lt_of_le hm.mode (by decide)
  |exact Nat.lt_of_lt_of_le hm.offset (by decide)
theorem abC(l:List ByteArray):(l.flatMap fP).length=(l.map fun s=>2+s.size).sum:=by
 induction l with
 |nil=>rfl
 |cons x l ih=>rw[List.flatMap_cons,List.length_append,ji,List.map_cons,List.sum_cons,ih]
theorem abD(l:List Qd):(l.flatMap kR).length=13*l.length:=by
 induction l with
 |nil=>rfl
 |cons x l ih=>rw[List.flatMap_cons,List.length_append,nH,ih,List.length_cons];omega
theorem abr{l:List Qd}{k:Nat}{x:Qd}(h:l[k]? =some x):(l.take (k+1)).flatMap kR=(l.take k).flatMap kR++kR x:=by
 rw[List.take_add_one,h,Option.toList_some,List.flatMap_append]
 simp
theorem aa0(f:Fld)(m:Mg)(hm:m.ok)(vn vq vd:Value){w:World}{base:Nat}{v:Value}{B:List UInt8}(hb:base≤w.heap.size)(hv:w.ownsRow base 5 1 v B.length (aX B))(hB:B.length≤10000000)(hl:Lists w base m vn vq vd)(hg:m.good f=true)(hs:m.long f≤65536):
  Calls Tryz.prog 66 #[v,iM m vn vq vd,.int .u8 (f.rX.toNat:Int)] w (abg base (B++m.bytes f) w):=by
 have hup:Below w.heap.size w (al w (aF m vn vq vd) 41):=(Below.refl _ _).alloc (Nat.le_refl _) _
 have HKU:=hid ((oq.refl base w).new hup hb)
 have HM:=hid (show aK (al w (aF m vn vq vd) 41) w.heap.size m vn vq vd from Blk.new w _ _)
 have HV:=hid (aI hv hup)
 have HSZ:=hid (Nat.le_trans hb hup.size)
 have HL:=hid (hl.below (hup.mono hb))
 have HMO:=hid hm
 clear hup hb hv hl hm
 have HWC:=hid (jL f)
 have HIT:=hid (jV f)
 by_cases hw:0<f.width
 ·have HE:=hid (abh hw m)
  have HNC:=hid (fun w=>aaW f hw m HMO.out vn vq vd w)
  have hnl:=abB HMO.out hw
  have hw8:=width_le f
  have hw1:(0:Int)<(f.width:Int):=by omega
  rw[HE.out]
  clear hw
  generalize m.num f=n at*
  generalize f.width=k at*
  go_enter Tryz.func66,Tryz.ntmps66
  go_upto_region 1 with(fail)
  change Code.wp _ _ _ _ (al w (aF m vn vq vd) 41)
  generalize(al w (aF m vn vq vd) 41)=w1 at HKU HM HV HSZ HL⊢
  generalize hz:w.heap.size=z at HM⊢
  have HZZ:=hid hz;clear hz
  go_wp2_with fail
  refine(HWC.out _).mono ?_
  rintro e w2 ⟨rfl,rfl⟩
  go_wp2_with(refine wlw HM.out 0 (aF m vn vq vd) rfl rfl _ _ rfl rfl _ Tryz.underlying41 rfl aB ?_)
  refine(HNC.out _).mono ?_
  rintro e w2 ⟨rfl,hb⟩
  have HK2:=hid ((oq.refl base w1).new hb HSZ.out)
  have HV2:=hid (aI HV.out hb)
  have HS2:=hid (Nat.le_trans HSZ.out hb.size)
  clear hb
  go_wp2_with fail
  refine(HWC.out _).mono ?_
  rintro e w3 ⟨rfl,rfl⟩
  go_wp2_with fail
  refine(Ad (k:=k) (n:=n) HS2.out HV2.out hnl hw8 (by omega)).mono ?_
  rintro e w4 ⟨⟨v4,rfl,ho⟩,hk⟩
  have HO:=hid ho
  have HK:=hid ((HKU.out.trans HK2.out).trans hk)
  clear ho hk
  go_wp2_with fail
  exact bodyPost_ret (v:=v4) (by simp[results,Tryz.results66]) rfl ⟨⟨_,rfl,HO.out⟩,HK.out⟩
 have hw0:f.width=0:=by omega
 clear hw
 rw[hw0]at HWC
 by_cases ht:f.isText=true
 ·have HE:=hid (abj ht m)
  have HTX:=hid (fun w=>YB f ht m vn vq vd w)
  rw[ht]at HIT
  rw[YU ht]at hs
  rw[HE.out]
  generalize m.txt f=T at HTX hs⊢
  have hs':T.size<65536:=by omega
  clear hs ht hg
  go_enter Tryz.func66,Tryz.ntmps66
  go_upto_region 1 with(fail)
  change Code.wp _ _ _ _ (al w (aF m vn vq vd) 41)
  generalize(al w (aF m vn vq vd) 41)=w1 at HKU HM HV HSZ HL⊢
  generalize hz:w.heap.size=z at HM⊢
  have HZZ:=hid hz;clear hz
  go_wp2_with fail
  refine(HWC.out _).mono ?_
  rintro e w2 ⟨rfl,rfl⟩
  go_wp2_with fail
  refine(HIT.out _).mono ?_
  rintro e w2 ⟨rfl,rfl⟩
  go_wp2_with(refine wlw HM.out 0 (aF m vn vq vd) rfl rfl _ _ rfl rfl _ Tryz.underlying41 rfl aB ?_)
  refine(HTX.out _).mono ?_
  rintro e w2 ⟨rfl,hb⟩
  have HK2:=hid ((oq.refl base w1).new hb HSZ.out)
  have HV2:=hid (aI HV.out hb)
  have HS2:=hid (Nat.le_trans HSZ.out hb.size)
  clear hb
  go_wp2_with fail
  refine(aaT T hs' HS2.out HV2.out (by omega)).mono ?_
  rintro e w4 ⟨⟨v4,rfl,ho⟩,hk⟩
  have HO:=hid ho
  have HK:=hid ((HKU.out.trans HK2.out).trans hk)
  clear ho hk
  go_wp2_with fail
  exact bodyPost_ret (v:=v4) (by simp[results,Tryz.results66]) rfl ⟨⟨_,rfl,HO.out⟩,HK.out⟩
 rw[Bool.not_eq_true]at ht
 rw[ht]at HIT
 cases f<;>first|(exact absurd hw0 (by decide))|(exact absurd ht (by decide))|skip
 ·as_aux_lemma=>
  change Calls Tryz.prog 66 #[v,iM m vn vq vd,.int .u8 78] w _
  clear hw0 ht
  go_enter Tryz.func66,Tryz.ntmps66
  go_upto_region 1 with(fail)
  change Code.wp _ _ _ _ (al w (aF m vn vq vd) 41)
  generalize(al w (aF m vn vq vd) 41)=w1 at HKU HM HV HSZ HL⊢
  generalize hz:w.heap.size=z at HM⊢
  have HZZ:=hid hz;clear hz
  go_wp2_with fail
  refine(HWC.out _).mono ?_
  rintro e w2 ⟨rfl,rfl⟩
  go_wp2_with fail
  refine(HIT.out _).mono ?_
  rintro e w2 ⟨rfl,rfl⟩
  obtain⟨A,c,hv,hc,hmx,hrd⟩:=HL.out.n
  subst hv
  have HBE:=hid (show B++m.bytes .names=B++(le 2 m.names.length++m.names.flatMap fP)from rfl)
  rw[HBE.out]
  have hsum:2+(m.names.map fun s=>2+s.size).sum≤65536:=hs
  have HNM:=hid HL.out.n
  have kn:w1.cell? ⟨z,11,none⟩=some (.slice A m.names.length c):=Blk.cell HM.out 11
  have hnl:m.names.length≤65536:=by have:=Zd m.names;omega
  have hwr:IntKind.u64.wrap (m.names.length:Int)=(m.names.length:Int):=by rw[IntKind.wrap_u64];omega
  clear HBE hrd hc hmx hs hg
  go_wp2_with fail
  refine(Ad (k:=2) (n:=m.names.length) HSZ.out HV.out (by omega) (by decide) (by omega)).mono ?_
  rintro e w2 ⟨⟨v2,rfl,ho⟩,hk⟩
  have HO2:=hid ho
  have HK2:=hid (HKU.out.trans hk)
  have HM2:=hid (show aK w2 z m (.slice A m.names.length c) vq vd from hk.2 _ _ _ (by decide) HM.out)
  have HN2:=hid (HNM.out.below hk.1)
  have HS2:=hid (Nat.le_trans HSZ.out hk.1.size)
  clear ho hk kn HM HNM HL HSZ HV HKU hwr
  go_upto_region 8 with(fail)
  go_loopw [0,7] (fun b i wr=>∃(k:Nat) (X:List UInt8),i= .int .i64 (k:Int)∧k≤m.names.length∧wr.ownsRow base 5 1 b X.length (aX X)∧oq base w2 wr∧Hid (X=B++(le 2 m.names.length++(m.names.take k).flatMap fP))) (fun _ i _=>m.names.length-(intOf i).toNat)
  case atStart=>exact⟨0,B++le 2 m.names.length,rfl,Nat.zero_le _,HO2.out,oq.refl _ _,hid (by rw[List.take_zero,List.flatMap_nil,List.append_nil])⟩
  case round=>
   obtain⟨k,X,rfl,hk,ho,hkp,HX⟩:=hrel
   have HO:=hid ho
   have HK:=hid hkp
   have HMR:=hid (show aK wr z m (.slice A m.names.length c) vq vd from hkp.2 _ _ _ (by decide) HM2.out)
   have HSR:=hid (Nat.le_trans HS2.out hkp.1.size)
   have HNR:=hid (HN2.out.below hkp.1)
   have HXL:=hid (show X.length≤10065538 from by
    rw[HX.out,List.length_append,List.length_append,bK,abC]
    have h1:=Zz m.names k
    omega)
   clear ho hkp
   have kn:wr.cell? ⟨z,11,none⟩=some (.slice A m.names.length c):=Blk.cell HMR.out 11
   by_cases hlt:k<m.names.length
   ·obtain⟨x,hx⟩:∃x,m.names[k]? =some x:=⟨m.names[k],List.getElem?_eq_getElem _⟩
    obtain⟨ad,hA, -,kx⟩:=HNR.out.at_ hx
    subst hA
    have hxz:2+x.size≤65536:=by have h1:=En (f:=fun s:ByteArray=>2+s.size) (List.mem_of_getElem? hx);have h2:=hsum;omega
    have HFT:=hid (aaY hx)
    have HLT:=hid hlt
    clear hx
    go_wp2_with fail
    refine(aaT x (by have:=hxz;omega) HSR.out HO.out (by have:=HXL.out;omega)).mono ?_
    rintro e w5 ⟨⟨v5,rfl,ho⟩,hk5⟩
    have HO5:=hid ho
    have HK5:=hid (HK.out.trans hk5)
    have HX5:=hid (show X++fP x=B++(le 2 m.names.length++(m.names.take (k+1)).flatMap fP)from by rw[HFT.out,HX.out];simp only[List.append_assoc];rfl)
    clear ho hk5
    go_wp2_with fail
    go_roundw
    case rel=>exact⟨k+1,_,by go_num,HLT.out,HO5.out,HK5.out,HX5⟩
    case measure=>first|(simp[intOf];done)|(have:=HLT.out;simp[intOf];omega)
   ·have HXE:=hid (show X=B++(le 2 m.names.length++m.names.flatMap fP)from by rw[HX.out,List.take_of_length_le (by omega)])
    have HKF:=hid (HK2.out.trans HK.out)
    rw[HXE.out]at HO
    obtain⟨Ax,cx,rfl, -⟩:=aJ HO.out
    go_wp2_with fail
    exact bodyPost_ret (v:= .slice Ax _ cx) (by simp[results,Tryz.results66]) rfl ⟨⟨_,rfl,HO.out⟩,HKF.out⟩
 ·as_aux_lemma=>
  change Calls Tryz.prog 66 #[v,iM m vn vq vd,.int .u8 81] w _
  clear hw0 ht
  go_enter Tryz.func66,Tryz.ntmps66
  go_upto_region 1 with(fail)
  change Code.wp _ _ _ _ (al w (aF m vn vq vd) 41)
  generalize(al w (aF m vn vq vd) 41)=w1 at HKU HM HV HSZ HL⊢
  generalize hz:w.heap.size=z at HM⊢
  have HZZ:=hid hz;clear hz
  go_wp2_with fail
  refine(HWC.out _).mono ?_
  rintro e w2 ⟨rfl,rfl⟩
  go_wp2_with fail
  refine(HIT.out _).mono ?_
  rintro e w2 ⟨rfl,rfl⟩
  obtain⟨A,c,hv,hc,hmx,hrd⟩:=HL.out.q
  subst hv
  have HBE:=hid (show B++m.bytes .aV=B++(le 2 m.aV.length++m.aV.flatMap kR)from rfl)
  rw[HBE.out]
  have hsum:2+13*m.aV.length≤65536:=hs
  have HNM:=hid HL.out.q
  have kn:w1.cell? ⟨z,12,none⟩=some (.slice A m.aV.length c):=Blk.cell HM.out 12
  have hnl:m.aV.length≤65536:=by omega
  have hwr:IntKind.u64.wrap (m.aV.length:Int)=(m.aV.length:Int):=by rw[IntKind.wrap_u64];omega
  clear HBE hrd hc hmx hs hg
  go_wp2_with fail
  refine(Ad (k:=2) (n:=m.aV.length) HSZ.out HV.out (by omega) (by decide) (by omega)).mono ?_
  rintro e w2 ⟨⟨v2,rfl,ho⟩,hk⟩
  have HO2:=hid ho
  have HK2:=hid (HKU.out.trans hk)
  have HM2:=hid (show aK w2 z m vn (.slice A m.aV.length c) vd from hk.2 _ _ _ (by decide) HM.out)
  have HN2:=hid (HNM.out.below hk.1)
  have HS2:=hid (Nat.le_trans HSZ.out hk.1.size)
  clear ho hk kn HM HNM HL HSZ HV HKU hwr
  go_upto_region 14 with(fail)
  go_loopw [0,8] (fun b i wr=>∃(k:Nat) (X:List UInt8),i= .int .i64 (k:Int)∧k≤m.aV.length∧wr.ownsRow base 5 1 b X.length (aX X)∧oq base w2 wr∧Hid (X=B++(le 2 m.aV.length++(m.aV.take k).flatMap kR))) (fun _ i _=>m.aV.length-(intOf i).toNat)
  case atStart=>exact⟨0,B++le 2 m.aV.length,rfl,Nat.zero_le _,HO2.out,oq.refl _ _,hid (by rw[List.take_zero,List.flatMap_nil,List.append_nil])⟩
  case round=>
   obtain⟨k,X,rfl,hk,ho,hkp,HX⟩:=hrel
   have HO:=hid ho
   have HK:=hid hkp
   have HMR:=hid (show aK wr z m vn (.slice A m.aV.length c) vd from hkp.2 _ _ _ (by decide) HM2.out)
   have HSR:=hid (Nat.le_trans HS2.out hkp.1.size)
   have HNR:=hid (HN2.out.below hkp.1)
   have HXL:=hid (show X.length≤10065538 from by
    rw[HX.out,List.length_append,List.length_append,bK,abD,List.length_take]
    have h1:=Nat.min_le_right k m.aV.length
    omega)
   clear ho hkp
   have kn:wr.cell? ⟨z,12,none⟩=some (.slice A m.aV.length c):=Blk.cell HMR.out 12
   by_cases hlt:k<m.aV.length
   ·obtain⟨x,hx⟩:∃x,m.aV[k]? =some x:=⟨m.aV[k],List.getElem?_eq_getElem _⟩
    obtain⟨ad,hA, -,kx0,kx1,kx2⟩:=HNR.out.at_ hx
    subst hA
    have HXO:=hid (HMO.out.aV x (List.mem_of_getElem? hx))
    have HFT:=hid (abr hx)
    have HLT:=hid hlt
    clear hx
    go_wp2_with fail
    refine(aaU x HXO.out HSR.out HO.out (by have:=HXL.out;omega)).mono ?_
    rintro e w5 ⟨⟨v5,rfl,ho⟩,hk5⟩
    have HO5:=hid ho
    have HK5:=hid (HK.out.trans hk5)
    have HX5:=hid (show X++kR x=B++(le 2 m.aV.length++(m.aV.take (k+1)).flatMap kR)from by rw[HFT.out,HX.out];simp only[List.append_assoc])
    clear ho hk5
    go_wp2_with fail
    go_roundw
    case rel=>exact⟨k+1,_,by go_num,HLT.out,HO5.out,HK5.out,HX5⟩
    case measure=>first|(simp[intOf];done)|(have:=HLT.out;simp[intOf];omega)
   ·have HXE:=hid (show X=B++(le 2 m.aV.length++m.aV.flatMap kR)from by rw[HX.out,List.take_of_length_le (by omega)])
    have HKF:=hid (HK2.out.trans HK.out)
    rw[HXE.out]at HO
    obtain⟨Ax,cx,rfl, -⟩:=aJ HO.out
    go_wp2_with fail
    exact bodyPost_ret (v:= .slice Ax _ cx) (by simp[results,Tryz.results66]) rfl ⟨⟨_,rfl,HO.out⟩,HKF.out⟩
 ·as_aux_lemma=>
  change Calls Tryz.prog 66 #[v,iM m vn vq vd,.int .u8 113] w _
  clear hw0 ht
  go_enter Tryz.func66,Tryz.ntmps66
  go_upto_region 1 with(fail)
  change Code.wp _ _ _ _ (al w (aF m vn vq vd) 41)
  generalize(al w (aF m vn vq vd) 41)=w1 at HKU HM HV HSZ HL⊢
  generalize hz:w.heap.size=z at HM⊢
  have HZZ:=hid hz;clear hz
  go_wp2_with fail
  refine(HWC.out _).mono ?_
  rintro e w2 ⟨rfl,rfl⟩
  go_wp2_with fail
  refine(HIT.out _).mono ?_
  rintro e w2 ⟨rfl,rfl⟩
  have HEQ:=hid (show B++m.bytes .qid=B++kR m.qid from rfl)
  rw[HEQ.out]
  clear hs hg
  have k0:w1.cell? ⟨z,13,none⟩=some (.int .u8 (m.qid.kind:Int)):=Blk.cell HM.out 13
  have k1:w1.cell? ⟨z,14,none⟩=some (.int .u32 (m.qid.vers:Int)):=Blk.cell HM.out 14
  have k2:w1.cell? ⟨z,15,none⟩=some (.int .u64 (m.qid.path:Int)):=Blk.cell HM.out 15
  go_wp2_with fail
  refine(aaU m.qid HMO.out.qid HSZ.out HV.out (by omega)).mono ?_
  rintro e w4 ⟨⟨v4,rfl,ho⟩,hk⟩
  have HO:=hid ho
  have HK:=hid (HKU.out.trans hk)
  clear ho hk k0 k1 k2
  go_wp2_with fail
  exact bodyPost_ret (v:=v4) (by simp[results,Tryz.results66]) rfl ⟨⟨_,rfl,HO.out⟩,HK.out⟩
 ·as_aux_lemma=>
  change Calls Tryz.prog 66 #[v,iM m vn vq vd,.int .u8 68] w _
  clear hw0 ht
  go_enter Tryz.func66,Tryz.ntmps66
  go_upto_region 1 with(fail)
  change Code.wp _ _ _ _ (al w (aF m vn vq vd) 41)
  generalize(al w (aF m vn vq vd) 41)=w1 at HKU HM HV HSZ HL⊢
  generalize hz:w.heap.size=z at HM⊢
  have HZZ:=hid hz;clear hz
  go_wp2_with fail
  refine(HWC.out _).mono ?_
  rintro e w2 ⟨rfl,rfl⟩
  go_wp2_with fail
  refine(HIT.out _).mono ?_
  rintro e w2 ⟨rfl,rfl⟩
  obtain⟨A,c,hv,hc,hmx,hrd⟩:=HL.out.d
  subst hv
  have HEQ:=hid (show B++m.bytes .data=B++(le 4 m.data.length++m.data)from rfl)
  rw[HEQ.out]
  have hsum:4+m.data.length≤65536:=hs
  have HRD:=hid hrd
  have kn:w1.cell? ⟨z,22,none⟩=some (.slice A m.data.length c):=Blk.cell HM.out 22
  have hwr:IntKind.u64.wrap (m.data.length:Int)=(m.data.length:Int):=by rw[IntKind.wrap_u64];omega
  clear hrd hs hg hc hmx
  go_wp2_with fail
  refine(Ad (k:=4) (n:=m.data.length) HSZ.out HV.out (by omega) (by decide) (by omega)).mono ?_
  rintro e w4 ⟨⟨v4,rfl,ho⟩,hk⟩
  have HO:=hid ho
  have HK:=hid (HKU.out.trans hk)
  have HS4:=hid (Nat.le_trans HSZ.out hk.1.size)
  have HM4:=hid (show aK w4 z m vn vq (.slice A m.data.length c)from hk.2 _ _ _ (by decide) HM.out)
  have HR4:=hid (HRD.out.below hk.1)
  have HBL:=hid (show(B++le 4 m.data.length).length+m.data.length≤140737488355327 from by rw[List.length_append,bK];omega)
  clear ho hk kn hwr
  have kn:w4.cell? ⟨z,22,none⟩=some (.slice A m.data.length c):=Blk.cell HM4.out 22
  go_wp2_with(at_builtin;refine kY (.tmp 92) (.tmp 94) rfl rfl base _ (B++le 4 m.data.length) rfl HO.out base _ c m.data rfl HR4.out HBL.out HS4.out ?_;intro v5 w5 hown hgr hor;have HO5:=hid hown;have HK5:=hid (HK.out.grown HO.out HS4.out hgr);clear hown hgr hor)
  rw[List.append_assoc]at HO5
  exact bodyPost_ret (v:=v5) (by simp[results,Tryz.results66]) rfl ⟨⟨_,rfl,HO5.out⟩,HK5.out⟩
 ·as_aux_lemma=>
  change Calls Tryz.prog 66 #[v,iM m vn vq vd,.int .u8 83] w _
  clear hw0 ht
  go_enter Tryz.func66,Tryz.ntmps66
  go_upto_region 1 with(fail)
  change Code.wp _ _ _ _ (al w (aF m vn vq vd) 41)
  generalize(al w (aF m vn vq vd) 41)=w1 at HKU HM HV HSZ HL⊢
  generalize hz:w.heap.size=z at HM⊢
  have HZZ:=hid hz;clear hz
  go_wp2_with fail
  refine(HWC.out _).mono ?_
  rintro e w2 ⟨rfl,rfl⟩
  go_wp2_with fail
  refine(HIT.out _).mono ?_
  rintro e w2 ⟨rfl,rfl⟩
  have HEQ:=hid (show B++m.bytes .stat=B++(le 2 (dY m.stat)++kX m.stat)from rfl)
  have hsum:2+dY m.stat≤65536:=hs
  have HST:=hid (fun w=>aaZ m.stat HMO.out.stat hg (by omega) w)
  have HLN:=hid (pW m.stat)
  clear hs hg
  go_wp2_with(refine wlw HM.out 23 (stL m.stat) rfl rfl _ _ rfl rfl _ Tryz.underlying39 rfl bP ?_)
  refine(HST.out _).mono ?_
  rintro e w2 ⟨⟨vr,rfl,hor⟩,hb⟩
  have HK2:=hid (HKU.out.new hb HSZ.out)
  have HV2:=hid (aI HV.out hb)
  have HS2:=hid (Nat.le_trans HSZ.out hb.size)
  have HB1:=hid (show w1.heap.size≤w2.heap.size from hb.size)
  have HOR:=hid hor
  have HDJ:=hid (show∀k,vr.ownBlock=some k→¬v.ownBlock=some k from fun k hk hv=>Nat.lt_irrefl _ (Nat.lt_of_lt_of_le (abA HV.out hv) (dH hor k hk)))
  obtain⟨Ar,cr,rfl, -⟩:=aJ hor
  clear hor hb
  generalize kX m.stat=R at*
  generalize hsz:dY m.stat=sz at*
  have hRl:R.length=sz:=HLN.out
  have hwr:IntKind.u64.wrap (sz:Int)=(sz:Int):=by rw[IntKind.wrap_u64];omega
  have HLE:=hid HEQ.out.symm
  clear hsz
  go_wp2_with fail
  refine(Au (k:=2) (n:=sz) HS2.out HV2.out (by omega) (by decide) (by omega)).mono ?_
  rintro e w4 ⟨⟨⟨v4,rfl,ho⟩,hk⟩,hoff⟩
  have HO:=hid ho
  have HK:=hid (HK2.out.trans hk)
  have HS4:=hid (Nat.le_trans HS2.out hk.1.size)
  have HRR:=hid (Reads.iH (hoff.own HOR.out HDJ.out))
  have HBL:=hid (show(B++le 2 sz).length+R.length≤140737488355327 from by rw[List.length_append,bK];omega)
  clear ho hk hoff hwr
  go_wp2_with(at_builtin;refine kY (.tmp 110) (.tmp 111) rfl rfl base _ (B++le 2 sz) rfl HO.out w4.heap.size Ar cr R (by first|rfl|(rw[hRl];rfl)) HRR.out HBL.out HS4.out ?_;intro v5 w5 hown hgr hor;have HO5:=hid hown;have HK5:=hid (HK.out.grown HO.out HS4.out hgr);clear hown hgr hor)
  rw[List.append_assoc,HLE.out]at HO5
  exact bodyPost_ret (v:=v5) (by simp[results,Tryz.results66]) rfl ⟨⟨_,rfl,HO5.out⟩,HK5.out⟩
theorem abk{m:Mg}(h:(refused m).1≠0):enc m=([],(refused m).1):=by
 unfold enc
 cases hf:bQ m.kind with
 |none=>rw[Z_ hf]
 |some fs=>dsimp only;rw[if_neg h]
theorem abo{m:Mg}(h:(refused m).1=0):∃fs,bQ m.kind=some fs∧(refused m).2=m.size fs∧(∀f∈fs,m.good f=true)∧m.size fs≤65536∧enc m=(le 4 (m.size fs)++le 1 m.kind++le 2 m.tag++body m fs,0):=by
 cases hf:bQ m.kind with
 |none=>rw[Z_ hf]at h;cases h
 |some fs=>
  have hg:∀f∈fs,m.good f=true:=by
   intro f hm
   cases hb:m.good f with
   |true=>rfl
   |false=>rw[Yz hf hm hb]at h;cases h
  have h2:=ZW hf hg
  have h3:m.size fs≤65536:=by
   rcases Nat.lt_or_ge 65536 (m.size fs)with h4|h4
   ·rw[if_pos h4]at h2;rw[h2]at h;cases h
   ·exact h4
  rw[if_neg (by omega)]at h2
  refine⟨fs,rfl,by rw[h2],hg,h3, ?_⟩
  unfold enc
  rw[hf]
  dsimp only
  rw[if_pos h]
theorem abt{m:Mg}{fs:List Fld}{j:Nat}{f:Fld}(h:fs[j]? =some f):(fs.take (j+1)).flatMap m.bytes=(fs.take j).flatMap m.bytes++m.bytes f:=by
 rw[List.take_add_one,h,Option.toList_some,List.flatMap_append]
 simp
theorem abl{m:Mg}(l:List Fld):(l.flatMap m.bytes).length=(l.map m.long).sum:=by
 induction l with
 |nil=>rfl
 |cons f l ih=>rw[List.flatMap_cons,List.length_append,Ij,List.map_cons,List.sum_cons,ih]
theorem abp(g:Fld→Nat)(l:List Fld)(k:Nat):((l.take k).map g).sum≤(l.map g).sum:=by
 have h:(l.map g).sum=((l.take k).map g).sum+((l.drop k).map g).sum:=by
  rw[←List.sum_append,←List.map_append,List.take_append_drop]
 omega
theorem aa9(m:Mg)(hm:m.ok)(vn vq vd:Value)(w:World)(hl:Lists w w.heap.size m vn vq vd)(hs:m.small):
  Calls Tryz.prog 24 #[iM m vn vq vd] w fun e w'=>(∃v,e= .returned (.tuple #[v,.int .i64 ((enc m).2:Int)])∧w'.ownsRow w.heap.size 5 1 v (enc m).1.length (aX (enc m).1))∧Below w.heap.size w w':=by
 have hup:Below w.heap.size w (al w (aF m vn vq vd) 41):=(Below.refl _ _).alloc (Nat.le_refl _) _
 have HKU:=hid ((oq.refl w.heap.size w).new hup (Nat.le_refl _))
 have HM:=hid (show aK (al w (aF m vn vq vd) 41) w.heap.size m vn vq vd from Blk.new w _ _)
 have HL:=hid (hl.below hup)
 have HSU:=hid hup.size
 have HS:=hid hs
 have HMO:=hid hm
 have HBAD:=hid (abk (m:=m))
 have aa5:=hid (abo (m:=m))
 have ZY:=hid (fun w1=>Bv m.kind hm.kind w1)
 clear hup hl hs hm
 obtain⟨base,hbase⟩:∃b,b=w.heap.size:=⟨_,rfl⟩
 rw[←hbase]at HKU HM HL HSU⊢
 have HBE:=hid hbase
 clear hbase
 go_enter Tryz.func24,Tryz.ntmps24
 go_upto_region 1 with(fail)
 rw[←HBE.out]
 change Code.wp _ _ _ _ (al w (aF m vn vq vd) 41)
 generalize(al w (aF m vn vq vd) 41)=w1 at HKU HM HL HSU⊢
 obtain⟨z,hz⟩:∃z,z=base:=⟨_,rfl⟩
 have HZZ:=hid hz
 have HM1:=hid (show aK w1 z m vn vq vd from by rw[hz];exact HM.out)
 rw[←hz]
 clear hz HM
 go_wp2_with(refine wlw HM1.out 0 (aF m vn vq vd) rfl rfl _ _ rfl rfl _ Tryz.underlying41 rfl aB ?_)
 refine(Y1 m vn vq vd w1 HMO.out.kind (HL.out.more HSU.out) HS.out).mono ?_
 rintro e w2 ⟨rfl,hb⟩
 have HK2:=hid (HKU.out.new hb HSU.out)
 have HM2:=hid (show aK w2 z m vn vq vd from Blk.below HM1.out hb (Blk.lt HM1.out))
 have HL2:=hid (HL.out.below (hb.mono HSU.out))
 have HS2:=hid (show base≤w2.heap.size from Nat.le_trans HSU.out hb.size)
 clear hb HKU HM1 HL
 unfold Z9
 generalize(refused m).1=er at HBAD aa5⊢
 generalize(refused m).2=sz at aa5⊢
 by_cases her:er=0
 ·have hb0:((er:Int) != 0)=false:=by rw[bne_eq_false_iff_eq];omega
  obtain⟨fs,hkf,hsz,hgd,h65,henc⟩:=aa5.out her
  have HEN:=hid henc
  have HGD:=hid hgd
  have Ug:sz≤65536:=by omega
  have HSM:=hid (show 7+(fs.map m.long).sum≤65536 from h65)
  have HSZ:=hid hsz
  rw[hkf]at ZY
  have HLL:=hid (show(iQ m.kind).data.toList=fs.map Fld.rX from by
   unfold iQ
   rw[hkf]
   simp[ofL])
  have hLs:(iQ m.kind).size=fs.length:=by
   have h:=congrArg List.length HLL.out
   rw[Array.length_toList,List.length_map]at h
   exact h
  have h4:=YC hkf
  clear her henc hgd h65 hsz hkf HBAD aa5
  generalize iQ m.kind=L at HLL hLs ZY
  have k0:w2.cell? ⟨z,0,none⟩=some (.int .u8 (m.kind:Int)):=Blk.cell HM2.out 0
  go_wp2_with fail
  refine(ZY.out w2).mono ?_
  rintro e w' ⟨rfl,rfl⟩
  clear ZY k0
  have hw:IntKind.u64.wrap (sz:Int)=(sz:Int):=by rw[IntKind.wrap_u64];omega
  have HO2:=hid (show w2.ownsRow base 5 1 (.slice none 0 0) ([]:List UInt8).length (aX [])from dS _ _ _ _)
  go_wp2_with fail
  refine(Ad (k:=4) (n:=sz) HS2.out HO2.out (by omega) (by decide) (by decide)).mono ?_
  rintro e w3 ⟨⟨v3,rfl,ho⟩,hk⟩
  have HO3:=hid (show w3.ownsRow base 5 1 v3 (le 4 sz).length (aX (le 4 sz))from ho)
  have HK3:=hid (HK2.out.trans hk)
  have HM3:=hid (show aK w3 z m vn vq vd from hk.2 _ _ _ (by decide) HM2.out)
  have HS3:=hid (Nat.le_trans HS2.out hk.1.size)
  have HL3:=hid (HL2.out.below hk.1)
  clear ho hk HO2 HK2 HM2 HS2 HL2 hw
  have k0:w3.cell? ⟨z,0,none⟩=some (.int .u8 (m.kind:Int)):=Blk.cell HM3.out 0
  have HKD:=hid HMO.out.kind
  obtain⟨q,hq⟩:∃q,q=UInt8.ofNat m.kind:=⟨_,rfl⟩
  have HQ:=hid (show(m.kind:Int)=(q.toNat:Int)from by rw[hq,iK _ HKD.out])
  have HQL:=hid (show [q]=le 1 m.kind from by rw[hq];show [UInt8.ofNat m.kind]=[UInt8.ofNat (m.kind%256)];rw[Nat.mod_eq_of_lt HKD.out])
  clear hq
  have hup:Below w3.heap.size w3 (w3.alloc (.cells #[.int .u8 (m.kind:Int)] 5)):=(Below.refl _ _).alloc (Nat.le_refl _) _
  have HKA:=hid (HK3.out.new hup HS3.out)
  have HMA:=hid (show aK (w3.alloc (.cells #[.int .u8 (m.kind:Int)] 5)) z m vn vq vd from Blk.below HM3.out hup (Blk.lt HM3.out))
  have HLA:=hid (HL3.out.below (hup.mono HS3.out))
  have HOA:=hid (aI HO3.out hup)
  have HSA:=hid (Nat.le_trans HS3.out hup.size)
  have HRA:=hid (show Reads (w3.alloc (.cells #[.int .u8 (m.kind:Int)] 5)) (w3.heap.size+1) 1 (some ⟨w3.heap.size,0,none⟩) ([q]:List UInt8).length (aX [q])from by rw[HQ.out];exact Yd w3 [q])
  have abR:=hid (show(le 4 sz).length+([q]:List UInt8).length≤140737488355327 from by rw[bK];simp only[List.length_cons,List.length_nil];omega)
  clear hup HK3 HM3 HS3 HL3 HO3
  go_wp2_with(at_builtin;refine kY (.tmp 27) (.tmp 30) rfl rfl base _ (le 4 sz) rfl HOA.out (w3.heap.size+1) _ 1 [q] rfl HRA.out abR.out HSA.out ?_;intro v4 w4 hown hgr hor;have HO4:=hid hown;have HK4:=hid (HKA.out.grown HOA.out HSA.out hgr);have HJ:=hid ((oq.refl base _).grown HOA.out HSA.out hgr);clear hown hgr hor k0;have HM4:=hid (show aK w4 z m vn vq vd from HJ.out.2 _ _ _ (by decide) HMA.out);have HL4:=hid (HLA.out.below HJ.out.1);have HS4:=hid (Nat.le_trans HSA.out HJ.out.1.size);clear HJ HMA HLA HSA HKA HOA HRA;have k1:w4.cell? ⟨z,1,none⟩=some (.int .u16 (m.tag:Int)):=Blk.cell HM4.out 1;have htg:=HMO.out.tag;have hwt:IntKind.u64.wrap (m.tag:Int)=(m.tag:Int):=by(rw[IntKind.wrap_u64];omega))
  rw[HQL.out]at HO4
  refine(Ad (k:=2) (n:=m.tag) HS4.out HO4.out (by omega) (by decide) (by rw[List.length_append,bK,bK];decide)).mono ?_
  rintro e w5 ⟨⟨v5,rfl,ho⟩,hk⟩
  have HO5:=hid ho
  have HK5:=hid (HK4.out.trans hk)
  have HM5:=hid (show aK w5 z m vn vq vd from hk.2 _ _ _ (by decide) HM4.out)
  have HS5:=hid (Nat.le_trans HS4.out hk.1.size)
  have HL5:=hid (HL4.out.below hk.1)
  have HPL:=hid (show(le 4 sz++le 1 m.kind++le 2 m.tag).length=7 from by rw[List.length_append,List.length_append,bK,bK,bK])
  clear ho hk HO4 HK4 HM4 HS4 HL4 k1 hwt htg
  obtain⟨P,hP⟩:∃P,P=le 4 sz++le 1 m.kind++le 2 m.tag:=⟨_,rfl⟩
  rw[←hP]at HO5 HPL
  have HPE:=hid hP
  clear hP
  go_upto_region 9 with(fail)
  go_loopw [8,9] (fun b i wr=>∃(j:Nat) (X:List UInt8),i= .int .i64 (j:Int)∧j≤fs.length∧wr.ownsRow base 5 1 b X.length (aX X)∧oq base w5 wr∧Hid (X=P++(fs.take j).flatMap m.bytes)) (fun _ i _=>fs.length-(intOf i).toNat)
  case atStart=>exact⟨0,P,rfl,Nat.zero_le _,HO5.out,oq.refl _ _,hid (by rw[List.take_zero];exact(List.append_nil _).symm)⟩
  case round=>
   obtain⟨j,X,rfl,hj,ho,hk,HX⟩:=hrel
   have HO:=hid ho
   have HK:=hid hk
   have HXL:=hid (show X.length≤65536 from by
    rw[HX.out,List.length_append,abl,HPL.out]
    exact Nat.le_trans (Nat.add_le_add_left (abp m.long fs j) 7) HSM.out)
   clear ho hk
   by_cases hlt:j<fs.length
   ·obtain⟨f,hfj⟩:∃f,fs[j]? =some f:=⟨fs[j],List.getElem?_eq_getElem _⟩
    have hjL:j<L.size:=by omega
    have hidx:L[j]'hjL=f.rX:=by
     have h:=byte_at L j hjL
     rw[HLL.out,List.getElem?_map,hfj]at h
     injection h with h
     exact h.symm
    have HFJ:=hid (abt (m:=m) hfj)
    have aaf:=hid (List.mem_of_getElem? hfj)
    clear hfj
    go_upto_region 11 with(fail)
    try simp only[Act.put]
    have HCC:=hid hidx
    have HDO:=hid (aI HO.out (aC wr))
    have HDK:=hid (HK.out.new (aC wr) (Nat.le_trans HS5.out HK.out.1.size))
    have HDM:=hid (show aK wr.drew z m vn vq vd from HK.out.2 _ _ _ (by decide) HM5.out)
    have HDL:=hid (HL5.out.below HDK.out.1)
    have HDS:=hid (Nat.le_trans HS5.out HDK.out.1.size)
    clear hidx HO HK
    refine wp_region_held_drew (S:=fun _=>True) (by kernel_rfl) trivial (fun hHeld=> ?_)
    generalize wr.drew=wd at HDO HDK HDM HDL HDS⊢
    refine tk 43 0 u8 ?_
    refine tk 45 2 (.string L) ?_
    refine tk 46 3 (.int .i64 (j:Int)) ?_
    refine tk2 47 4 (.int .u8 (f.rX.toNat:Int)) rfl (fun wq hSw=>by have hc:=HCC.out;go_simp) ?_
    refine wpAnyH_ready (rs:=[1]) (by kernel_rfl) (by simp) ?_
    refine AllReadyH.cons rfl (fun K hK=> ?_) AllReadyH.nil
    rw[if_pos (by rfl)]
    refine wp_load_mid _ _ rfl _ _ rfl (aF m vn vq vd) _ (Blk.range HDM.out 0 _ rfl) Tryz.underlying41 rfl aB ?_
    refine hK.out _ _ hHeld (fun hHeld=> ?_)
    clear hK
    try simp only[ah]
    refine wpAnyH_ready (rs:=[5]) (by kernel_rfl) (by simp) ?_
    refine AllReadyH.cons rfl (fun K hK=> ?_) AllReadyH.nil
    rw[if_pos (by rfl)]
    go_simp
    refine(aa0 f m HMO.out vn vq vd HDS.out HDO.out (by have:=HXL.out;omega) HDL.out (HGD.out f aaf.out) (by have h1:=En (f:=m.long) aaf.out;have h2:=HSM.out;omega)).mono ?_
    rintro e wf ⟨⟨vf,rfl,ho⟩,hk⟩
    dsimp only
    have HFO:=hid ho
    have HFK:=hid (HDK.out.trans hk)
    have HFX:=hid (show X++m.bytes f=P++(fs.take (j+1)).flatMap m.bytes from by rw[HFJ.out,HX.out,List.append_assoc])
    clear ho hk
    refine hK.out _ _ hHeld (fun hHeld=> ?_)
    clear hK
    try simp only[ah]
    refine tk 8 6 vf ?_
    refine wpAnyH_done (by kernel_rfl) ?_ _
    go_wp2_with fail
    go_roundw
    case rel=>exact⟨j+1,_,by go_num,hlt,HFO.out,HFK.out,HFX⟩
    case measure=>first|(simp[intOf];done)|(simp[intOf];omega)
   ·have HXE:=hid (show X=(enc m).1 from by
     rw[HX.out,List.take_of_length_le (by omega),HEN.out,←HSZ.out,HPE.out]
     rfl)
    have HE2:=hid (show(enc m).2=0 from by rw[HEN.out])
    have HKF:=hid (HK5.out.trans HK.out)
    rw[HXE.out]at HO
    go_wp2_with fail
    refine bodyPost_ret (v:= .tuple #[u8,.int .i64 0]) (by simp[results,Tryz.results24]) rfl ⟨⟨_,by rw[HE2.out];rfl,HO.out⟩,HKF.out.1⟩
 ·have hb0:((er:Int) != 0)=true:=by rw[bne_iff_ne];omega
  have HE:=hid (HBAD.out her)
  clear her aa5
  go_wp2_with fail
  exact bodyPost_ret (v:= .tuple #[.slice none 0 0,.int .i64 (er:Int)]) (by simp[results,Tryz.results24]) rfl ⟨⟨_,by rw[HE.out],by rw[HE.out];exact dS _ _ _ _⟩,HK2.out.1⟩
theorem Gf{k:Nat}{fs:List Fld}(h:bQ k=some fs):fs.Nodup:=by
 unfold bQ at h
 split at h<;>first|(injection h with h;subst h;simp)|cases h
def zT(fs:List Fld)(m:Mg):Prop:=(.names∈fs→m.names=[])∧(.aV∈fs→m.aV=[])∧(.data∈fs→m.data=[])
theorem zT.next{f:Fld}{fs:List Fld}{m m':Mg}(h:zT (f::fs) m)(hn:(f::fs).Nodup)(ho:Ur m m' f):zT fs m':=by
 obtain⟨hf, -⟩:=List.nodup_cons.1 hn
 refine⟨fun hi=> ?_,fun hi=> ?_,fun hi=> ?_⟩
 ·rw[ho.1 (fun e=>hf (e▸hi))]
  exact h.1 (List.mem_cons_of_mem _ hi)
 ·rw[ho.2.1 (fun e=>hf (e▸hi))]
  exact h.2.1 (List.mem_cons_of_mem _ hi)
 ·rw[ho.2.2 (fun e=>hf (e▸hi))]
  exact h.2.2 (List.mem_cons_of_mem _ hi)
theorem kQ(m m':Mg)(an aq ad vn vq vd:Value):over (aF m an aq ad).toArray 0 (aF m' vn vq vd)=(aF m' vn vq vd).toArray:=by kernel_rfl
theorem WA{w:World}{q:Nat}{t:TypeId}{cs:Array Value}{op:Oper}{a:Act}{K:Act→World→Prop}{Q:Exit→Act→World→Prop}(hk:Blk w q t cs)(o:Nat)(l:List Value)(cs':Array Value)(hcs:over cs o l=cs')(hb:o+l.length≤cs.size)(h1:l.toArray.all (·.oneCell')=true)(ty:TypeId)(x y:Operand)(ho:op.op= .store ty x y)(hx:a.eval x= .pointer (some ⟨q,o,none⟩))(hy:a.eval y= .agg l.toArray)
  (hi:(Tryz.prog.info? ty).map (·.size)=some l.length)
  (h:∀w':World,Blk w' q t cs'→(∀S:Nat→Prop,S q→∀v,Off S v w→Off S v w')→K (a.put op.dst undef) w'):op.wp Tryz.prog a w K Q:=
 wp_store_mid ty x y ho q o l.toArray hx hy (fun j hj=>by
  have hj':j<l.length:=by simpa using hj
  refine⟨?_,Blk.frozen hk _⟩
  rw[Blk.cell hk,Array.getElem?_eq_getElem (by omega)]
  rfl) (by simpa using hi) h1 (h _ (by rw[←hcs];exact Blk.sN _ _ hk) (fun S hS v hv=>og hv hS _ o))
structure DS(w0 w:World)(r p:Nat)(hv:Value)(x:List UInt8)(st:Option (List UInt8)):Prop where
 s:BdS w p hv x st
 x:Bys w w0.heap.size hv x
 res:aK w r (head 0 0) (.slice none 0 0) (.slice none 0 0) (.slice none 0 0)
 br:w0.heap.size≤r
 bp:w0.heap.size≤p
 b:Below w0.heap.size w0 w
section
variable {w w' w0:World} {p r:Nat} {hv:Value} {x:List UInt8} {st st':Option (List UInt8)}
theorem DS.step(h:DS w0 w r p hv x st)(hs:BdS w' p hv x st')(ho:Off (fun i=>i=p) w w'):DS w0 w' r p hv x st':=
 ⟨hs,Off.bys h.x ho h.b.size (fun i hi=>by have hi:i=p:=hi;have:=h.bp;omega),ho.blk h.res (fun e=>h.s.noT (by decide) r _ _ e h.res),h.br,h.bp,h.b.trans (ho.below (fun i hi=>by have hi:i=p:=hi;have:=h.bp;omega) h.b.size)⟩
theorem DS.new(h:DS w0 w r p hv x st)(hb:Below w.heap.size w w'):DS w0 w' r p hv x st:=
 ⟨h.s.below hb,h.x.below (hb.mono h.b.size),Blk.below h.res hb (Blk.lt h.res),h.br,h.bp,h.b.trans (hb.mono h.b.size)⟩
theorem DS.keep(h:DS w0 w r p hv x st)(hs:BdS w' p hv x st')(hk:Nh w0.heap.size w w'):DS w0 w' r p hv x st':=
 ⟨hs,h.x.below hk.1,hk.2 _ _ h.res,h.br,h.bp,h.b.trans hk.1⟩
theorem DS.msg{g:Nat}{cs:Array Value}(h:DS w0 w r p hv x st)(hg:Blk w g 41 cs)(hl:w0.heap.size≤g)(hr:r≠g)(ho:Off (fun i=>i=g) w w'):DS w0 w' r p hv x st:=
 ⟨h.s.off ho (fun e=>h.s.noT (by decide) g _ _ e.symm hg),Off.bys h.x ho h.b.size (fun i hi=>by have hi:i=g:=hi;omega),ho.blk h.res hr,h.br,h.bp,h.b.trans (ho.below (fun i hi=>by have hi:i=g:=hi;omega) h.b.size)⟩
end
end Go.Proofs.YtkblmloobkiloaaGreatDoor
