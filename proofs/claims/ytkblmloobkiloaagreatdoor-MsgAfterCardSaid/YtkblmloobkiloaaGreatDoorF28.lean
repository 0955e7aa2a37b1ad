/-
  MSB MUG: what the laws of package msg need of them.
-/
import Derived.Test.YtkblmloobkiloaaGreatDoorF00
import Derived.Test.YtkblmloobkiloaaGreatDoorF27
import Derived.Test.YtkblmloobkiloaaGreatDoorF11
import Derived.Test.YtkblmloobkiloaaGreatDoorF18
set_option maxRecDepth 100000
set_option maxHeartbeats 6400000
namespace Go.Proofs.YtkblmloobkiloaaGreatDoor
open Go.Lib (hid)
open Go.RowKit
theorem xY{l:List UInt8}(h:getMany aN 4 l=none):iI l=none:=by
 unfold iI
 cases h1:aN l with
 |none=>rfl
 |some p1=>
  rw[fM aN 3 h1]at h
  dsimp only
  cases h2:aN p1.2 with
  |none=>rfl
  |some p2=>
   rw[fM aN 2 h2]at h
   dsimp only
   cases h3:aN p2.2 with
   |none=>rfl
   |some p3=>
    rw[fM aN 1 h3]at h
    dsimp only
    cases h4:aN p3.2 with
    |none=>rfl
    |some p4=>
     rw[fM aN 0 h4]at h
     cases h
theorem xZ{l r:List UInt8}{xs:List ByteArray}(h:getMany aN 4 l=some (xs,r)):∃a b c d,xs=[a,b,c,d]∧iI l=some ((a,b,c,d),r):=by
 unfold iI
 cases h1:aN l with
 |none=>rw[gX aN 3 h1]at h;cases h
 |some p1=>
  rw[fM aN 3 h1]at h
  dsimp only
  cases h2:aN p1.2 with
  |none=>rw[gX aN 2 h2]at h;cases h
  |some p2=>
   rw[fM aN 2 h2]at h
   dsimp only
   cases h3:aN p2.2 with
   |none=>rw[gX aN 1 h3]at h;cases h
   |some p3=>
    rw[fM aN 1 h3]at h
    dsimp only
    cases h4:aN p3.2 with
    |none=>rw[gX aN 0 h4]at h;cases h
    |some p4=>
     rw[fM aN 0 h4]at h
     injection h with h
     injection h with h1' h2'
     exact⟨p1.1,p2.1,p3.1,p4.1,h1'.symm,by rw[←h2']⟩
theorem kP{fn:Func}{tmps:Array Value}{w:World}{q i j:Nat}{ty:TypeId}{l:List Value}{d:TypeDesc}{v:Value}(hr:fn.results= #[.cell i ty,.tmp j])(hu:Tryz.prog.underlying ty=some d)(hd:d.isRow=true)(hs:(Tryz.prog.info? ty).map (·.size)=some l.length)(h2:tmps.getD i undef= .pointer (some ⟨q,0,none⟩))(h3:tmps.getD j undef=v)(hk:Blk w q ty l.toArray):
  (results fn tmps).run Tryz.prog w= .ok (.tuple #[.agg l.toArray,v]) w:=by
 have h2':tmps[i]?.getD undef= .pointer (some ⟨q,0,none⟩):=by simpa using h2
 have h3':tmps[j]?.getD undef=v:=by simpa using h3
 have hl7:(loadVar ty ⟨q,0,none⟩).run Tryz.prog w= .ok (.agg l.toArray) w:=
  run_loadVar_mid w q 0 ty l _ (Blk.range hk 0 l (by simp)) hu hd hs
 simp[results,hr,h2',h3',asAddr,hl7]
abbrev zS:Sta:=⟨0,0,⟨0,0,0⟩,0,0,0,0,⟨#[]⟩,⟨#[]⟩,⟨#[]⟩,⟨#[]⟩⟩
theorem iW.keep{w w':World}{B:Nat}{v:Value}{l:List ByteArray}(h:iW w B v l)(hk:∀p:Addr,p.block<B→w'.cell? p=w.cell? p):iW w' B v l:=by
 obtain⟨A,c,e,h1,h2,h3⟩:=h
 exact⟨A,c,e,h1,h2,h3.keep hk⟩
def RDR(x:List UInt8)(w:World)(e:Ending)(w':World):Prop:=
 Below w.heap.size w w'∧∃s n,e= .returned (.tuple #[stV s,.int .i64 n])∧match fV x with
  |some t=>s=t∧n=0
  |none=>s=zS∧n=20
theorem yR{w:World}{hv:Value}{x:List UInt8}(hx:Bys w w.heap.size hv x)(hz:x.length≤16777216):
  Calls Tryz.prog 98 #[hv] w (RDR x w):=by
 obtain⟨w1,hw1⟩:∃w1,w1=w.alloc (.cells #[.int .u16 0,.int .u32 0,.int .u8 0,.int .u32 0,.int .u64 0,.int .u32 0,.int .u32 0,.int .u32 0,.int .u64 0,.string ⟨#[]⟩,.string ⟨#[]⟩,.string ⟨#[]⟩,.string ⟨#[]⟩] 39):=⟨_,rfl⟩
 have Um:Below w.heap.size w w1:=by rw[hw1];exact(Below.refl _ _).alloc (Nat.le_refl _) _
 have hsz1:w1.heap.size=w.heap.size+1:=by rw[hw1];exact World.size_alloc _ _
 obtain⟨w2,hw2⟩:∃w2,w2=w1.alloc (.cells #[.int .u16 0,.int .u32 0,.int .u8 0,.int .u32 0,.int .u64 0,.int .u32 0,.int .u32 0,.int .u32 0,.int .u64 0,.string ⟨#[]⟩,.string ⟨#[]⟩,.string ⟨#[]⟩,.string ⟨#[]⟩] 39):=⟨_,rfl⟩
 have Un:Below w1.heap.size w1 w2:=by rw[hw2];exact(Below.refl _ _).alloc (Nat.le_refl _) _
 have HR2:=hid (show Blk w2 w.heap.size 39 #[.int .u16 0,.int .u32 0,.int .u8 0,.int .u32 0,.int .u64 0,.int .u32 0,.int .u32 0,.int .u32 0,.int .u64 0,.string ⟨#[]⟩,.string ⟨#[]⟩,.string ⟨#[]⟩,.string ⟨#[]⟩]from by rw[hw2,hw1];exact(Blk.new w _ _).alloc _)
 have HZ2:=hid (show Blk w2 (w.heap.size+1) 39 #[.int .u16 0,.int .u32 0,.int .u8 0,.int .u32 0,.int .u64 0,.int .u32 0,.int .u32 0,.int .u32 0,.int .u64 0,.string ⟨#[]⟩,.string ⟨#[]⟩,.string ⟨#[]⟩,.string ⟨#[]⟩]from by rw[←hsz1,hw2];exact Blk.new w1 _ _)
 have HB2:=hid (Um.trans (Un.mono (by omega)))
 have HX2:=hid (hx.below HB2.out)
 have HO2:=hid (Off.of_below (S:=fun i=>w.heap.size≤i) HB2.out)
 clear HB2
 have hcc:=hx
 obtain⟨A,c,rfl, -⟩:=hcc
 clear hx Um Un hsz1
 go_enter Tryz.func98,Tryz.ntmps98
 go_upto_region 2 with(fail)
 change Code.wp _ _ _ _ ((w.alloc (.cells #[.int .u16 0,.int .u32 0,.int .u8 0,.int .u32 0,.int .u64 0,.int .u32 0,.int .u32 0,.int .u32 0,.int .u64 0,.string ⟨#[]⟩,.string ⟨#[]⟩,.string ⟨#[]⟩,.string ⟨#[]⟩] 39)).alloc (.cells #[.int .u16 0,.int .u32 0,.int .u8 0,.int .u32 0,.int .u64 0,.int .u32 0,.int .u32 0,.int .u32 0,.int .u64 0,.string ⟨#[]⟩,.string ⟨#[]⟩,.string ⟨#[]⟩,.string ⟨#[]⟩] 39))
 rw[←hw1,←hw2]
 clear hw1 hw2
 generalize hzz:w.heap.size=z at HR2 HZ2 HO2 HX2⊢
 have HZZ:=hid hzz
 clear hzz
 refine(show∀P:Prop,(x.length<49→P)→(¬x.length<49→P)→P from fun P h1 h2=>(Classical.em _).elim h1 h2) _ (fun h49=> ?_) (fun h49=> ?_)
 ·have HN:=hid (show fV x=none from if_pos h49)
  go_wp2_with(first|(refine wlw HZ2.out 0 (stL zS) rfl rfl _ _ rfl rfl _ Tryz.underlying39 rfl bP ?_)|(refine dA HR2.out 0 (stL zS) (stL zS).toArray (kK ..) (Nat.le_refl 13) (lJ ..) rfl _ _ _ rfl rfl rfl bP ?_;intro wz hs ho;have HBz:=hid hs;have HOz:=hid ((ho (fun i=>z≤i) (Nat.le_refl _) w HO2.out).below (B:=z) (fun i hi=>hi));clear hs ho))
  refine bodyPost_ret (kP (l:=stL zS) rfl Tryz.underlying39 rfl bP rfl rfl HBz.out) rfl ⟨?_,zS,20,rfl, ?_⟩
  ·rw[HZZ.out]
   exact HOz.out (by have:=HZZ.out;omega)
  ·rw[HN.out]
   exact⟨rfl,rfl⟩
 ·have HG:=hid (iC 0 2 (by decide) HX2.out (by omega) hz)
  rw[List.drop_zero]at HG
  have HNL:=hid (show aH (x.take 2)<65536 from Nat.lt_of_lt_of_le (dD _) (show 256^_≤256^2 from Nat.pow_le_pow_right (by decide) (by rw[List.length_take];omega)))
  go_wp2_with fail
  refine HG.out.mono ?_
  rintro e w3 ⟨rfl,rfl⟩
  generalize hN:aH (x.take 2)=N at*
  have HNE:=hid hN
  clear hN HG
  have hn8:=HNL.out
  have hw:wrap64 (N:Int)=(N:Int):=IntWalk.wrap64_in _ (by omega)
  refine(show∀P:Prop,(N+2≠x.length→P)→(N+2=x.length→P)→P from fun P h1 h2=>(Classical.em _).elim h2 h1) _ (fun hnl=> ?_) (fun hnl=> ?_)
  ·have HN:=hid (show fV x=none from by unfold fV;rw[if_neg h49,HNE.out,if_pos hnl])
   go_wp2_with(first|(refine wlw HZ2.out 0 (stL zS) rfl rfl _ _ rfl rfl _ Tryz.underlying39 rfl bP ?_)|(refine dA HR2.out 0 (stL zS) (stL zS).toArray (kK ..) (Nat.le_refl 13) (lJ ..) rfl _ _ _ rfl rfl rfl bP ?_;intro wz hs ho;have HBz:=hid hs;have HOz:=hid ((ho (fun i=>z≤i) (Nat.le_refl _) w HO2.out).below (B:=z) (fun i hi=>hi));clear hs ho))
   refine bodyPost_ret (kP (l:=stL zS) rfl Tryz.underlying39 rfl bP rfl rfl HBz.out) rfl ⟨?_,zS,20,rfl, ?_⟩
   ·rw[HZZ.out]
    exact HOz.out (by have:=HZZ.out;omega)
   ·rw[HN.out]
    exact⟨rfl,rfl⟩
  ·have HLE:=hid hnl
   have QZ:=hid (show z≤w2.heap.size from by have:=HO2.out.size;have:=HZZ.out;omega)
   have HLZ:=hid (Blk.lt HZ2.out)
   go_upto_region 6 with(fail)
   go_wp2_with fail
   refine(BI 41 (HX2.out.more QZ.out) (by omega) hz).mono ?_
   rintro e w4 ⟨hb,v,n,rfl,hm⟩
   have HR4:=hid (Blk.below HR2.out hb (Blk.lt HR2.out))
   have HZ4:=hid (Blk.below HZ2.out hb (Blk.lt HZ2.out))
   have HO4:=hid (HO2.out.trans ((Off.of_below (S:=fun i=>w2.heap.size≤i) hb).mono fun k _ hk=>Nat.le_trans QZ.out hk))
   have HX4:=hid (HX2.out.below (hb.mono QZ.out))
   have jG:=hid (show z+1<w4.heap.size from Nat.lt_of_lt_of_le HLZ.out hb.size)
   clear hb HR2 HZ2 HO2 HX2 HLZ
   have HTN:=hid (@xY (x.drop 41))
   have HTS:=hid (show∀xs r,getMany aN 4 (x.drop 41)=some (xs,r)→_ from fun xs r h=>xZ h)
   generalize getMany aN 4 (x.drop 41)=M at*
   cases M with
   |none=>
    obtain⟨rfl,rfl⟩:=hm
    have HN:=hid (show fV x=none from by unfold fV;rw[if_neg h49,HNE.out,if_neg (by omega),HTN.out rfl])
    go_wp2_with(first|(refine wlw HZ4.out 0 (stL zS) rfl rfl _ _ rfl rfl _ Tryz.underlying39 rfl bP ?_)|(refine dA HR4.out 0 (stL zS) (stL zS).toArray (kK ..) (Nat.le_refl 13) (lJ ..) rfl _ _ _ rfl rfl rfl bP ?_;intro wz hs ho;have HBz:=hid hs;have HOz:=hid ((ho (fun i=>z≤i) (Nat.le_refl _) w HO4.out).below (B:=z) (fun i hi=>hi));clear hs ho))
    refine bodyPost_ret (kP (l:=stL zS) rfl Tryz.underlying39 rfl bP rfl rfl HBz.out) rfl ⟨?_,zS,20,rfl, ?_⟩
    ·rw[HZZ.out]
     exact HOz.out (by have:=HZZ.out;omega)
    ·rw[HN.out]
     exact⟨rfl,rfl⟩
    |some M=>
     obtain⟨l,r⟩:=M
     obtain⟨hown, -,b,hb,rfl,rfl⟩:=hm
     obtain⟨a1,a2,a3,a4,rfl,hgt⟩:=HTS.out _ _ rfl
     have HGT:=hid hgt
     have HOWN:=hid hown
     clear hgt hown HTS HTN
     refine(show∀P:Prop,(b≠x.length→P)→(b=x.length→P)→P from fun P h1 h2=>(Classical.em _).elim h2 h1) _ (fun hbx=> ?_) (fun hbx=> ?_)
     ·obtain⟨y,ys,hy⟩:∃y ys,x.drop b=y::ys:=by
       cases hd:x.drop b with
       |nil=>have:=congrArg List.length hd;rw[List.length_drop]at this;simp at this;omega
       |cons y ys=>exact⟨y,ys,rfl⟩
      have HN:=hid (show fV x=none from by unfold fV;rw[if_neg h49,HNE.out,if_neg (by omega),HGT.out,hy])
      go_wp2_with(first|(refine wlw HZ4.out 0 (stL zS) rfl rfl _ _ rfl rfl _ Tryz.underlying39 rfl bP ?_)|(refine dA HR4.out 0 (stL zS) (stL zS).toArray (kK ..) (Nat.le_refl 13) (lJ ..) rfl _ _ _ rfl rfl rfl bP ?_;intro wz hs ho;have HBz:=hid hs;have HOz:=hid ((ho (fun i=>z≤i) (Nat.le_refl _) w HO4.out).below (B:=z) (fun i hi=>hi));clear hs ho))
      refine bodyPost_ret (kP (l:=stL zS) rfl Tryz.underlying39 rfl bP rfl rfl HBz.out) rfl ⟨?_,zS,20,rfl, ?_⟩
      ·rw[HZZ.out]
       exact HOz.out (by have:=HZZ.out;omega)
      ·rw[HN.out]
       exact⟨rfl,rfl⟩
     ·subst hbx
      have HF5:=hid (Blk.new w4 39 #[.int .u16 0,.int .u32 0,.int .u8 0,.int .u32 0,.int .u64 0,.int .u32 0,.int .u32 0,.int .u32 0,.int .u64 0,.string ⟨#[]⟩,.string ⟨#[]⟩,.string ⟨#[]⟩,.string ⟨#[]⟩])
      have HUP:=(Below.refl w4.heap.size w4).alloc (Nat.le_refl _) (.cells #[.int .u16 0,.int .u32 0,.int .u8 0,.int .u32 0,.int .u64 0,.int .u32 0,.int .u32 0,.int .u32 0,.int .u64 0,.string ⟨#[]⟩,.string ⟨#[]⟩,.string ⟨#[]⟩,.string ⟨#[]⟩] 39)
      have HR5:=hid (Blk.below HR4.out HUP (Blk.lt HR4.out))
      have HO5:=hid (HO4.out.trans ((Off.of_below (S:=fun i=>w4.heap.size≤i) HUP).mono fun k _ hk=>by have hk:w4.heap.size≤k:=hk;have:=jG.out;show z≤k;omega))
      have HX5:=hid (HX4.out.below (HUP.mono (by have:=jG.out;omega)))
      have HS5:=hid ((iW.iH HOWN.out).below HUP)
      obtain⟨A0,cap,rfl, -⟩:=aJ HOWN.out
      clear HUP HR4 HO4 HX4 HOWN HZ4
      go_upto_region 10 with(fail)
      generalize w4.alloc (.cells #[.int .u16 0,.int .u32 0,.int .u8 0,.int .u32 0,.int .u64 0,.int .u32 0,.int .u32 0,.int .u32 0,.int .u64 0,.string ⟨#[]⟩,.string ⟨#[]⟩,.string ⟨#[]⟩,.string ⟨#[]⟩] 39)=w5 at HF5 HR5 HO5 HX5 HS5⊢
      generalize w4.heap.size=f at HF5 HS5 jG⊢
      have HZF:=hid (show z≠f from by have:=jG.out;omega)
      have HG:=hid (iC 2 2 (by decide) HX5.out (by have:=HLE.out;omega) hz)
      have hlt0:aH ((x.drop 2).take 2)<65536:=Nat.lt_of_lt_of_le (dD _) (show 256^_≤256^2 from Nat.pow_le_pow_right (by decide) (by rw[List.length_take];omega))
      generalize hn:aH ((x.drop 2).take 2)=n0 at HG hlt0
      have HN0:=hid hn
      clear hn
      have hw:IntKind.u16.wrap (n0:Int)=(n0:Int):=by rw[IntKind.wrap_u16];omega
      go_wp2_with fail
      refine HG.out.mono ?_
      rintro e wg ⟨rfl,rfl⟩
      clear HG
      have ks:w5.cell? ⟨f,0,none⟩=some (.int .u16 0):=HF5.out.cell 0
      have fs:w5.frozen? ⟨f,0,none⟩=false:=HF5.out.frozen 0
      have hso:=(Off.refl (fun i=>i=f) w5).setCell (p:=⟨f,0,none⟩) rfl (.int .u16 (n0:Int))
      have HF6:=hid (show Blk (w5.setCell ⟨f,0,none⟩ (.int .u16 (n0:Int))) f 39 #[.int .u16 (n0:Int),.int .u32 0,.int .u8 0,.int .u32 0,.int .u64 0,.int .u32 0,.int .u32 0,.int .u32 0,.int .u64 0,.string ⟨#[]⟩,.string ⟨#[]⟩,.string ⟨#[]⟩,.string ⟨#[]⟩]from HF5.out.aW 0 (.int .u16 (n0:Int)))
      have HR6:=hid (hso.blk HR5.out (fun h=>HZF.out h))
      have HO6:=hid (HO5.out.trans (hso.mono fun k _ hk=>by have hk:k=f:=hk;have:=jG.out;show z≤k;omega))
      have HX6:=hid (HX5.out.keep (w':=w5.setCell ⟨f,0,none⟩ (.int .u16 (n0:Int))) fun q hq=>World.cell?_of_block (Below.heap_setCell _ _ _ _ (by show q.block≠f;have:=jG.out;omega)))
      have HS6:=hid (HS5.out.keep (w':=w5.setCell ⟨f,0,none⟩ (.int .u16 (n0:Int))) fun q hq=>World.cell?_of_block (Below.heap_setCell _ _ _ _ (by show q.block≠f;omega)))
      clear hso HF5 HR5 HO5 HX5 HS5
      go_upto_region 11 with(fail)
      clear ks fs
      generalize w5.setCell ⟨f,0,none⟩ (.int .u16 (n0:Int))=w6 at HF6 HR6 HO6 HX6 HS6⊢
      clear hw
      have HG:=hid (iC 4 4 (by decide) HX6.out (by have:=HLE.out;omega) hz)
      have hlt1:aH ((x.drop 4).take 4)<4294967296:=Nat.lt_of_lt_of_le (dD _) (show 256^_≤256^4 from Nat.pow_le_pow_right (by decide) (by rw[List.length_take];omega))
      generalize hn:aH ((x.drop 4).take 4)=n1 at HG hlt1
      have HN1:=hid hn
      clear hn
      have hw:IntKind.u32.wrap (n1:Int)=(n1:Int):=by rw[IntKind.wrap_u32];omega
      go_wp2_with fail
      refine HG.out.mono ?_
      rintro e wg ⟨rfl,rfl⟩
      clear HG
      have ks:w6.cell? ⟨f,1,none⟩=some (.int .u32 0):=HF6.out.cell 1
      have fs:w6.frozen? ⟨f,1,none⟩=false:=HF6.out.frozen 1
      have hso:=(Off.refl (fun i=>i=f) w6).setCell (p:=⟨f,1,none⟩) rfl (.int .u32 (n1:Int))
      have HF7:=hid (show Blk (w6.setCell ⟨f,1,none⟩ (.int .u32 (n1:Int))) f 39 #[.int .u16 (n0:Int),.int .u32 (n1:Int),.int .u8 0,.int .u32 0,.int .u64 0,.int .u32 0,.int .u32 0,.int .u32 0,.int .u64 0,.string ⟨#[]⟩,.string ⟨#[]⟩,.string ⟨#[]⟩,.string ⟨#[]⟩]from HF6.out.aW 1 (.int .u32 (n1:Int)))
      have HR7:=hid (hso.blk HR6.out (fun h=>HZF.out h))
      have HO7:=hid (HO6.out.trans (hso.mono fun k _ hk=>by have hk:k=f:=hk;have:=jG.out;show z≤k;omega))
      have HX7:=hid (HX6.out.keep (w':=w6.setCell ⟨f,1,none⟩ (.int .u32 (n1:Int))) fun q hq=>World.cell?_of_block (Below.heap_setCell _ _ _ _ (by show q.block≠f;have:=jG.out;omega)))
      have HS7:=hid (HS6.out.keep (w':=w6.setCell ⟨f,1,none⟩ (.int .u32 (n1:Int))) fun q hq=>World.cell?_of_block (Below.heap_setCell _ _ _ _ (by show q.block≠f;omega)))
      clear hso HF6 HR6 HO6 HX6 HS6
      go_upto_region 12 with(fail)
      clear ks fs
      generalize w6.setCell ⟨f,1,none⟩ (.int .u32 (n1:Int))=w7 at HF7 HR7 HO7 HX7 HS7⊢
      clear hw
      have HG:=hid (iC 8 1 (by decide) HX7.out (by have:=HLE.out;omega) hz)
      have hlt2:aH ((x.drop 8).take 1)<256:=Nat.lt_of_lt_of_le (dD _) (show 256^_≤256^1 from Nat.pow_le_pow_right (by decide) (by rw[List.length_take];omega))
      generalize hn:aH ((x.drop 8).take 1)=n2 at HG hlt2
      have HN2:=hid hn
      clear hn
      have hw:IntKind.u8.wrap (n2:Int)=(n2:Int):=by rw[IntKind.wrap_u8];omega
      go_wp2_with fail
      refine HG.out.mono ?_
      rintro e wg ⟨rfl,rfl⟩
      clear HG
      have ks:w7.cell? ⟨f,2,none⟩=some (.int .u8 0):=HF7.out.cell 2
      have fs:w7.frozen? ⟨f,2,none⟩=false:=HF7.out.frozen 2
      have hso:=(Off.refl (fun i=>i=f) w7).setCell (p:=⟨f,2,none⟩) rfl (.int .u8 (n2:Int))
      have HF8:=hid (show Blk (w7.setCell ⟨f,2,none⟩ (.int .u8 (n2:Int))) f 39 #[.int .u16 (n0:Int),.int .u32 (n1:Int),.int .u8 (n2:Int),.int .u32 0,.int .u64 0,.int .u32 0,.int .u32 0,.int .u32 0,.int .u64 0,.string ⟨#[]⟩,.string ⟨#[]⟩,.string ⟨#[]⟩,.string ⟨#[]⟩]from HF7.out.aW 2 (.int .u8 (n2:Int)))
      have HR8:=hid (hso.blk HR7.out (fun h=>HZF.out h))
      have HO8:=hid (HO7.out.trans (hso.mono fun k _ hk=>by have hk:k=f:=hk;have:=jG.out;show z≤k;omega))
      have HX8:=hid (HX7.out.keep (w':=w7.setCell ⟨f,2,none⟩ (.int .u8 (n2:Int))) fun q hq=>World.cell?_of_block (Below.heap_setCell _ _ _ _ (by show q.block≠f;have:=jG.out;omega)))
      have HS8:=hid (HS7.out.keep (w':=w7.setCell ⟨f,2,none⟩ (.int .u8 (n2:Int))) fun q hq=>World.cell?_of_block (Below.heap_setCell _ _ _ _ (by show q.block≠f;omega)))
      clear hso HF7 HR7 HO7 HX7 HS7
      go_upto_region 13 with(fail)
      clear ks fs
      generalize w7.setCell ⟨f,2,none⟩ (.int .u8 (n2:Int))=w8 at HF8 HR8 HO8 HX8 HS8⊢
      clear hw
      have HG:=hid (iC 9 4 (by decide) HX8.out (by have:=HLE.out;omega) hz)
      have hlt3:aH ((x.drop 9).take 4)<4294967296:=Nat.lt_of_lt_of_le (dD _) (show 256^_≤256^4 from Nat.pow_le_pow_right (by decide) (by rw[List.length_take];omega))
      generalize hn:aH ((x.drop 9).take 4)=n3 at HG hlt3
      have HN3:=hid hn
      clear hn
      have hw:IntKind.u32.wrap (n3:Int)=(n3:Int):=by rw[IntKind.wrap_u32];omega
      go_wp2_with fail
      refine HG.out.mono ?_
      rintro e wg ⟨rfl,rfl⟩
      clear HG
      have ks:w8.cell? ⟨f,3,none⟩=some (.int .u32 0):=HF8.out.cell 3
      have fs:w8.frozen? ⟨f,3,none⟩=false:=HF8.out.frozen 3
      have hso:=(Off.refl (fun i=>i=f) w8).setCell (p:=⟨f,3,none⟩) rfl (.int .u32 (n3:Int))
      have HF9:=hid (show Blk (w8.setCell ⟨f,3,none⟩ (.int .u32 (n3:Int))) f 39 #[.int .u16 (n0:Int),.int .u32 (n1:Int),.int .u8 (n2:Int),.int .u32 (n3:Int),.int .u64 0,.int .u32 0,.int .u32 0,.int .u32 0,.int .u64 0,.string ⟨#[]⟩,.string ⟨#[]⟩,.string ⟨#[]⟩,.string ⟨#[]⟩]from HF8.out.aW 3 (.int .u32 (n3:Int)))
      have HR9:=hid (hso.blk HR8.out (fun h=>HZF.out h))
      have HO9:=hid (HO8.out.trans (hso.mono fun k _ hk=>by have hk:k=f:=hk;have:=jG.out;show z≤k;omega))
      have HX9:=hid (HX8.out.keep (w':=w8.setCell ⟨f,3,none⟩ (.int .u32 (n3:Int))) fun q hq=>World.cell?_of_block (Below.heap_setCell _ _ _ _ (by show q.block≠f;have:=jG.out;omega)))
      have HS9:=hid (HS8.out.keep (w':=w8.setCell ⟨f,3,none⟩ (.int .u32 (n3:Int))) fun q hq=>World.cell?_of_block (Below.heap_setCell _ _ _ _ (by show q.block≠f;omega)))
      clear hso HF8 HR8 HO8 HX8 HS8
      go_upto_region 14 with(fail)
      clear ks fs
      generalize w8.setCell ⟨f,3,none⟩ (.int .u32 (n3:Int))=w9 at HF9 HR9 HO9 HX9 HS9⊢
      clear hw
      have HG:=hid (iC 13 8 (by decide) HX9.out (by have:=HLE.out;omega) hz)
      have hlt4:aH ((x.drop 13).take 8)<18446744073709551616:=Nat.lt_of_lt_of_le (dD _) (show 256^_≤256^8 from Nat.pow_le_pow_right (by decide) (by rw[List.length_take];omega))
      generalize hn:aH ((x.drop 13).take 8)=n4 at HG hlt4
      have HN4:=hid hn
      clear hn
      go_wp2_with fail
      refine HG.out.mono ?_
      rintro e wg ⟨rfl,rfl⟩
      clear HG
      have ks:w9.cell? ⟨f,4,none⟩=some (.int .u64 0):=HF9.out.cell 4
      have fs:w9.frozen? ⟨f,4,none⟩=false:=HF9.out.frozen 4
      have hso:=(Off.refl (fun i=>i=f) w9).setCell (p:=⟨f,4,none⟩) rfl (.int .u64 (n4:Int))
      have wS:=hid (show Blk (w9.setCell ⟨f,4,none⟩ (.int .u64 (n4:Int))) f 39 #[.int .u16 (n0:Int),.int .u32 (n1:Int),.int .u8 (n2:Int),.int .u32 (n3:Int),.int .u64 (n4:Int),.int .u32 0,.int .u32 0,.int .u32 0,.int .u64 0,.string ⟨#[]⟩,.string ⟨#[]⟩,.string ⟨#[]⟩,.string ⟨#[]⟩]from HF9.out.aW 4 (.int .u64 (n4:Int)))
      have Q5:=hid (hso.blk HR9.out (fun h=>HZF.out h))
      have C_:=hid (HO9.out.trans (hso.mono fun k _ hk=>by have hk:k=f:=hk;have:=jG.out;show z≤k;omega))
      have IZ:=hid (HX9.out.keep (w':=w9.setCell ⟨f,4,none⟩ (.int .u64 (n4:Int))) fun q hq=>World.cell?_of_block (Below.heap_setCell _ _ _ _ (by show q.block≠f;have:=jG.out;omega)))
      have CX:=hid (HS9.out.keep (w':=w9.setCell ⟨f,4,none⟩ (.int .u64 (n4:Int))) fun q hq=>World.cell?_of_block (Below.heap_setCell _ _ _ _ (by show q.block≠f;omega)))
      clear hso HF9 HR9 HO9 HX9 HS9
      go_upto_region 15 with(fail)
      clear ks fs
      generalize w9.setCell ⟨f,4,none⟩ (.int .u64 (n4:Int))=w10 at wS Q5 C_ IZ CX⊢
      have HG:=hid (iC 21 4 (by decide) IZ.out (by have:=HLE.out;omega) hz)
      have Ws:aH ((x.drop 21).take 4)<4294967296:=Nat.lt_of_lt_of_le (dD _) (show 256^_≤256^4 from Nat.pow_le_pow_right (by decide) (by rw[List.length_take];omega))
      generalize hn:aH ((x.drop 21).take 4)=n5 at HG Ws
      have HN5:=hid hn
      clear hn
      have hw:IntKind.u32.wrap (n5:Int)=(n5:Int):=by rw[IntKind.wrap_u32];omega
      go_wp2_with fail
      refine HG.out.mono ?_
      rintro e wg ⟨rfl,rfl⟩
      clear HG
      have ks:w10.cell? ⟨f,5,none⟩=some (.int .u32 0):=wS.out.cell 5
      have fs:w10.frozen? ⟨f,5,none⟩=false:=wS.out.frozen 5
      have hso:=(Off.refl (fun i=>i=f) w10).setCell (p:=⟨f,5,none⟩) rfl (.int .u32 (n5:Int))
      have A8:=hid (show Blk (w10.setCell ⟨f,5,none⟩ (.int .u32 (n5:Int))) f 39 #[.int .u16 (n0:Int),.int .u32 (n1:Int),.int .u8 (n2:Int),.int .u32 (n3:Int),.int .u64 (n4:Int),.int .u32 (n5:Int),.int .u32 0,.int .u32 0,.int .u64 0,.string ⟨#[]⟩,.string ⟨#[]⟩,.string ⟨#[]⟩,.string ⟨#[]⟩]from wS.out.aW 5 (.int .u32 (n5:Int)))
      have Q7:=hid (hso.blk Q5.out (fun h=>HZF.out h))
      have A_:=hid (C_.out.trans (hso.mono fun k _ hk=>by have hk:k=f:=hk;have:=jG.out;show z≤k;omega))
      have OX:=hid (IZ.out.keep (w':=w10.setCell ⟨f,5,none⟩ (.int .u32 (n5:Int))) fun q hq=>World.cell?_of_block (Below.heap_setCell _ _ _ _ (by show q.block≠f;have:=jG.out;omega)))
      have EW:=hid (CX.out.keep (w':=w10.setCell ⟨f,5,none⟩ (.int .u32 (n5:Int))) fun q hq=>World.cell?_of_block (Below.heap_setCell _ _ _ _ (by show q.block≠f;omega)))
      clear hso wS Q5 C_ IZ CX
      go_upto_region 16 with(fail)
      clear ks fs
      generalize w10.setCell ⟨f,5,none⟩ (.int .u32 (n5:Int))=w11 at A8 Q7 A_ OX EW⊢
      clear hw
      have HG:=hid (iC 25 4 (by decide) OX.out (by have:=HLE.out;omega) hz)
      have Wu:aH ((x.drop 25).take 4)<4294967296:=Nat.lt_of_lt_of_le (dD _) (show 256^_≤256^4 from Nat.pow_le_pow_right (by decide) (by rw[List.length_take];omega))
      generalize hn:aH ((x.drop 25).take 4)=n6 at HG Wu
      have HN6:=hid hn
      clear hn
      have hw:IntKind.u32.wrap (n6:Int)=(n6:Int):=by rw[IntKind.wrap_u32];omega
      go_wp2_with fail
      refine HG.out.mono ?_
      rintro e wg ⟨rfl,rfl⟩
      clear HG
      have ks:w11.cell? ⟨f,6,none⟩=some (.int .u32 0):=A8.out.cell 6
      have fs:w11.frozen? ⟨f,6,none⟩=false:=A8.out.frozen 6
      have hso:=(Off.refl (fun i=>i=f) w11).setCell (p:=⟨f,6,none⟩) rfl (.int .u32 (n6:Int))
      have wW:=hid (show Blk (w11.setCell ⟨f,6,none⟩ (.int .u32 (n6:Int))) f 39 #[.int .u16 (n0:Int),.int .u32 (n1:Int),.int .u8 (n2:Int),.int .u32 (n3:Int),.int .u64 (n4:Int),.int .u32 (n5:Int),.int .u32 (n6:Int),.int .u32 0,.int .u64 0,.string ⟨#[]⟩,.string ⟨#[]⟩,.string ⟨#[]⟩,.string ⟨#[]⟩]from A8.out.aW 6 (.int .u32 (n6:Int)))
      have Q8:=hid (hso.blk Q7.out (fun h=>HZF.out h))
      have wV:=hid (A_.out.trans (hso.mono fun k _ hk=>by have hk:k=f:=hk;have:=jG.out;show z≤k;omega))
      have OY:=hid (OX.out.keep (w':=w11.setCell ⟨f,6,none⟩ (.int .u32 (n6:Int))) fun q hq=>World.cell?_of_block (Below.heap_setCell _ _ _ _ (by show q.block≠f;have:=jG.out;omega)))
      have wU:=hid (EW.out.keep (w':=w11.setCell ⟨f,6,none⟩ (.int .u32 (n6:Int))) fun q hq=>World.cell?_of_block (Below.heap_setCell _ _ _ _ (by show q.block≠f;omega)))
      clear hso A8 Q7 A_ OX EW
      go_upto_region 17 with(fail)
      clear ks fs
      generalize w11.setCell ⟨f,6,none⟩ (.int .u32 (n6:Int))=w12 at wW Q8 wV OY wU⊢
      clear hw
      have HG:=hid (iC 29 4 (by decide) OY.out (by have:=HLE.out;omega) hz)
      have Wv:aH ((x.drop 29).take 4)<4294967296:=Nat.lt_of_lt_of_le (dD _) (show 256^_≤256^4 from Nat.pow_le_pow_right (by decide) (by rw[List.length_take];omega))
      generalize hn:aH ((x.drop 29).take 4)=n7 at HG Wv
      have HN7:=hid hn
      clear hn
      have hw:IntKind.u32.wrap (n7:Int)=(n7:Int):=by rw[IntKind.wrap_u32];omega
      go_wp2_with fail
      refine HG.out.mono ?_
      rintro e wg ⟨rfl,rfl⟩
      clear HG
      have ks:w12.cell? ⟨f,7,none⟩=some (.int .u32 0):=wW.out.cell 7
      have fs:w12.frozen? ⟨f,7,none⟩=false:=wW.out.frozen 7
      have hso:=(Off.refl (fun i=>i=f) w12).setCell (p:=⟨f,7,none⟩) rfl (.int .u32 (n7:Int))
      have Ba:=hid (show Blk (w12.setCell ⟨f,7,none⟩ (.int .u32 (n7:Int))) f 39 #[.int .u16 (n0:Int),.int .u32 (n1:Int),.int .u8 (n2:Int),.int .u32 (n3:Int),.int .u64 (n4:Int),.int .u32 (n5:Int),.int .u32 (n6:Int),.int .u32 (n7:Int),.int .u64 0,.string ⟨#[]⟩,.string ⟨#[]⟩,.string ⟨#[]⟩,.string ⟨#[]⟩]from wW.out.aW 7 (.int .u32 (n7:Int)))
      have Q9:=hid (hso.blk Q8.out (fun h=>HZF.out h))
      have yL:=hid (wV.out.trans (hso.mono fun k _ hk=>by have hk:k=f:=hk;have:=jG.out;show z≤k;omega))
      have OZ:=hid (OY.out.keep (w':=w12.setCell ⟨f,7,none⟩ (.int .u32 (n7:Int))) fun q hq=>World.cell?_of_block (Below.heap_setCell _ _ _ _ (by show q.block≠f;have:=jG.out;omega)))
      have EX:=hid (wU.out.keep (w':=w12.setCell ⟨f,7,none⟩ (.int .u32 (n7:Int))) fun q hq=>World.cell?_of_block (Below.heap_setCell _ _ _ _ (by show q.block≠f;omega)))
      clear hso wW Q8 wV OY wU
      go_upto_region 18 with(fail)
      clear ks fs
      generalize w12.setCell ⟨f,7,none⟩ (.int .u32 (n7:Int))=w13 at Ba Q9 yL OZ EX⊢
      clear hw
      have HG:=hid (iC 33 8 (by decide) OZ.out (by have:=HLE.out;omega) hz)
      have Wx:aH ((x.drop 33).take 8)<18446744073709551616:=Nat.lt_of_lt_of_le (dD _) (show 256^_≤256^8 from Nat.pow_le_pow_right (by decide) (by rw[List.length_take];omega))
      generalize hn:aH ((x.drop 33).take 8)=n8 at HG Wx
      have HN8:=hid hn
      clear hn
      go_wp2_with fail
      refine HG.out.mono ?_
      rintro e wg ⟨rfl,rfl⟩
      clear HG
      have ks:w13.cell? ⟨f,8,none⟩=some (.int .u64 0):=Ba.out.cell 8
      have fs:w13.frozen? ⟨f,8,none⟩=false:=Ba.out.frozen 8
      have hso:=(Off.refl (fun i=>i=f) w13).setCell (p:=⟨f,8,none⟩) rfl (.int .u64 (n8:Int))
      have wX:=hid (show Blk (w13.setCell ⟨f,8,none⟩ (.int .u64 (n8:Int))) f 39 #[.int .u16 (n0:Int),.int .u32 (n1:Int),.int .u8 (n2:Int),.int .u32 (n3:Int),.int .u64 (n4:Int),.int .u32 (n5:Int),.int .u32 (n6:Int),.int .u32 (n7:Int),.int .u64 (n8:Int),.string ⟨#[]⟩,.string ⟨#[]⟩,.string ⟨#[]⟩,.string ⟨#[]⟩]from Ba.out.aW 8 (.int .u64 (n8:Int)))
      have Q_:=hid (hso.blk Q9.out (fun h=>HZF.out h))
      have IX:=hid (yL.out.trans (hso.mono fun k _ hk=>by have hk:k=f:=hk;have:=jG.out;show z≤k;omega))
      have Rf:=hid (OZ.out.keep (w':=w13.setCell ⟨f,8,none⟩ (.int .u64 (n8:Int))) fun q hq=>World.cell?_of_block (Below.heap_setCell _ _ _ _ (by show q.block≠f;have:=jG.out;omega)))
      have EY:=hid (EX.out.keep (w':=w13.setCell ⟨f,8,none⟩ (.int .u64 (n8:Int))) fun q hq=>World.cell?_of_block (Below.heap_setCell _ _ _ _ (by show q.block≠f;omega)))
      clear hso Ba Q9 yL OZ EX
      go_upto_region 19 with(fail)
      clear ks fs
      generalize w13.setCell ⟨f,8,none⟩ (.int .u64 (n8:Int))=w14 at wX Q_ IX Rf EY⊢
      have hs4:=EY.out
      obtain⟨ad,hA, -,kx⟩:=iW.at_ hs4 (k:=0) (x:=a1) rfl
      clear hs4
      subst hA
      have kx2:=kx
      simp[Addr.add]at kx2
      have ks:w14.cell? ⟨f,9,none⟩=some (.string ⟨#[]⟩):=wX.out.cell 9
      have fs:w14.frozen? ⟨f,9,none⟩=false:=wX.out.frozen 9
      have hso:=(Off.refl (fun i=>i=f) w14).setCell (p:=⟨f,9,none⟩) rfl (.string a1)
      have Bc:=hid (show Blk (w14.setCell ⟨f,9,none⟩ (.string a1)) f 39 #[.int .u16 (n0:Int),.int .u32 (n1:Int),.int .u8 (n2:Int),.int .u32 (n3:Int),.int .u64 (n4:Int),.int .u32 (n5:Int),.int .u32 (n6:Int),.int .u32 (n7:Int),.int .u64 (n8:Int),.string a1,.string ⟨#[]⟩,.string ⟨#[]⟩,.string ⟨#[]⟩]from wX.out.aW 9 (.string a1))
      have Rh:=hid (hso.blk Q_.out (fun h=>HZF.out h))
      have Df:=hid (IX.out.trans (hso.mono fun k _ hk=>by have hk:k=f:=hk;have:=jG.out;show z≤k;omega))
      have Ri:=hid (Rf.out.keep (w':=w14.setCell ⟨f,9,none⟩ (.string a1)) fun q hq=>World.cell?_of_block (Below.heap_setCell _ _ _ _ (by show q.block≠f;have:=jG.out;omega)))
      have Dc:=hid (EY.out.keep (w':=w14.setCell ⟨f,9,none⟩ (.string a1)) fun q hq=>World.cell?_of_block (Below.heap_setCell _ _ _ _ (by show q.block≠f;omega)))
      clear hso wX Q_ IX Rf EY
      go_upto_region 20 with(fail)
      clear ks fs
      generalize w14.setCell ⟨f,9,none⟩ (.string a1)=w15 at Bc Rh Df Ri Dc⊢
      clear kx kx2
      have hs4:=Dc.out
      obtain⟨ad,hA, -,kx⟩:=iW.at_ hs4 (k:=1) (x:=a2) rfl
      clear hs4
      injection hA with hA
      subst hA
      have kx2:=kx
      simp[Addr.add]at kx2
      have ks:w15.cell? ⟨f,10,none⟩=some (.string ⟨#[]⟩):=Bc.out.cell 10
      have fs:w15.frozen? ⟨f,10,none⟩=false:=Bc.out.frozen 10
      have hso:=(Off.refl (fun i=>i=f) w15).setCell (p:=⟨f,10,none⟩) rfl (.string a2)
      have wY:=hid (show Blk (w15.setCell ⟨f,10,none⟩ (.string a2)) f 39 #[.int .u16 (n0:Int),.int .u32 (n1:Int),.int .u8 (n2:Int),.int .u32 (n3:Int),.int .u64 (n4:Int),.int .u32 (n5:Int),.int .u32 (n6:Int),.int .u32 (n7:Int),.int .u64 (n8:Int),.string a1,.string a2,.string ⟨#[]⟩,.string ⟨#[]⟩]from Bc.out.aW 10 (.string a2))
      have Rj:=hid (hso.blk Rh.out (fun h=>HZF.out h))
      have IY:=hid (Df.out.trans (hso.mono fun k _ hk=>by have hk:k=f:=hk;have:=jG.out;show z≤k;omega))
      have Rk:=hid (Ri.out.keep (w':=w15.setCell ⟨f,10,none⟩ (.string a2)) fun q hq=>World.cell?_of_block (Below.heap_setCell _ _ _ _ (by show q.block≠f;have:=jG.out;omega)))
      have EZ:=hid (Dc.out.keep (w':=w15.setCell ⟨f,10,none⟩ (.string a2)) fun q hq=>World.cell?_of_block (Below.heap_setCell _ _ _ _ (by show q.block≠f;omega)))
      clear hso Bc Rh Df Ri Dc
      go_upto_region 21 with(fail)
      clear ks fs
      generalize w15.setCell ⟨f,10,none⟩ (.string a2)=w16 at wY Rj IY Rk EZ⊢
      clear kx kx2
      have hs4:=EZ.out
      obtain⟨ad,hA, -,kx⟩:=iW.at_ hs4 (k:=2) (x:=a3) rfl
      clear hs4
      injection hA with hA
      subst hA
      have kx2:=kx
      simp[Addr.add]at kx2
      have ks:w16.cell? ⟨f,11,none⟩=some (.string ⟨#[]⟩):=wY.out.cell 11
      have fs:w16.frozen? ⟨f,11,none⟩=false:=wY.out.frozen 11
      have hso:=(Off.refl (fun i=>i=f) w16).setCell (p:=⟨f,11,none⟩) rfl (.string a3)
      have Bd:=hid (show Blk (w16.setCell ⟨f,11,none⟩ (.string a3)) f 39 #[.int .u16 (n0:Int),.int .u32 (n1:Int),.int .u8 (n2:Int),.int .u32 (n3:Int),.int .u64 (n4:Int),.int .u32 (n5:Int),.int .u32 (n6:Int),.int .u32 (n7:Int),.int .u64 (n8:Int),.string a1,.string a2,.string a3,.string ⟨#[]⟩]from wY.out.aW 11 (.string a3))
      have Rl:=hid (hso.blk Rj.out (fun h=>HZF.out h))
      have Di:=hid (IY.out.trans (hso.mono fun k _ hk=>by have hk:k=f:=hk;have:=jG.out;show z≤k;omega))
      have Rn:=hid (Rk.out.keep (w':=w16.setCell ⟨f,11,none⟩ (.string a3)) fun q hq=>World.cell?_of_block (Below.heap_setCell _ _ _ _ (by show q.block≠f;have:=jG.out;omega)))
      have Dh:=hid (EZ.out.keep (w':=w16.setCell ⟨f,11,none⟩ (.string a3)) fun q hq=>World.cell?_of_block (Below.heap_setCell _ _ _ _ (by show q.block≠f;omega)))
      clear hso wY Rj IY Rk EZ
      go_upto_region 22 with(fail)
      clear ks fs
      generalize w16.setCell ⟨f,11,none⟩ (.string a3)=w17 at Bd Rl Di Rn Dh⊢
      clear kx kx2
      have hs4:=Dh.out
      obtain⟨ad,hA, -,kx⟩:=iW.at_ hs4 (k:=3) (x:=a4) rfl
      clear hs4
      injection hA with hA
      subst hA
      have kx2:=kx
      simp[Addr.add]at kx2
      have ks:w17.cell? ⟨f,12,none⟩=some (.string ⟨#[]⟩):=Bd.out.cell 12
      have fs:w17.frozen? ⟨f,12,none⟩=false:=Bd.out.frozen 12
      have hso:=(Off.refl (fun i=>i=f) w17).setCell (p:=⟨f,12,none⟩) rfl (.string a4)
      have Dj:=hid (show Blk (w17.setCell ⟨f,12,none⟩ (.string a4)) f 39 #[.int .u16 (n0:Int),.int .u32 (n1:Int),.int .u8 (n2:Int),.int .u32 (n3:Int),.int .u64 (n4:Int),.int .u32 (n5:Int),.int .u32 (n6:Int),.int .u32 (n7:Int),.int .u64 (n8:Int),.string a1,.string a2,.string a3,.string a4]from Bd.out.aW 12 (.string a4))
      have Uo:=hid (hso.blk Rl.out (fun h=>HZF.out h))
      have KT:=hid (Di.out.trans (hso.mono fun k _ hk=>by have hk:k=f:=hk;have:=jG.out;show z≤k;omega))
      have Wy:=hid (Rn.out.keep (w':=w17.setCell ⟨f,12,none⟩ (.string a4)) fun q hq=>World.cell?_of_block (Below.heap_setCell _ _ _ _ (by show q.block≠f;have:=jG.out;omega)))
      have Oi:=hid (Dh.out.keep (w':=w17.setCell ⟨f,12,none⟩ (.string a4)) fun q hq=>World.cell?_of_block (Below.heap_setCell _ _ _ _ (by show q.block≠f;omega)))
      clear hso Bd Rl Di Rn Dh
      go_upto_region 23 with(fail)
      clear ks fs
      generalize w17.setCell ⟨f,12,none⟩ (.string a4)=w18 at Dj Uo KT Wy Oi⊢
      clear kx kx2
      have HN:=hid (show fV x=some ⟨n0,n1,⟨n2,n3,n4⟩,n5,n6,n7,n8,a1,a2,a3,a4⟩from by
       unfold fV
       rw[if_neg h49,HNE.out,if_neg (by have:=HLE.out;omega),HGT.out,List.drop_length]
       dsimp only
       rw[HN0.out,HN1.out,HN2.out,HN3.out,HN4.out,HN5.out,HN6.out,HN7.out,HN8.out])
      go_wp2_with(first|(refine wlw Dj.out 0 (stL ⟨n0,n1,⟨n2,n3,n4⟩,n5,n6,n7,n8,a1,a2,a3,a4⟩) rfl rfl _ _ rfl rfl _ Tryz.underlying39 rfl bP ?_)|(refine dA Uo.out 0 (stL ⟨n0,n1,⟨n2,n3,n4⟩,n5,n6,n7,n8,a1,a2,a3,a4⟩) (stL ⟨n0,n1,⟨n2,n3,n4⟩,n5,n6,n7,n8,a1,a2,a3,a4⟩).toArray (kK ..) (Nat.le_refl 13) (lJ ..) rfl _ _ _ rfl rfl rfl bP ?_;intro wz hs ho;have HBz:=hid hs;have HOz:=hid ((ho (fun i=>z≤i) (Nat.le_refl _) w KT.out).below (B:=z) (fun i hi=>hi));clear hs ho))
      refine bodyPost_ret (kP (l:=stL ⟨n0,n1,⟨n2,n3,n4⟩,n5,n6,n7,n8,a1,a2,a3,a4⟩) rfl Tryz.underlying39 rfl bP rfl rfl HBz.out) rfl ⟨?_,⟨n0,n1,⟨n2,n3,n4⟩,n5,n6,n7,n8,a1,a2,a3,a4⟩,0,rfl, ?_⟩
      ·rw[HZZ.out]
       exact HOz.out (by have:=HZZ.out;omega)
      ·rw[HN.out]
       exact⟨rfl,rfl⟩
def Ch{β:Type}(r:Except Nat β)(st:Except Nat (List UInt8))(f:List UInt8→Except Nat β):Prop:=r=(st >>= f)
theorem Ch.word{β:Type}{r:Except Nat β}{st:Except Nat (List UInt8)}{f:List UInt8→Except Nat β}(u:ByteArray)(h:Ch r st (fun l=>dQ u.data.toList l >>= f)):Ch r (Ye u st) f:=by
 unfold Ch at*
 rw[h,ZH]
theorem Ch.part{α β:Type}{r:Except Nat β}{st st1:Except Nat (List UInt8)}{p:List UInt8→Except Nat (α×List UInt8)}{f:α×List UInt8→Except Nat β}{x:α}(h:Ch r st (fun l=>p l >>= f))(g:XZ (st >>= p) x st1):Ch r st1 (fun l=>f (x,l)):=by
 unfold Ch XZ at*
 cases st with
 |error k=>subst h;subst g;rfl
 |ok l=>
  rw[h]
  show(p l >>= f)=_
  change(match p l with| .ok (t,r)=>x=t∧st1= .ok r| .error k=>st1= .error k)at g
  cases hp:p l with
  |error k=>rw[hp]at g;rw[g];rfl
  |ok q=>rw[hp]at g;rw[g.1,g.2];rfl
theorem Ch.end_{α:Type}{r:Except Nat (α×List UInt8)}{st:Except Nat (List UInt8)}{x:α}(h:Ch r st (fun l=> .ok (x,l))):XZ r x st:=by
 unfold Ch at h
 rw[h]
 exact XZ.last x st
theorem Y8{w0 w w':World}{S:Nat→Prop}{z:Nat}(h:Off S w0 w)(ho:Off (fun i=>i=z) w w')(hz:w0.heap.size≤z):Off S w0 w':=
 ⟨ho.os.trans h.os,ho.tape.trans h.tape,ho.output.trans h.output,Nat.le_trans h.size ho.size,fun i hi hn=>(ho.block i (Nat.lt_of_lt_of_le hi h.size) (fun e=>by have e:i=z:=e;omega)).trans (h.block i hi hn)⟩
structure PtS(w0 w:World)(p z:Nat)(s:ByteArray)(st:Except Nat (List UInt8))(t:TypeId)(cs:Array Value)(u:TypeId)(rs:Array Value)(y:Nat):Prop where
 ln:RwS w p s st
 zb:Blk w z t cs
 rb:Blk w y u rs
 of_:Off (fun i=>i=p) w0 w
 pz:p<w0.heap.size
 bz:w0.heap.size≤z
 by_:w0.heap.size≤y
section
variable {w0 w w':World} {p z y:Nat} {s:ByteArray} {st st':Except Nat (List UInt8)} {t u:TypeId} {cs rs:Array Value}
theorem PtS.call(h:PtS w0 w p z s st t cs u rs y)(hs:RwS w' p s st')(ho:Off (fun i=>i=p) w w'):PtS w0 w' p z s st' t cs u rs y:=by
 have h1:=h.pz
 have h2:=h.bz
 have h3:=h.by_
 exact⟨hs,ho.blk h.zb (fun e=>by have e:z=p:=e;omega),ho.blk h.rb (fun e=>by have e:y=p:=e;omega),h.of_.trans ho,h1,h2,h3⟩
theorem PtS.set(h:PtS w0 w p z s st t cs u rs y)(k:Nat)(v:Value)(hzy:z≠y):PtS w0 (w.setCell ⟨z,k,none⟩ v) p z s st t (cs.setIfInBounds k v) u rs y:=by
 have h1:=h.pz
 have h2:=h.bz
 have h3:=h.by_
 have ho:Off (fun i=>i=z) w (w.setCell ⟨z,k,none⟩ v):=(Off.refl (fun i=>i=z) w).setCell (p:=⟨z,k,none⟩) rfl v
 exact⟨h.ln.off ho (fun e=>by have e:p=z:=e;omega),h.zb.aW k v,ho.blk h.rb (fun e=>hzy (by have e:y=z:=e;exact e.symm)),Y8 h.of_ ho h2,h1,h2,h3⟩
end
theorem Ym{w:World}{p:Nat}{s:ByteArray}{st:Except Nat (List UInt8)}(h:RwS w p s st):
  Calls Tryz.prog 103 #[.pointer (some ⟨p,0,none⟩)] w (Yn p s qdV Qd.ok (st >>= gW) (fun i=>i=p) w):=by
 have hup:Below w.heap.size w (w.alloc (.cells #[.int .u8 0,.int .u32 0,.int .u64 0] 37)):=(Below.refl _ _).alloc (Nat.le_refl _) _
 have HF:=hid (show PtS w (w.alloc (.cells #[.int .u8 0,.int .u32 0,.int .u64 0] 37)) p w.heap.size s st 37 #[.int .u8 0,.int .u32 0,.int .u64 0] 37 #[.int .u8 0,.int .u32 0,.int .u64 0] w.heap.size from⟨h.below hup,Blk.new w 37 _,Blk.new w 37 _,Off.of_below hup,h.lt,Nat.le_refl _,Nat.le_refl _⟩)
 have HC:=hid (show Ch (st >>= gW) st (fun l=>fZ 255 l >>= fun q=>dQ (⟨#[46]⟩:ByteArray).data.toList q.2 >>= fun l=>fZ 4294967295 l >>= fun r=>dQ (⟨#[46]⟩:ByteArray).data.toList r.2 >>= fun l=>fZ 18446744073709551615 l >>= fun v=> .ok ((⟨q.1,r.1,v.1⟩:Qd),v.2))from rfl)
 generalize(st >>= gW)=R at HC⊢
 clear h hup
 go_enter Tryz.func103,Tryz.ntmps103
 go_upto_region 1 with(fail)
 generalize w.alloc (.cells #[.int .u8 0,.int .u32 0,.int .u64 0] 37)=w0 at HF⊢
 generalize w.heap.size=z at HF⊢
 go_wp2_with fail
 refine(XU 255 (by decide) (by decide) HF.out.ln).mono ?_
 rintro e w1 ⟨n1,st1,rfl,b1,hs,hg,ho⟩
 replace HF:=hid (HF.out.call hs ho)
 have HC2:=HC.out.part hg
 dsimp only at HC2
 replace HC:=hid HC2
 clear hs ho hg HC2
 go_wp2_with fail
 refine(acT ⟨#[46]⟩ (by decide) HF.out.ln).mono ?_
 rintro e w2 ⟨rfl,hs,ho⟩
 replace HF:=hid (HF.out.call hs ho)
 replace HC:=hid (HC.out.word ⟨#[46]⟩)
 clear hs ho
 go_wp2_with fail
 refine(XU 4294967295 (by decide) (by decide) HF.out.ln).mono ?_
 rintro e w3 ⟨n2,st3,rfl,b2,hs,hg,ho⟩
 replace HF:=hid (HF.out.call hs ho)
 have HC2:=HC.out.part hg
 dsimp only at HC2
 replace HC:=hid HC2
 clear hs ho hg HC2
 go_wp2_with fail
 refine(acT ⟨#[46]⟩ (by decide) HF.out.ln).mono ?_
 rintro e w4 ⟨rfl,hs,ho⟩
 replace HF:=hid (HF.out.call hs ho)
 replace HC:=hid (HC.out.word ⟨#[46]⟩)
 clear hs ho
 go_wp2_with fail
 refine(XU 18446744073709551615 (by decide) (by decide) HF.out.ln).mono ?_
 rintro e w5 ⟨n3,st5,rfl,b3,hs,hg,ho⟩
 replace HF:=hid (HF.out.call hs ho)
 have HC2:=HC.out.part hg
 dsimp only at HC2
 replace HC:=hid HC2
 clear hs ho hg HC2
 have hw1:IntKind.u8.wrap (n1:Int)=(n1:Int):=by rw[IntKind.wrap_u8];omega
 have hw2:IntKind.u32.wrap (n2:Int)=(n2:Int):=by rw[IntKind.wrap_u32];omega
 have HZ:=hid HF.out.zb
 have k0:w5.cell? ⟨z,0,none⟩=some (.int .u8 0):=HZ.out.cell 0
 have k1:w5.cell? ⟨z,1,none⟩=some (.int .u32 0):=HZ.out.cell 1
 have k2:w5.cell? ⟨z,2,none⟩=some (.int .u64 0):=HZ.out.cell 2
 have f0:w5.frozen? ⟨z,0,none⟩=false:=HZ.out.frozen 0
 have f1:w5.frozen? ⟨z,1,none⟩=false:=HZ.out.frozen 1
 have f2:w5.frozen? ⟨z,2,none⟩=false:=HZ.out.frozen 2
 have HBK:=hid (show Blk (((w5.setCell ⟨z,0,none⟩ (.int .u8 (n1:Int))).setCell ⟨z,1,none⟩ (.int .u32 (n2:Int))).setCell ⟨z,2,none⟩ (.int .u64 (n3:Int))) z 37 (nU ⟨n1,n2,n3⟩).toArray from Blk.aW (Blk.aW (Blk.aW HZ.out 0 _) 1 _) 2 _)
 have HOW:=hid (show Off (fun i=>i=z) w5 (((w5.setCell ⟨z,0,none⟩ (.int .u8 (n1:Int))).setCell ⟨z,1,none⟩ (.int .u32 (n2:Int))).setCell ⟨z,2,none⟩ (.int .u64 (n3:Int)))from(((Off.refl (fun i=>i=z) w5).setCell (p:=⟨z,0,none⟩) rfl _).setCell (p:=⟨z,1,none⟩) rfl _).setCell (p:=⟨z,2,none⟩) rfl _)
 go_wp2_with fail
 generalize((w5.setCell ⟨z,0,none⟩ (.int .u8 (n1:Int))).setCell ⟨z,1,none⟩ (.int .u32 (n2:Int))).setCell ⟨z,2,none⟩ (.int .u64 (n3:Int))=w6 at HBK HOW⊢
 refine bodyPost_ret (bf (l:=nU ⟨n1,n2,n3⟩) rfl Tryz.underlying37 rfl tH rfl HBK.out) rfl ⟨⟨n1,n2,n3⟩,_,rfl,⟨by show n1<256;omega,by show n2<4294967296;omega,by show n3<18446744073709551616;omega⟩,HF.out.ln.off HOW.out (fun e=>by have e:p=z:=e;have:=HF.out.pz;have:=HF.out.bz;omega),HC.out.end_,Y8 HF.out.of_ HOW.out HF.out.bz⟩
end Go.Proofs.YtkblmloobkiloaaGreatDoor
