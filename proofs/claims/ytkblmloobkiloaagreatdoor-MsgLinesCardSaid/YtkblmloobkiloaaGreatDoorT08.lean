/-
  MV2: what the laws of package msg need of them.
-/
import Derived.Test.YtkblmloobkiloaaGreatDoorT00
import Derived.Test.YtkblmloobkiloaaGreatDoorT07
set_option maxRecDepth 100000
set_option maxHeartbeats 3200000
namespace Go.Proofs.YtkblmloobkiloaaGreatDoor
open Go.Lib (hid)
open Go.RowKit
theorem zl{lim:Nat}{st:Option (List UInt8)}{x l:List UInt8}(h:dV lim st x=some l):∃l0,st=some l0∧l=l0++x∧l0.length+x.length≤lim:=by
 cases st with
 |none=>cases h
 |some l0=>
  unfold dV at h
  dsimp only at h
  split at h
  ·injection h with h;exact⟨l0,rfl,h.symm,by assumption⟩
  ·cases h
theorem Ir(a x:List UInt8)(u v:UInt8):patch a.length (a++u::v::x)=a++(le 2 x.length++x):=by
 unfold patch
 rw[List.take_left,show a++u::v::x=(a++[u,v])++x by simp,show(a++[u,v]++x).length-a.length-2=x.length by simp,List.drop_left' (by simp)]
theorem vY{lim n:Nat}{st:Option (List UInt8)}{x:List UInt8}(hn:∀l,dV lim st [0,0]=some l→l.length=n+2)(hx:lim≤65536):Cb n (dV lim (dV lim st [0,0]) x)=dV lim st (le 2 x.length++x):=by
 cases st with
 |none=>rfl
 |some l=>
  by_cases h:l.length+2≤lim
  ·have e1:dV lim (some l) [0,0]=some (l++[0,0]):=gQ h
   have hl:=hn _ e1
   have hln:n=l.length:=by rw[List.length_append]at hl;simp at hl;omega
   subst hln
   rw[e1]
   by_cases h2:l.length+2+x.length≤lim
   ·rw[gQ (by rw[List.length_append];exact h2),gQ (by rw[List.length_append,bK];omega)]
    have e2:l++[0,0]++x=l++(0:UInt8)::0::x:=by simp
    rw[e2]
    unfold Cb
    dsimp only
    rw[if_pos (by simp;omega),Ir]
   ·rw[dX (st:=some (l++[0,0])) (x:=x) (fun l' hl=>by injection hl with hl;subst hl;rw[List.length_append];simp;omega)]
    rw[dX (st:=some l) (x:=le 2 x.length++x) (fun l' hl=>by injection hl with hl;subst hl;rw[List.length_append,bK];omega)]
    rfl
  ·rw[dX (st:=some l) (x:=[0,0]) (fun l' hl=>by injection hl with hl;subst hl;simp;omega)]
   rw[dX (st:=some l) (x:=le 2 x.length++x) (fun l' hl=>by injection hl with hl;subst hl;rw[List.length_append,bK];omega)]
   rfl
def CO(s:Sta):List UInt8:=le 2 s.type++(le 4 s.dev++(kR s.qid++(le 4 s.mode++(le 4 s.atime++(le 4 s.mtime++(le 8 s.length++(fP s.name++(fP s.uid++(fP s.gid++fP s.fE)))))))))
theorem Kr(s:Sta):(CO s).length=dY s-2:=by
 unfold CO dY
 simp only[List.length_append,bK,nH,ji]
 omega
theorem Iu(s:Sta):kX s=le 2 (CO s).length++CO s:=by
 rw[Kr]
 unfold kX CO
 simp only[List.append_assoc]
theorem Iw{w:World}{base p lim:Nat}{st:Option (List UInt8)}{op:List Nat}(s:Sta)(hs:s.ok)(hg:s.good=true)(hz:dY s≤1099511627776)(hr:Ready w)(h8:8≤base)(hlim:lim≤65536)(h:WrS w base p lim st op)(hop:op.length<16):
  Calls Tryz.prog 259 #[.pointer (some ⟨p,0,none⟩),stV s] w fun e w'=>e= .returned (.tuple #[])∧WrS w' base p lim (dV lim st (kX s)) op∧Wk base w w':=by
 obtain⟨n1,n2,hq,n4,n5,n6,n7⟩:=hs
 simp only[Sta.good,Bool.and_eq_true]at hg
 obtain⟨⟨⟨g1,g2⟩,g3⟩,g4⟩:=hg
 have Sr:49+s.name.size+s.uid.size+s.gid.size+s.fE.size≤1099511627776:=hz
 have hsz:=h.le
 have HS:=hid (h.below ((Below.refl _ _).alloc (Nat.le_refl _) (.cells #[.int .u16 (s.type:Int),.int .u32 (s.dev:Int),.int .u8 (s.qid.kind:Int),.int .u32 (s.qid.vers:Int),.int .u64 (s.qid.path:Int),.int .u32 (s.mode:Int),.int .u32 (s.atime:Int),.int .u32 (s.mtime:Int),.int .u64 (s.length:Int),.string s.name,.string s.uid,.string s.gid,.string s.fE] 39)))
 have HB:=hid ((Wk.refl base w).alloc hsz (.cells #[.int .u16 (s.type:Int),.int .u32 (s.dev:Int),.int .u8 (s.qid.kind:Int),.int .u32 (s.qid.vers:Int),.int .u64 (s.qid.path:Int),.int .u32 (s.mode:Int),.int .u32 (s.atime:Int),.int .u32 (s.mtime:Int),.int .u64 (s.length:Int),.string s.name,.string s.uid,.string s.gid,.string s.fE] 39))
 have HN:=hid (Blk.new w 39 #[.int .u16 (s.type:Int),.int .u32 (s.dev:Int),.int .u8 (s.qid.kind:Int),.int .u32 (s.qid.vers:Int),.int .u64 (s.qid.path:Int),.int .u32 (s.mode:Int),.int .u32 (s.atime:Int),.int .u32 (s.mtime:Int),.int .u64 (s.length:Int),.string s.name,.string s.uid,.string s.gid,.string s.fE])
 have HR:=hid hr
 have HZ:=hid (And.intro Sr hop)
 have HG:=hid (And.intro (And.intro g1 g2) (And.intro g3 g4))
 have HQ:=hid hq
 clear h hr hz Sr hop hq g1 g2 g3 g4
 unfold stV
 go_enter Tryz.func259,Tryz.ntmps259
 go_upto_region 2 with(fail)
 generalize w.alloc (.cells #[.int .u16 (s.type:Int),.int .u32 (s.dev:Int),.int .u8 (s.qid.kind:Int),.int .u32 (s.qid.vers:Int),.int .u64 (s.qid.path:Int),.int .u32 (s.mode:Int),.int .u32 (s.atime:Int),.int .u32 (s.mtime:Int),.int .u64 (s.length:Int),.string s.name,.string s.uid,.string s.gid,.string s.fE] 39)=w0 at HS HB HN⊢
 generalize hq:w.heap.size=q at HN hsz⊢
 clear hq
 go_wp2_with fail
 refine(rE HS.out HZ.out.2).mono ?_
 rintro e w1 ⟨⟨n,rfl,hs,hn16,hn⟩,hb⟩
 have HNN:=hid hn
 have PS:=hid hn16;clear hn16
 have HS0:=hid hs
 have HN0:=hid (hb.blk HN.out (by decide) (by decide) (by decide))
 have HB0:=hid (HB.out.trans hb);clear hs hb hn HS HN HB
 have k0:w1.cell? ⟨q,0,none⟩=_:=HN0.out.cell 0
 go_wp2_with fail
 refine(lg s.type n1 HS0.out).mono ?_
 rintro e w2 ⟨rfl,hs,hb⟩
 have HS1:=hid hs
 have HN1:=hid (hb.blk HN0.out (by decide) (by decide) (by decide))
 have HB1:=hid (HB0.out.trans hb)
 clear hs hb k0 HS0 HN0 HB0
 have k1:w2.cell? ⟨q,1,none⟩=_:=HN1.out.cell 1
 go_wp2_with fail
 refine(iY s.dev n2 HS1.out).mono ?_
 rintro e w3 ⟨rfl,hs,hb⟩
 have HS2:=hid hs
 have HN2:=hid (hb.blk HN1.out (by decide) (by decide) (by decide))
 have HB2:=hid (HB1.out.trans hb)
 clear hs hb k1 HS1 HN1 HB1
 have k2:w3.cell? ⟨q,2,none⟩=_:=HN2.out.cell 2
 have k3:w3.cell? ⟨q,3,none⟩=_:=HN2.out.cell 3
 have k4:w3.cell? ⟨q,4,none⟩=_:=HN2.out.cell 4
 go_wp2_with fail
 refine(nX s.qid HQ.out HS2.out).mono ?_
 rintro e w4 ⟨rfl,hs,hb⟩
 have HS3:=hid hs
 have HN3:=hid (hb.blk HN2.out (by decide) (by decide) (by decide))
 have HB3:=hid (HB2.out.trans hb)
 clear hs hb k2 k3 k4 HS2 HN2 HB2
 have k5:w4.cell? ⟨q,5,none⟩=_:=HN3.out.cell 5
 go_wp2_with fail
 refine(iY s.mode n4 HS3.out).mono ?_
 rintro e w5 ⟨rfl,hs,hb⟩
 have HS4:=hid hs
 have HN4:=hid (hb.blk HN3.out (by decide) (by decide) (by decide))
 have HB4:=hid (HB3.out.trans hb)
 clear hs hb k5 HS3 HN3 HB3
 have k6:w5.cell? ⟨q,6,none⟩=_:=HN4.out.cell 6
 go_wp2_with fail
 refine(iY s.atime n5 HS4.out).mono ?_
 rintro e w6 ⟨rfl,hs,hb⟩
 have HS5:=hid hs
 have HN5:=hid (hb.blk HN4.out (by decide) (by decide) (by decide))
 have HB5:=hid (HB4.out.trans hb)
 clear hs hb k6 HS4 HN4 HB4
 have k7:w6.cell? ⟨q,7,none⟩=_:=HN5.out.cell 7
 go_wp2_with fail
 refine(iY s.mtime n6 HS5.out).mono ?_
 rintro e w7 ⟨rfl,hs,hb⟩
 have HS6:=hid hs
 have HN6:=hid (hb.blk HN5.out (by decide) (by decide) (by decide))
 have HB6:=hid (HB5.out.trans hb)
 clear hs hb k7 HS5 HN5 HB5
 have k8:w7.cell? ⟨q,8,none⟩=_:=HN6.out.cell 8
 go_wp2_with fail
 refine(oU s.length n7 HS6.out).mono ?_
 rintro e w8 ⟨rfl,hs,hb⟩
 have HS7:=hid hs
 have HN7:=hid (hb.blk HN6.out (by decide) (by decide) (by decide))
 have HB7:=hid (HB6.out.trans hb)
 clear hs hb k8 HS6 HN6 HB6
 have k9:w8.cell? ⟨q,9,none⟩=_:=HN7.out.cell 9
 have k10:w8.cell? ⟨q,10,none⟩=_:=HN7.out.cell 10
 have k11:w8.cell? ⟨q,11,none⟩=_:=HN7.out.cell 11
 have k12:w8.cell? ⟨q,12,none⟩=_:=HN7.out.cell 12
 have HT:=hid (Blk.new w8 9 #[.string s.name,.string s.uid,.string s.gid,.string s.fE])
 have HB8:=hid (HB7.out.alloc HS7.out.le (.cells #[.string s.name,.string s.uid,.string s.gid,.string s.fE] 9))
 have HS8:=hid (HS7.out.below ((Below.refl _ _).alloc (Nat.le_refl _) (.cells #[.string s.name,.string s.uid,.string s.gid,.string s.fE] 9)))
 clear HS7 HB7
 obtain⟨tx,htx⟩:∃tx,tx=[s.name,s.uid,s.gid,s.fE]:=⟨_,rfl⟩
 have HTX:=hid htx
 have HTG:=hid (show∀x∈tx,good x=true∧x.size≤1099511627776 from by
  have h1:=HG.out
  have h2:=HZ.out
  rw[htx]
  intro x hx
  simp only[List.mem_cons,List.not_mem_nil,or_false]at hx
  rcases hx with rfl|rfl|rfl|rfl
  ·exact⟨h1.1.1,by omega⟩
  ·exact⟨h1.1.2,by omega⟩
  ·exact⟨h1.2.1,by omega⟩
  ·exact⟨h1.2.2,by omega⟩)
 have HTL:=hid (show tx.length=4 from by rw[htx];rfl)
 clear htx
 obtain⟨st7,PU⟩:∃st7,st7=dV lim (dV lim (dV lim (dV lim (dV lim (dV lim (dV lim (dV lim st [0,0]) (le 2 s.type)) (le 4 s.dev)) (kR s.qid)) (le 4 s.mode)) (le 4 s.atime)) (le 4 s.mtime)) (le 8 s.length):=⟨_,rfl⟩
 rw[←PU]at HS8
 have HST:=hid PU;clear PU
 go_upto_region 11 with(fail)
 have HTB:=hid (show Blk (w8.alloc (.cells #[.string s.name,.string s.uid,.string s.gid,.string s.fE] 9)) w8.heap.size 9 (h_ tx).toArray from by rw[HTX.out];exact HT.out)
 generalize w8.alloc (.cells #[.string s.name,.string s.uid,.string s.gid,.string s.fE] 9)=w9 at HS8 HB8 HTB⊢
 generalize w8.heap.size=g at HTB⊢
 clear k9 k10 k11 k12 HT HN7
 go_loopw [6,49] (fun _ i wr=>∃k:Nat,k≤4∧i= .int .i64 k∧WrS wr base p lim (dV lim st7 ((tx.take k).flatMap fP)) (op++[n])∧Wk base w wr∧Blk wr g 9 (h_ tx).toArray) (fun _ i _=>4-(intOf i).toNat)
 case atStart=>
  refine⟨0,by omega,rfl, ?_,HB8.out,HTB.out⟩
  have h:=HS8.out
  rw[List.take_zero,List.flatMap_nil]
  have e:dV lim st7 []=st7:=by
   obtain⟨bv,l,ov,op',err,h,hs⟩:=h
   cases hs7:st7 with
   |none=>rfl
   |some l'=>
    rw[hs7]at hs
    obtain⟨-,rfl, -⟩:=hs
    rw[gQ (by simpa using h.len),List.append_nil]
  rw[e]
  exact h
 case round=>
  obtain⟨k,hk,rfl,hs,hb,hg⟩:=hrel
  have HSR:=hid hs;clear hs
  have HBR:=hid hb;clear hb
  have HGR:=hid hg;clear hg
  by_cases hlt:k<4
  ·obtain⟨x,hx⟩:∃x,tx[k]? =some x:=⟨tx[k]'(by rw[HTL.out];exact hlt),List.getElem?_eq_getElem _⟩
   have kx:wr.cell? ⟨g,k,none⟩=some (.string x):=by
    rw[HGR.out.cell k]
    simp[hx]
   have HX:=hid hx
   have hxg:=HTG.out x (List.mem_of_getElem? hx)
   have HXG:=hid hxg
   clear hx hxg
   go_wp2_with fail
   refine(nV x (HR.out.low HBR.out.low h8) HXG.out.2 HSR.out).mono ?_
   rintro e w10 ⟨rfl,hs,hb⟩
   have HSX:=hid hs
   have HBX:=hid (HBR.out.trans hb)
   have HGX:=hid (hb.blk HGR.out (by decide) (by decide) (by decide))
   clear hs hb kx
   go_wp2_with fail
   go_roundw
   case rel=>
    refine⟨k+1,by omega,by go_num, ?_,HBX.out,HGX.out⟩
    have h:=HSX.out
    rw[j_ HXG.out.1 hlim,jm]at h
    rw[List.take_add_one,HX.out,Option.toList_some,List.flatMap_append,List.flatMap_singleton]
    exact h
   case measure=>simp[intOf];omega
  ·have hk4:k=4:=by omega
   subst hk4
   have hfin:dV lim st7 ((tx.take 4).flatMap fP)=dV lim (dV lim st [0,0]) (CO s):=by
    rw[List.take_of_length_le (Nat.le_of_eq HTL.out),HTX.out,HST.out]
    simp only[jm,List.flatMap_cons,List.flatMap_nil,List.append_nil]
    unfold CO
    simp only[List.append_assoc]
   have HSF:=hid (show WrS wr base p lim (dV lim (dV lim st [0,0]) (CO s)) (op++[n])from by rw[←hfin];exact HSR.out)
   clear HSR hfin
   go_wp2_with fail
   refine(rF n PS.out HSF.out (fun l hl=>by
    obtain⟨l0,h0,rfl, -⟩:=zl hl
    rw[List.length_append,HNN.out l0 h0]
    omega)).mono ?_
   rintro e w11 ⟨rfl,hs,hb⟩
   have HSX:=hid hs
   have HBX:=hid (HBR.out.trans hb)
   clear hs hb
   go_wp2_with fail
   go_end0
   refine⟨rfl, ?_,HBX.out⟩
   rw[Iu,←vY HNN.out hlim]
   exact HSX.out
theorem yB{w:World}{base p lim:Nat}{st:Option (List UInt8)}{op:List Nat}(s:Sta)(hs:s.ok)(hg:s.good=true)(hz:dY s≤1099511627776)(hr:Ready w)(h8:8≤base)(hlim:lim≤65536)(h:WrS w base p lim st op)(hop:op.length<15):
  Calls Tryz.prog 235 #[.pointer (some ⟨p,0,none⟩),stV s] w fun e w'=>e= .returned (.tuple #[])∧WrS w' base p lim (dV lim st (le 2 (dY s)++kX s)) op∧Wk base w w':=by
 have HS:=hid (h.below ((Below.refl _ _).alloc (Nat.le_refl _) (.cells #[.int .u16 (s.type:Int),.int .u32 (s.dev:Int),.int .u8 (s.qid.kind:Int),.int .u32 (s.qid.vers:Int),.int .u64 (s.qid.path:Int),.int .u32 (s.mode:Int),.int .u32 (s.atime:Int),.int .u32 (s.mtime:Int),.int .u64 (s.length:Int),.string s.name,.string s.uid,.string s.gid,.string s.fE] 39)))
 have HB:=hid ((Wk.refl base w).alloc h.le (.cells #[.int .u16 (s.type:Int),.int .u32 (s.dev:Int),.int .u8 (s.qid.kind:Int),.int .u32 (s.qid.vers:Int),.int .u64 (s.qid.path:Int),.int .u32 (s.mode:Int),.int .u32 (s.atime:Int),.int .u32 (s.mtime:Int),.int .u64 (s.length:Int),.string s.name,.string s.uid,.string s.gid,.string s.fE] 39))
 have HN:=hid (Blk.new w 39 #[.int .u16 (s.type:Int),.int .u32 (s.dev:Int),.int .u8 (s.qid.kind:Int),.int .u32 (s.qid.vers:Int),.int .u64 (s.qid.path:Int),.int .u32 (s.mode:Int),.int .u32 (s.atime:Int),.int .u32 (s.mtime:Int),.int .u64 (s.length:Int),.string s.name,.string s.uid,.string s.gid,.string s.fE])
 have HR:=hid hr
 have HOP:=hid hop
 have HOK:=hid (And.intro hs (And.intro hg hz))
 clear h hr hop hs hg hz
 unfold stV
 go_enter Tryz.func235,Tryz.ntmps235
 go_upto_region 1 with(fail)
 generalize w.alloc (.cells #[.int .u16 (s.type:Int),.int .u32 (s.dev:Int),.int .u8 (s.qid.kind:Int),.int .u32 (s.qid.vers:Int),.int .u64 (s.qid.path:Int),.int .u32 (s.mode:Int),.int .u32 (s.atime:Int),.int .u32 (s.mtime:Int),.int .u64 (s.length:Int),.string s.name,.string s.uid,.string s.gid,.string s.fE] 39)=w0 at HS HB HN⊢
 generalize w.heap.size=q at HN⊢
 go_wp2_with fail
 refine(rE HS.out (by have:=HOP.out;omega)).mono ?_
 rintro e w1 ⟨⟨n,rfl,hs,hn16,hn⟩,hb⟩
 have HNN:=hid hn
 have PS:=hid hn16;clear hn16
 have HS0:=hid hs
 have HN0:=hid (hb.blk HN.out (by decide) (by decide) (by decide))
 have HB0:=hid (HB.out.trans hb);clear hs hb hn HS HN HB
 go_wp2_with(refine wlw HN0.out 0 (stL s) rfl rfl _ _ rfl rfl _ Tryz.underlying39 rfl bP ?_)
 refine(Iw s HOK.out.1 HOK.out.2.1 HOK.out.2.2 (HR.out.low HB0.out.low h8) h8 hlim HS0.out (by rw[List.length_append];have:=HOP.out;simp;omega)).mono ?_
 rintro e w2 ⟨rfl,hs,hb⟩
 have HS1:=hid hs
 have HB1:=hid (HB0.out.trans hb);clear hs hb HS0 HB0 HN0
 go_wp2_with fail
 refine(rF n PS.out HS1.out (fun l hl=>by
    obtain⟨l0,h0,rfl, -⟩:=zl hl
    rw[List.length_append,HNN.out l0 h0]
    omega)).mono ?_
 rintro e w11 ⟨rfl,hs,hb⟩
 have HSX:=hid hs
 have HBX:=hid (HB1.out.trans hb)
 clear hs hb
 go_wp2_with fail
 go_end0
 refine⟨rfl, ?_,HBX.out⟩
 rw[←pW s,←vY HNN.out hlim]
 exact HSX.out
theorem Kt(l:List ByteArray)(k:Nat)(x:ByteArray)(hx:l[k]? =some x):(l.take (k+1)).flatMap fP=(l.take k).flatMap fP++fP x:=by
 rw[List.take_add_one,hx,Option.toList_some,List.flatMap_append,List.flatMap_singleton]
theorem iW.at_{w:World}{B:Nat}{A:Option Addr}{n c:Nat}{l:List ByteArray}(h:iW w B (.slice A n c) l){k:Nat}{x:ByteArray}(hx:l[k]? =some x):∃ad,A=some ad∧ad.block<B∧w.cell? (ad.add k)=some (.string x):=by
 obtain⟨A',c',e, -, -,hr⟩:=h
 injection e with e1 e2 e3
 subst e1
 have hk:k<l.length:=(List.getElem?_eq_some_iff.1 hx).1
 obtain⟨ad,u,h1,h2,h3,h4⟩:=hr.at_ hk
 refine⟨ad,h1,h2,h4.trans ?_⟩
 rw[h_,List.getElem?_map,hx]at h3
 exact h3.symm▸rfl
theorem vZ{w:World}{base p lim:Nat}{st:Option (List UInt8)}{op:List Nat}(vn:Value)(l:List ByteArray)(hl:iW w base vn l)(h16:l.length≤65535)(hg:∀x∈l,good x=true∧x.size≤1099511627776)(hr:Ready w)(h8:8≤base)(hlim:lim≤65536)(h:WrS w base p lim st op):
  Calls Tryz.prog 211 #[.pointer (some ⟨p,0,none⟩),vn,.func (.func 135) #[.pointer (some ⟨p,0,none⟩)] #[]] w fun e w'=>e= .returned (.tuple #[])∧WrS w' base p lim (dV lim st (le 2 l.length++l.flatMap fP)) op∧Wk base w w':=by
 have HL:=hid hl
 obtain⟨A,c,rfl,hc,hm, -⟩:=hl
 have HR:=hid hr
 have HG:=hid hg
 have HS:=hid h
 clear hr hg h
 go_enter Tryz.func211,Tryz.ntmps211
 go_wp2_with fail
 refine(lg l.length (by omega) HS.out).mono ?_
 rintro e w1 ⟨rfl,hs,hb⟩
 have HS1:=hid hs
 have HB1:=hid hb
 clear hs hb HS
 go_upto_region 2 with(fail)
 go_loopw [7,15] (fun _ i wr=>∃k:Nat,k≤l.length∧i= .int .i64 k∧WrS wr base p lim (dV lim st (le 2 l.length++(l.take k).flatMap fP)) op∧Wk base w wr) (fun _ i _=>l.length-(intOf i).toNat)
 case atStart=>
  refine⟨0,by omega,rfl, ?_,HB1.out⟩
  rw[List.take_zero,List.flatMap_nil,List.append_nil]
  exact HS1.out
 case round=>
  obtain⟨k,hk,rfl,hs,hb⟩:=hrel
  have HSR:=hid hs;clear hs
  have HBR:=hid hb;clear hb
  by_cases hlt:k<l.length
  ·obtain⟨x,hx⟩:∃x,l[k]? =some x:=⟨l[k],List.getElem?_eq_getElem _⟩
   obtain⟨ad,rfl,hab,kx⟩:=(HL.out.below HBR.out.low).at_ hx
   have HX:=hid hx
   have HXG:=hid (HG.out x (List.mem_of_getElem? hx))
   clear hx hab
   go_wp2_with fail
   refine(nV x (HR.out.low HBR.out.low h8) HXG.out.2 HSR.out).mono ?_
   rintro e w10 ⟨rfl,hs,hb⟩
   have HSX:=hid hs
   have HBX:=hid (HBR.out.trans hb)
   clear hs hb kx
   go_wp2_with fail
   go_roundw
   case rel=>
    refine⟨k+1,by omega,by go_num, ?_,HBX.out⟩
    have h:=HSX.out
    rw[j_ HXG.out.1 hlim,jm,List.append_assoc,←Kt l k x HX.out]at h
    exact h
   case measure=>simp[intOf];omega
  ·have hkl:k=l.length:=by omega
   subst hkl
   have HSF:=hid (show WrS wr base p lim (dV lim st (le 2 l.length++l.flatMap fP)) op from by have h:=HSR.out;rw[List.take_length]at h;exact h)
   clear HSR
   go_wp2_with fail
   go_end0
   exact⟨rfl,HSF.out,HBR.out⟩
theorem Ey{w:World}{base p c lim:Nat}{st:Option (List UInt8)}{op:List Nat}(q:Qd)(hq:q.ok)(hc:Blk w c 117 #[.pointer (some ⟨p,0,none⟩)])(h:WrS w base p lim st op):
  Calls Tryz.prog 223 #[qdV q,.pointer (some ⟨c,0,none⟩)] w fun e w'=>e= .returned (.tuple #[])∧WrS w' base p lim (dV lim st (kR q)) op∧Wk base w w':=by
 have HS:=hid (h.below ((Below.refl _ _).alloc (Nat.le_refl _) (.cells #[.int .u8 (q.kind:Int),.int .u32 (q.vers:Int),.int .u64 (q.path:Int)] 37)))
 have HB:=hid ((Wk.refl base w).alloc h.le (.cells #[.int .u8 (q.kind:Int),.int .u32 (q.vers:Int),.int .u64 (q.path:Int)] 37))
 have HN:=hid (Blk.new w 37 #[.int .u8 (q.kind:Int),.int .u32 (q.vers:Int),.int .u64 (q.path:Int)])
 have HC:=hid (hc.alloc (.cells #[.int .u8 (q.kind:Int),.int .u32 (q.vers:Int),.int .u64 (q.path:Int)] 37))
 have HQ:=hid hq
 clear h hc hq
 unfold qdV
 go_enter Tryz.func223,Tryz.ntmps223
 go_upto_region 1 with(fail)
 generalize w.alloc (.cells #[.int .u8 (q.kind:Int),.int .u32 (q.vers:Int),.int .u64 (q.path:Int)] 37)=w1 at HS HB HN HC⊢
 have k0:w1.cell? ⟨w.heap.size,0,none⟩=_:=HN.out.cell 0
 have k1:w1.cell? ⟨w.heap.size,1,none⟩=_:=HN.out.cell 1
 have k2:w1.cell? ⟨w.heap.size,2,none⟩=_:=HN.out.cell 2
 have kc:w1.cell? ⟨c,0,none⟩=_:=HC.out.cell 0
 go_wp2_with fail
 refine(nX q HQ.out HS.out).mono ?_
 rintro e w2 ⟨rfl,hs,hb⟩
 have HS2:=hid hs
 have HB2:=hid (HB.out.trans hb);clear hs hb
 go_wp2_with fail
 go_end0
 exact⟨rfl,HS2.out,HB2.out⟩
theorem Ku(l:List Qd)(k:Nat)(x:Qd)(hx:l[k]? =some x):(l.take (k+1)).flatMap kR=(l.take k).flatMap kR++kR x:=by
 rw[List.take_add_one,hx,Option.toList_some,List.flatMap_append,List.flatMap_singleton]
theorem GK:∀(l:List Qd) (k:Nat) (q:Qd),l[k]? =some q→(ng l)[k*3]? =some (.int .u8 (q.kind:Int))∧(ng l)[k*3+1]? =some (.int .u32 (q.vers:Int))∧(ng l)[k*3+2]? =some (.int .u64 (q.path:Int))
 | [],k,q,h=>by simp at h
 |x::l,0,q,h=>by
  simp at h
  subst h
  exact⟨rfl,rfl,rfl⟩
 |x::l,k+1,q,h=>by
  have:=GK l k q (by simpa using h)
  rw[show(k+1)*3=k*3+3 by omega]
  exact this
theorem lX.at_{w:World}{B:Nat}{A:Option Addr}{n c:Nat}{l:List Qd}(h:lX w B (.slice A n c) l){k:Nat}{q:Qd}(hx:l[k]? =some q):∃ad,A=some ad∧ad.block<B∧w.cell? (ad.add (k*3))=some (.int .u8 (q.kind:Int))∧w.cell? ⟨(ad.add (k*3)).block,(ad.add (k*3)).off+1,none⟩=some (.int .u32 (q.vers:Int))∧w.cell? ⟨(ad.add (k*3)).block,(ad.add (k*3)).off+2,none⟩=some (.int .u64 (q.path:Int)):=by
 obtain⟨A',c',e, -, -,hr⟩:=h
 injection e with e1 e2 e3
 subst e1
 have hk:k<l.length:=(List.getElem?_eq_some_iff.1 hx).1
 obtain⟨ad,h1,h2,h3⟩:=hr.2 (by omega)
 have hq:=GK l k q hx
 have e1:(⟨(ad.add (k*3)).block,(ad.add (k*3)).off+1,none⟩:Addr)=ad.add (k*3+1):=by rw[←lU];rfl
 have e2:(⟨(ad.add (k*3)).block,(ad.add (k*3)).off+2,none⟩:Addr)=ad.add (k*3+2):=by rw[←lU];rfl
 exact⟨ad,h1,h2,h3 _ _ hq.1,by rw[e1];exact h3 _ _ hq.2.1,by rw[e2];exact h3 _ _ hq.2.2⟩
theorem wo{w:World}{base p c lim:Nat}{st:Option (List UInt8)}{op:List Nat}(vq:Value)(l:List Qd)(hl:lX w base vq l)(h16:l.length≤65535)(hg:∀x∈l,x.ok)(hc:Blk w c 117 #[.pointer (some ⟨p,0,none⟩)])(h:WrS w base p lim st op):
  Calls Tryz.prog 222 #[.pointer (some ⟨p,0,none⟩),vq,.func (.func 223) #[] #[.pointer (some ⟨c,0,none⟩)]] w fun e w'=>e= .returned (.tuple #[])∧WrS w' base p lim (dV lim st (le 2 l.length++l.flatMap kR)) op∧Wk base w w':=by
 have HL:=hid hl
 obtain⟨A,cp,rfl,hcp,hm, -⟩:=hl
 have HG:=hid hg
 have HC:=hid hc
 have HS:=hid h
 clear hc hg h
 go_enter Tryz.func222,Tryz.ntmps222
 go_wp2_with fail
 refine(lg l.length (by omega) HS.out).mono ?_
 rintro e w1 ⟨rfl,hs,hb⟩
 have HS1:=hid hs
 have HB1:=hid hb
 clear hs hb HS
 go_upto_region 2 with(fail)
 go_loopw [7,15] (fun _ i wr=>∃k:Nat,k≤l.length∧i= .int .i64 k∧WrS wr base p lim (dV lim st (le 2 l.length++(l.take k).flatMap kR)) op∧Wk base w wr) (fun _ i _=>l.length-(intOf i).toNat)
 case atStart=>
  refine⟨0,by omega,rfl, ?_,HB1.out⟩
  rw[List.take_zero,List.flatMap_nil,List.append_nil]
  exact HS1.out
 case round=>
  obtain⟨k,hk,rfl,hs,hb⟩:=hrel
  have HSR:=hid hs;clear hs
  have HBR:=hid hb;clear hb
  by_cases hlt:k<l.length
  ·obtain⟨x,hx⟩:∃x,l[k]? =some x:=⟨l[k],List.getElem?_eq_getElem _⟩
   obtain⟨ad,rfl,hab,kx0,kx1,kx2⟩:=(HL.out.below HBR.out.low).at_ hx
   have HX:=hid hx
   have HXG:=hid (HG.out x (List.mem_of_getElem? hx))
   clear hx hab
   go_upto_region 4 with(fail)
   have HSA:=hid (HSR.out.below ((Below.refl _ _).alloc (Nat.le_refl _) (.cells #[.int .u8 (x.kind:Int),.int .u32 (x.vers:Int),.int .u64 (x.path:Int)] 37)))
   have HBA:=hid (HBR.out.alloc HSR.out.le (.cells #[.int .u8 (x.kind:Int),.int .u32 (x.vers:Int),.int .u64 (x.path:Int)] 37))
   have HN:=hid (Blk.new wr 37 #[.int .u8 (x.kind:Int),.int .u32 (x.vers:Int),.int .u64 (x.path:Int)])
   have HCA:=hid (HBA.out.blk HC.out (by decide) (by decide) (by decide))
   generalize wr.alloc (.cells #[.int .u8 (x.kind:Int),.int .u32 (x.vers:Int),.int .u64 (x.path:Int)] 37)=wa at HSA HBA HN HCA⊢
   clear kx0 kx1 kx2
   generalize wr.heap.size=z at HN⊢
   have k0:wa.cell? ⟨z,0,none⟩=_:=HN.out.cell 0
   have k1:wa.cell? ⟨z,1,none⟩=_:=HN.out.cell 1
   have k2:wa.cell? ⟨z,2,none⟩=_:=HN.out.cell 2
   go_wp2_with fail
   refine(Ey x HXG.out HCA.out HSA.out).mono ?_
   rintro e w10 ⟨rfl,hs,hb⟩
   have HSX:=hid hs
   have HBX:=hid (HBA.out.trans hb)
   clear hs hb k0 k1 k2
   go_wp2_with fail
   go_roundw
   case rel=>
    refine⟨k+1,by omega,by go_num, ?_,HBX.out⟩
    have h:=HSX.out
    rw[jm,List.append_assoc,←Ku l k x HX.out]at h
    exact h
   case measure=>simp[intOf];omega
  ·have hkl:k=l.length:=by omega
   subst hkl
   have HSF:=hid (show WrS wr base p lim (dV lim st (le 2 l.length++l.flatMap kR)) op from by have h:=HSR.out;rw[List.take_length]at h;exact h)
   clear HSR
   go_wp2_with fail
   go_end0
   exact⟨rfl,HSF.out,HBR.out⟩
end Go.Proofs.YtkblmloobkiloaaGreatDoor
