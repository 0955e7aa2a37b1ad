/-
  MUA: what the laws of package msg need of them.
-/
import Derived.Test.YtkblmloobkiloaaGreatDoorF00
import Derived.Test.YtkblmloobkiloaaGreatDoorF23
import Derived.Test.YtkblmloobkiloaaGreatDoorF15
set_option maxRecDepth 100000
set_option maxHeartbeats 3200000
namespace Go.Proofs.YtkblmloobkiloaaGreatDoor
open Go.Lib (hid)
open Go.RowKit
def RwS(w:World)(p:Nat)(s:ByteArray)(st:Except Nat (List UInt8)):Prop:=
 ∃(a:Nat) (b:Bool),Blk w p 106 #[.string s,.int .i64 (a:Int),.bool b]∧a≤s.size∧s.size≤16777216∧st=if b then .error (s.size-a)else .ok (s.data.toList.drop a)
theorem RwS.below{w w':World}{p:Nat}{s:ByteArray}{st:Except Nat (List UInt8)}(h:RwS w p s st)(hb:Below w.heap.size w w'):RwS w' p s st:=by
 obtain⟨a,b,h1,h2⟩:=h
 exact⟨a,b,Blk.below h1 hb (Blk.lt h1),h2⟩
theorem RwS.off{S:Nat→Prop}{w w':World}{p:Nat}{s:ByteArray}{st:Except Nat (List UInt8)}(h:RwS w p s st)(ho:Off S w w')(hp:¬S p):RwS w' p s st:=by
 obtain⟨a,b,h1,h2⟩:=h
 exact⟨a,b,ho.blk h1 hp,h2⟩
theorem RwS.lt{w:World}{p:Nat}{s:ByteArray}{st:Except Nat (List UInt8)}(h:RwS w p s st):p<w.heap.size:=by
 obtain⟨a,b,hb, -⟩:=h
 exact Blk.lt hb
theorem RwS.noT{w:World}{p:Nat}{s:ByteArray}{st:Except Nat (List UInt8)}{e:TypeId}(h:RwS w p s st)(he:106≠e):∀g cur fr,g=p→w.heap[g]? ≠some (Obj.cells cur e fr):=by
 obtain⟨a,b,hb, -⟩:=h
 exact hb.noT he
def Yi(st:Except Nat (List UInt8))(u:ByteArray):Bool:=match st with| .ok l=>u.data.toList.isPrefixOf l| .error _=>false
def Ye(u:ByteArray)(st:Except Nat (List UInt8)):Except Nat (List UInt8):=st >>= dQ u.data.toList
theorem Y3{u:ByteArray}{l:List UInt8}(h:u.data.toList.isPrefixOf l=true):Ye u (.ok l)= .ok (l.drop u.size):=by
 show dQ _ _=_
 unfold dQ
 rw[if_pos h,Array.length_toList]
 rfl
theorem Zk{u:ByteArray}{l:List UInt8}(h:u.data.toList.isPrefixOf l=false):Ye u (.ok l)= .error l.length:=by
 show dQ _ _=_
 unfold dQ
 rw[if_neg (by rw[h];decide)]
theorem Zl(u l:List UInt8)(h:u.length≤l.length):u.isPrefixOf l=(l.take u.length==u):=by
 rw[Bool.eq_iff_iff,List.isPrefixOf_iff_prefix,beq_iff_eq,List.prefix_iff_eq_take]
 exact eq_comm
theorem YM(s:ByteArray)(a n:Nat):(s.extract a (a+n)).data.toList=(s.data.toList.drop a).take n:=by
 simp only[ByteArray.data_extract,Array.toList_extract]
 rw[List.extract_eq_take_drop,Nat.add_sub_cancel_left]
theorem Yh{w:World}{p:Nat}{s:ByteArray}{st:Except Nat (List UInt8)}(u:ByteArray)(hu:u.size≤1000)(h:RwS w p s st):
  Calls Tryz.prog 99 #[.pointer (some ⟨p,0,none⟩),.string u] w fun e w'=>e= .returned (.bool (Yi st u))∧Below w.heap.size w w':=by
 obtain⟨a,b,hb,ha,hz,rfl⟩:=h
 have k0:w.cell? ⟨p,0,none⟩=some (.string s):=hb.cell 0
 have k1:w.cell? ⟨p,1,none⟩=some (.int .i64 (a:Int)):=hb.cell 1
 have k2:w.cell? ⟨p,2,none⟩=some (.bool b):=hb.cell 2
 have j0:w.drew.cell? ⟨p,0,none⟩=some (.string s):=hb.cell 0
 have j1:w.drew.cell? ⟨p,1,none⟩=some (.int .i64 (a:Int)):=hb.cell 1
 have j2:w.drew.cell? ⟨p,2,none⟩=some (.bool b):=hb.cell 2
 clear hb
 go_enter Tryz.func99,Tryz.ntmps99
 go_upto_region 2 with(fail)
 cases b with
 |true=>
  refine wp_region_held_drew (S:=(fun wx=>wx.cell? ⟨p,0,none⟩=some (.string s)∧wx.cell? ⟨p,1,none⟩=some (.int .i64 (a:Int))∧wx.cell? ⟨p,2,none⟩=some (.bool true))) (by kernel_rfl) ⟨k0,k1,k2⟩ (fun hHeld=> ?_)
  have hlt:Below w.heap.size w w.drew:=aC w
  generalize w.drew=wd at hHeld hlt j0 j1 j2⊢
  have HLT:=hid hlt;clear hlt
  refine tk 8 0 (.pointer (some ⟨p,0,none⟩)) ?_
  refine tk 9 1 (.pointer (some ⟨p,0,none⟩)) ?_
  refine tk 10 2 (.pointer (some ⟨p,2,none⟩)) ?_
  refine tk2 11 3 (.bool true) rfl (fun wq hSw=>by have k:=hSw.2.2;go_simp) ?_
  refine tk 12 4 (.bool false) ?_
  refine tk 13 5 (.bool false) ?_
  refine tkU 14 6 ?_
  refine tkU 15 7 ?_
  refine tkU 16 8 ?_
  refine tkU 17 9 ?_
  refine tkU 18 10 ?_
  refine tkU 19 11 ?_
  refine tkU 20 12 ?_
  refine tkU 21 13 ?_
  refine tkU 22 14 ?_
  refine tkU 23 15 ?_
  refine tkU 24 16 ?_
  refine tkU 25 17 ?_
  refine tk 26 18 (.bool false) ?_
  refine tk 27 19 (.bool false) ?_
  refine tkU 28 20 ?_
  refine tkU 29 21 ?_
  refine tkU 30 22 ?_
  refine tkU 31 23 ?_
  refine tkU 32 24 ?_
  refine tkU 33 25 ?_
  refine tkU 34 26 ?_
  refine tkU 35 27 ?_
  refine tkU 36 28 ?_
  refine tkU 37 29 ?_
  refine tkU 38 30 ?_
  refine tkU 39 31 ?_
  refine tkU 40 32 ?_
  refine tkU 41 33 ?_
  refine tkU 42 34 ?_
  refine tkU 43 35 ?_
  refine tkU 44 36 ?_
  refine tk 45 37 (.bool false) ?_
  refine tk 4 38 (.bool false) ?_
  refine wpAnyH_done (by kernel_rfl) ?_ _
  clear hHeld
  go_wp2_with fail
  go_ret
  exact⟨rfl,HLT.out⟩
 |false=>
  by_cases hle:a+u.size≤s.size
  ·have HR:=hid (show((s.extract a (a+u.size)).toList==u.toList)=Yi (.ok (s.data.toList.drop a)) u from by
    show(_==_)=List.isPrefixOf _ _
    rw[Zl _ _ (by rw[List.length_drop,Array.length_toList,Array.length_toList];exact(by show u.size≤s.size-a;omega)),←(show u.data.toList.length=u.size from Array.length_toList ..),←YM]
    rw[ByteArray.toList_eq,ByteArray.toList_eq])
   refine wp_region_held_drew (S:=(fun wx=>wx.cell? ⟨p,0,none⟩=some (.string s)∧wx.cell? ⟨p,1,none⟩=some (.int .i64 (a:Int))∧wx.cell? ⟨p,2,none⟩=some (.bool false))) (by kernel_rfl) ⟨k0,k1,k2⟩ (fun hHeld=> ?_)
   have hlt:Below w.heap.size w w.drew:=aC w
   generalize w.drew=wd at hHeld hlt j0 j1 j2⊢
   have HLT:=hid hlt;clear hlt
   refine tk 8 0 (.pointer (some ⟨p,0,none⟩)) ?_
   refine tk 9 1 (.pointer (some ⟨p,0,none⟩)) ?_
   refine tk 10 2 (.pointer (some ⟨p,2,none⟩)) ?_
   refine tk2 11 3 (.bool false) rfl (fun wq hSw=>by have k:=hSw.2.2;go_simp) ?_
   refine tk 12 4 (.bool true) ?_
   refine tk 13 5 (.bool true) ?_
   refine tk 14 6 (.pointer (some ⟨p,0,none⟩)) ?_
   refine tk 15 7 (.pointer (some ⟨p,0,none⟩)) ?_
   refine tk 16 8 (.pointer (some ⟨p,1,none⟩)) ?_
   refine tk2 17 9 (.int .i64 (a:Int)) rfl (fun wq hSw=>by have k:=hSw.2.1;go_simp) ?_
   refine tk 18 10 (.int .i64 (u.size:Int)) ?_
   refine tk2 19 11 (.int .i64 ((a:Int)+(u.size:Int))) rfl (fun wq hSw=>by go_simp<;>exact IntWalk.i64_in _ (by omega)) ?_
   refine tk 20 12 (.pointer (some ⟨p,0,none⟩)) ?_
   refine tk 21 13 (.pointer (some ⟨p,0,none⟩)) ?_
   refine tk 22 14 (.pointer (some ⟨p,0,none⟩)) ?_
   refine tk2 23 15 (.string s) rfl (fun wq hSw=>by have k:=hSw.1;go_simp) ?_
   refine tk 24 16 (.int .i64 (s.size:Int)) ?_
   refine tk2 25 17 (.bool true) rfl (fun wq hSw=>by go_simp<;>omega) ?_
   refine tk 26 18 (.bool true) ?_
   refine tk 27 19 (.bool true) ?_
   refine tk 28 20 (.pointer (some ⟨p,0,none⟩)) ?_
   refine tk 29 21 (.pointer (some ⟨p,0,none⟩)) ?_
   refine tk 30 22 (.pointer (some ⟨p,0,none⟩)) ?_
   refine tk2 31 23 (.string s) rfl (fun wq hSw=>by have k:=hSw.1;go_simp) ?_
   refine tk 32 24 (.pointer (some ⟨p,0,none⟩)) ?_
   refine tk 33 25 (.pointer (some ⟨p,0,none⟩)) ?_
   refine tk 34 26 (.pointer (some ⟨p,1,none⟩)) ?_
   refine tk2 35 27 (.int .i64 (a:Int)) rfl (fun wq hSw=>by have k:=hSw.2.1;go_simp) ?_
   refine tk 36 28 (.pointer (some ⟨p,0,none⟩)) ?_
   refine tk 37 29 (.pointer (some ⟨p,0,none⟩)) ?_
   refine tk 38 30 (.pointer (some ⟨p,1,none⟩)) ?_
   refine tk2 39 31 (.int .i64 (a:Int)) rfl (fun wq hSw=>by have k:=hSw.2.1;go_simp) ?_
   refine tk 40 32 (.int .i64 (u.size:Int)) ?_
   refine tk2 41 33 (.int .i64 ((a:Int)+(u.size:Int))) rfl (fun wq hSw=>by go_simp<;>exact IntWalk.i64_in _ (by omega)) ?_
   refine tk2 42 34 (.string (s.extract a (a+u.size))) rfl (fun wq hSw=>by go_simp;rw[if_pos ⟨by omega,by omega⟩,if_pos (by omega),show((a:Int)+(u.size:Int)).toNat=a+u.size from by omega]) ?_
   refine tk 43 35 (.string u) ?_
   refine tk 44 36 (.bool ((s.extract a (a+u.size)).toList==u.toList)) ?_
   refine tk 45 37 (.bool ((s.extract a (a+u.size)).toList==u.toList)) ?_
   refine tk 4 38 (.bool ((s.extract a (a+u.size)).toList==u.toList)) ?_
   refine wpAnyH_done (by kernel_rfl) ?_ _
   clear hHeld
   go_wp2_with fail
   go_ret
   exact⟨cZ HR.out,HLT.out⟩
  ·have HR:=hid (show Yi (.ok (s.data.toList.drop a)) u=false from by
    show List.isPrefixOf _ _=false
    refine Bool.eq_false_iff.2 fun h=> ?_
    have h:=(List.isPrefixOf_iff_prefix.1 h).length_le
    rw[List.length_drop,Array.length_toList,Array.length_toList]at h
    have h:u.size≤s.size-a:=h
    omega)
   refine wp_region_held_drew (S:=(fun wx=>wx.cell? ⟨p,0,none⟩=some (.string s)∧wx.cell? ⟨p,1,none⟩=some (.int .i64 (a:Int))∧wx.cell? ⟨p,2,none⟩=some (.bool false))) (by kernel_rfl) ⟨k0,k1,k2⟩ (fun hHeld=> ?_)
   have hlt:Below w.heap.size w w.drew:=aC w
   generalize w.drew=wd at hHeld hlt j0 j1 j2⊢
   have HLT:=hid hlt;clear hlt
   refine tk 8 0 (.pointer (some ⟨p,0,none⟩)) ?_
   refine tk 9 1 (.pointer (some ⟨p,0,none⟩)) ?_
   refine tk 10 2 (.pointer (some ⟨p,2,none⟩)) ?_
   refine tk2 11 3 (.bool false) rfl (fun wq hSw=>by have k:=hSw.2.2;go_simp) ?_
   refine tk 12 4 (.bool true) ?_
   refine tk 13 5 (.bool true) ?_
   refine tk 14 6 (.pointer (some ⟨p,0,none⟩)) ?_
   refine tk 15 7 (.pointer (some ⟨p,0,none⟩)) ?_
   refine tk 16 8 (.pointer (some ⟨p,1,none⟩)) ?_
   refine tk2 17 9 (.int .i64 (a:Int)) rfl (fun wq hSw=>by have k:=hSw.2.1;go_simp) ?_
   refine tk 18 10 (.int .i64 (u.size:Int)) ?_
   refine tk2 19 11 (.int .i64 ((a:Int)+(u.size:Int))) rfl (fun wq hSw=>by go_simp<;>exact IntWalk.i64_in _ (by omega)) ?_
   refine tk 20 12 (.pointer (some ⟨p,0,none⟩)) ?_
   refine tk 21 13 (.pointer (some ⟨p,0,none⟩)) ?_
   refine tk 22 14 (.pointer (some ⟨p,0,none⟩)) ?_
   refine tk2 23 15 (.string s) rfl (fun wq hSw=>by have k:=hSw.1;go_simp) ?_
   refine tk 24 16 (.int .i64 (s.size:Int)) ?_
   refine tk2 25 17 (.bool false) rfl (fun wq hSw=>by go_simp<;>omega) ?_
   refine tk 26 18 (.bool false) ?_
   refine tk 27 19 (.bool false) ?_
   refine tkU 28 20 ?_
   refine tkU 29 21 ?_
   refine tkU 30 22 ?_
   refine tkU 31 23 ?_
   refine tkU 32 24 ?_
   refine tkU 33 25 ?_
   refine tkU 34 26 ?_
   refine tkU 35 27 ?_
   refine tkU 36 28 ?_
   refine tkU 37 29 ?_
   refine tkU 38 30 ?_
   refine tkU 39 31 ?_
   refine tkU 40 32 ?_
   refine tkU 41 33 ?_
   refine tkU 42 34 ?_
   refine tkU 43 35 ?_
   refine tkU 44 36 ?_
   refine tk 45 37 (.bool false) ?_
   refine tk 4 38 (.bool false) ?_
   refine wpAnyH_done (by kernel_rfl) ?_ _
   clear hHeld
   go_wp2_with fail
   go_ret
   exact⟨cZ HR.out.symm,HLT.out⟩
theorem acT{w:World}{p:Nat}{s:ByteArray}{st:Except Nat (List UInt8)}(u:ByteArray)(hu:u.size≤1000)(h:RwS w p s st):
  Calls Tryz.prog 52 #[.pointer (some ⟨p,0,none⟩),.string u] w fun e w'=>e= .returned (.tuple #[])∧RwS w' p s (Ye u st)∧Off (fun i=>i=p) w w':=by
 have HH:=hid (Yh u hu h)
 obtain⟨a,b,hb,ha,hz,rfl⟩:=h
 have HB:=hid hb
 clear hb
 go_enter Tryz.func52,Tryz.ntmps52
 go_wp2_with fail
 refine HH.out.mono ?_
 rintro e w1 ⟨rfl,hb⟩
 have HBK:=hid (Blk.below HB.out hb (Blk.lt HB.out))
 have HO:=hid (Off.of_below (S:=fun i=>i=p) hb)
 clear hb HB HH
 have k1:w1.cell? ⟨p,1,none⟩=some (.int .i64 (a:Int)):=HBK.out.cell 1
 have k2:w1.cell? ⟨p,2,none⟩=some (.bool b):=HBK.out.cell 2
 have z1:w1.frozen? ⟨p,1,none⟩=false:=HBK.out.frozen 1
 have z2:w1.frozen? ⟨p,2,none⟩=false:=HBK.out.frozen 2
 have HOB:=hid ((Off.refl (fun i=>i=p) w1).setCell (p:=⟨p,2,none⟩) rfl (.bool true))
 have HBB:=hid (show∀st,st= .error (s.size-a)→RwS (w1.setCell ⟨p,2,none⟩ (.bool true)) p s st from fun st h=>⟨a,true,HBK.out.aW 2 (.bool true),ha,hz,h⟩)
 cases b with
 |true=>
  rw[show Yi (if true=true then(.error (s.size-a))else .ok (s.data.toList.drop a)) u=false from rfl]
  go_wp2_with fail
  exact bodyPost_ret (v:= .tuple #[]) (by simp[results,Tryz.results52]) rfl ⟨rfl,HBB.out _ rfl,HO.out.trans HOB.out⟩
 |false=>
  cases hp:u.data.toList.isPrefixOf (s.data.toList.drop a)with
  |true=>
   have hlen:a+u.size≤s.size:=by
    have h:=(List.isPrefixOf_iff_prefix.1 hp).length_le
    rw[List.length_drop,Array.length_toList,Array.length_toList]at h
    have h:u.size≤s.size-a:=h
    omega
   have HW:=hid (show Ye u (.ok (s.data.toList.drop a))= .ok (s.data.toList.drop (a+u.size))from by rw[Y3 hp,List.drop_drop])
   have HO1:=hid ((Off.refl (fun i=>i=p) w1).setCell (p:=⟨p,1,none⟩) rfl (.int .i64 ((a:Int)+(u.size:Int))))
   have HR:=hid (show RwS (w1.setCell ⟨p,1,none⟩ (.int .i64 ((a:Int)+(u.size:Int)))) p s (Ye u (.ok (s.data.toList.drop a)))from⟨a+u.size,false,by
    have h:=HBK.out.aW 1 (.int .i64 ((a:Int)+(u.size:Int)))
    rw[show((a+u.size:Nat):Int)=(a:Int)+(u.size:Int)from by omega]
    exact h,hlen,hz,HW.out⟩)
   have HH2:=hid (show Yi (.ok (s.data.toList.drop a)) u=true from hp)
   rw[show Yi (if false=true then(.error (s.size-a))else .ok (s.data.toList.drop a)) u=true from HH2.out]
   clear hp
   go_wp2_with fail
   go_end0
   exact⟨rfl,HR.out,HO.out.trans HO1.out⟩
  |false=>
   have HW:=hid (show Ye u (.ok (s.data.toList.drop a))= .error (s.size-a)from by rw[Zk hp,List.length_drop,Array.length_toList];rfl)
   rw[show Yi (if false=true then(.error (s.size-a))else .ok (s.data.toList.drop a)) u=false from hp]
   clear hp
   go_wp2_with fail
   exact bodyPost_ret (v:= .tuple #[]) (by simp[results,Tryz.results52]) rfl ⟨rfl,HBB.out _ HW.out,HO.out.trans HOB.out⟩
def YE(hx:Bool)(c:UInt8):Bool:=if hx then dG c else iT c
def Ya(b:Bool)(v:Nat):Ending:= .returned (.tuple #[.int .u8 ((if b=true then v else 0:Nat):Int),.bool b])
theorem Yx(hx:Bool)(c:UInt8)(w:World):Calls Tryz.prog 182 #[.int .u8 (c.toNat:Int),.int .i64 (if hx then 16 else 10)] w fun e w'=>e=Ya (YE hx c) (hexV c)∧w=w':=by
 have HD:=hid (show iT c=(decide (48≤c.toNat)&&decide (c.toNat≤57))from rfl)
 have HE:=hid (show dG c=((decide (48≤c.toNat)&&decide (c.toNat≤57))||(decide (97≤c.toNat)&&decide (c.toNat≤102)))from rfl)
 have HV:=hid (show hexV c=if c.toNat<58 then c.toNat-48 else c.toNat-87 from rfl)
 unfold YE
 generalize iT c=bd at*
 generalize dG c=bh at*
 generalize hexV c=hv at*
 have hlt:=c.toNat_lt
 generalize c.toNat=n at*
 have HB:=hid (show(48≤n∧n≤57∧bd=true∧bh=true∧hv=n-48)∨(n<48∧bd=false∧bh=false)∨(57<n∧n<97∧bd=false∧bh=false)∨(97≤n∧n≤102∧bd=false∧bh=true∧hv=n-87)∨(102<n∧bd=false∧bh=false)from by
  rw[HD.out,HE.out,HV.out]
  simp only[Bool.and_eq_true,Bool.or_eq_true,decide_eq_true_eq,Bool.or_eq_false_iff,Bool.and_eq_false_iff,decide_eq_false_iff_not]
  split<;>omega)
 have hn:(n:Int)<256:=by omega
 clear HD HE HV hlt
 rcases HB.out with⟨a1,a2,e1,e2,e3⟩|⟨a1,e1,e2⟩|⟨a1,a2,e1,e2⟩|⟨a1,a2,e1,e2,e3⟩|⟨a1,e1,e2⟩
 ·have g1:(48:Int)≤(n:Int):=by omega
  have g2:(n:Int)≤57:=by omega
  have qm:=hid (show Ending.returned (.tuple #[.int .u8 ((n:Int)-48),.bool true])=Ya (if hx=true then bh else bd) hv from by
   unfold Ya
   rw[e1,e2,e3,ite_self,if_pos rfl,show((n-48:Nat):Int)=(n:Int)-48 from by omega])
  clear a1 a2 e1 e2 e3 HB
  cases hx
  ·change Calls Tryz.prog 182 #[.int .u8 (n:Int),.int .i64 10] w _
   go_enter Tryz.func182,Tryz.ntmps182
   go_wp2_with fail
   exact bodyPost_ret (v:= .tuple #[.int .u8 ((n:Int)-48),.bool true]) (by simp[results,Tryz.results182]) rfl ⟨qm.out,rfl⟩
  ·change Calls Tryz.prog 182 #[.int .u8 (n:Int),.int .i64 16] w _
   go_enter Tryz.func182,Tryz.ntmps182
   go_wp2_with fail
   exact bodyPost_ret (v:= .tuple #[.int .u8 ((n:Int)-48),.bool true]) (by simp[results,Tryz.results182]) rfl ⟨qm.out,rfl⟩
 ·have g1:¬(48:Int)≤(n:Int):=by omega
  have g3:¬(97:Int)≤(n:Int):=by omega
  have qm:=hid (show Ending.returned (.tuple #[.int .u8 (0:Int),.bool false])=Ya (if hx=true then bh else bd) hv from by
   unfold Ya
   rw[e1,e2,ite_self]
   rfl)
  clear a1 e1 e2 HB
  cases hx
  ·change Calls Tryz.prog 182 #[.int .u8 (n:Int),.int .i64 10] w _
   go_enter Tryz.func182,Tryz.ntmps182
   go_wp2_with fail
   exact bodyPost_ret (v:= .tuple #[.int .u8 (0),.bool false]) (by simp[results,Tryz.results182]) rfl ⟨qm.out,rfl⟩
  ·change Calls Tryz.prog 182 #[.int .u8 (n:Int),.int .i64 16] w _
   go_enter Tryz.func182,Tryz.ntmps182
   go_wp2_with fail
   exact bodyPost_ret (v:= .tuple #[.int .u8 (0),.bool false]) (by simp[results,Tryz.results182]) rfl ⟨qm.out,rfl⟩
 ·have g1:(48:Int)≤(n:Int):=by omega
  have g2:¬(n:Int)≤57:=by omega
  have g3:¬(97:Int)≤(n:Int):=by omega
  have qm:=hid (show Ending.returned (.tuple #[.int .u8 (0:Int),.bool false])=Ya (if hx=true then bh else bd) hv from by
   unfold Ya
   rw[e1,e2,ite_self]
   rfl)
  clear a1 a2 e1 e2 HB
  cases hx
  ·change Calls Tryz.prog 182 #[.int .u8 (n:Int),.int .i64 10] w _
   go_enter Tryz.func182,Tryz.ntmps182
   go_wp2_with fail
   exact bodyPost_ret (v:= .tuple #[.int .u8 (0),.bool false]) (by simp[results,Tryz.results182]) rfl ⟨qm.out,rfl⟩
  ·change Calls Tryz.prog 182 #[.int .u8 (n:Int),.int .i64 16] w _
   go_enter Tryz.func182,Tryz.ntmps182
   go_wp2_with fail
   exact bodyPost_ret (v:= .tuple #[.int .u8 (0),.bool false]) (by simp[results,Tryz.results182]) rfl ⟨qm.out,rfl⟩
 ·have g1:(48:Int)≤(n:Int):=by omega
  have g2:¬(n:Int)≤57:=by omega
  have g3:(97:Int)≤(n:Int):=by omega
  have g4:(n:Int)≤102:=by omega
  have HRA:=hid (show∀v:Int,v=(n:Int)-87→Ending.returned (.tuple #[.int .u8 v,.bool true])=Ya bh hv from fun v h=>by
   unfold Ya
   rw[e2,e3,if_pos rfl,h,show((n-87:Nat):Int)=(n:Int)-87 from by omega])
  have qm:=hid (show Ending.returned (.tuple #[.int .u8 (0:Int),.bool false])=Ya bd hv from by
   unfold Ya
   rw[e1]
   rfl)
  clear a1 a2 e1 e2 e3 HB
  cases hx
  ·change Calls Tryz.prog 182 #[.int .u8 (n:Int),.int .i64 10] w _
   go_enter Tryz.func182,Tryz.ntmps182
   go_wp2_with fail
   exact bodyPost_ret (v:= .tuple #[.int .u8 (0),.bool false]) (by simp[results,Tryz.results182]) rfl ⟨qm.out,rfl⟩
  ·clear qm
   change Calls Tryz.prog 182 #[.int .u8 (n:Int),.int .i64 16] w _
   go_enter Tryz.func182,Tryz.ntmps182
   go_wp2_with fail
   exact bodyPost_ret (v:= .tuple #[.int .u8 ((n:Int)-97+10),.bool true]) (by simp[results,Tryz.results182]) rfl ⟨HRA.out _ (by omega),rfl⟩
 ·have g1:(48:Int)≤(n:Int):=by omega
  have g2:¬(n:Int)≤57:=by omega
  have g3:(97:Int)≤(n:Int):=by omega
  have g4:¬(n:Int)≤102:=by omega
  have qm:=hid (show Ending.returned (.tuple #[.int .u8 (0:Int),.bool false])=Ya (if hx=true then bh else bd) hv from by
   unfold Ya
   rw[e1,e2,ite_self]
   rfl)
  clear a1 e1 e2 HB
  cases hx
  ·change Calls Tryz.prog 182 #[.int .u8 (n:Int),.int .i64 10] w _
   go_enter Tryz.func182,Tryz.ntmps182
   go_wp2_with fail
   exact bodyPost_ret (v:= .tuple #[.int .u8 (0),.bool false]) (by simp[results,Tryz.results182]) rfl ⟨qm.out,rfl⟩
  ·change Calls Tryz.prog 182 #[.int .u8 (n:Int),.int .i64 16] w _
   go_enter Tryz.func182,Tryz.ntmps182
   go_wp2_with fail
   exact bodyPost_ret (v:= .tuple #[.int .u8 (0),.bool false]) (by simp[results,Tryz.results182]) rfl ⟨qm.out,rfl⟩
end Go.Proofs.YtkblmloobkiloaaGreatDoor
