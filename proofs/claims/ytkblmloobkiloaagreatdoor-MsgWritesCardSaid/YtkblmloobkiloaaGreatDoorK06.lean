/-
  MK ME MR2 MR3 MR4 MR5 MR6 MRL: what the laws of package msg need of them.
-/
import Derived.Test.YtkblmloobkiloaaGreatDoorK00
import Derived.Test.YtkblmloobkiloaaGreatDoorK05
import Derived.WalkKit
import Derived.ProofKit
import Derived.OpenShut
import Derived.Lib.Hide
import Derived.LoopTactic
import Derived.Deep.Light
import Derived.Deep.RegionHeld3
import Derived.Test.YtkblmloobkiloaaGreatDoorK02
set_option maxRecDepth 100000
set_option maxHeartbeats 6400000
namespace Go.Proofs.YtkblmloobkiloaaGreatDoor
open Go.Lib (hid)
open Go.ChangeShapes Go.WideShapes Go.ChangeAt Go.RowKit
def iR:List (Int×List UInt8×List Int):=[
 (100,[84,118,101,114,115,105,111,110],[0,1]),
 (101,[82,118,101,114,115,105,111,110],[0,1]),
 (102,[84,97,117,116,104],[2,3,4]),
 (103,[82,97,117,116,104],[11]),
 (104,[84,97,116,116,97,99,104],[7,2,3,4]),
 (105,[82,97,116,116,97,99,104],[11]),
 (107,[82,101,114,114,111,114],[5]),
 (108,[84,102,108,117,115,104],[6]),
 (109,[82,102,108,117,115,104],[]),
 (110,[84,119,97,108,107],[7,8,9]),
 (111,[82,119,97,108,107],[10]),
 (112,[84,111,112,101,110],[7,12]),
 (113,[82,111,112,101,110],[11,13]),
 (114,[84,99,114,101,97,116,101],[7,14,15,12]),
 (115,[82,99,114,101,97,116,101],[11,13]),
 (116,[84,114,101,97,100],[7,16,17]),
 (117,[82,114,101,97,100],[18]),
 (118,[84,119,114,105,116,101],[7,16,18]),
 (119,[82,119,114,105,116,101],[17]),
 (120,[84,99,108,117,110,107],[7]),
 (121,[82,99,108,117,110,107],[]),
 (122,[84,114,101,109,111,118,101],[7]),
 (123,[82,114,101,109,111,118,101],[]),
 (124,[84,115,116,97,116],[7]),
 (125,[82,115,116,97,116],[19]),
 (126,[84,119,115,116,97,116],[7,19]),
 (127,[82,119,115,116,97,116],[])]
def kindCells(n:Nat):Array Value:= #[
  .int .u8 100,.string ⟨#[84,118,101,114,115,105,111,110]⟩,.slice (some ⟨n+0,0,none⟩) 2 2,
  .int .u8 101,.string ⟨#[82,118,101,114,115,105,111,110]⟩,.slice (some ⟨n+1,0,none⟩) 2 2,
  .int .u8 102,.string ⟨#[84,97,117,116,104]⟩,.slice (some ⟨n+2,0,none⟩) 3 3,
  .int .u8 103,.string ⟨#[82,97,117,116,104]⟩,.slice (some ⟨n+3,0,none⟩) 1 1,
  .int .u8 104,.string ⟨#[84,97,116,116,97,99,104]⟩,.slice (some ⟨n+4,0,none⟩) 4 4,
  .int .u8 105,.string ⟨#[82,97,116,116,97,99,104]⟩,.slice (some ⟨n+5,0,none⟩) 1 1,
  .int .u8 107,.string ⟨#[82,101,114,114,111,114]⟩,.slice (some ⟨n+6,0,none⟩) 1 1,
  .int .u8 108,.string ⟨#[84,102,108,117,115,104]⟩,.slice (some ⟨n+7,0,none⟩) 1 1,
  .int .u8 109,.string ⟨#[82,102,108,117,115,104]⟩,.slice none 0 0,
  .int .u8 110,.string ⟨#[84,119,97,108,107]⟩,.slice (some ⟨n+8,0,none⟩) 3 3,
  .int .u8 111,.string ⟨#[82,119,97,108,107]⟩,.slice (some ⟨n+9,0,none⟩) 1 1,
  .int .u8 112,.string ⟨#[84,111,112,101,110]⟩,.slice (some ⟨n+10,0,none⟩) 2 2,
  .int .u8 113,.string ⟨#[82,111,112,101,110]⟩,.slice (some ⟨n+11,0,none⟩) 2 2,
  .int .u8 114,.string ⟨#[84,99,114,101,97,116,101]⟩,.slice (some ⟨n+12,0,none⟩) 4 4,
  .int .u8 115,.string ⟨#[82,99,114,101,97,116,101]⟩,.slice (some ⟨n+13,0,none⟩) 2 2,
  .int .u8 116,.string ⟨#[84,114,101,97,100]⟩,.slice (some ⟨n+14,0,none⟩) 3 3,
  .int .u8 117,.string ⟨#[82,114,101,97,100]⟩,.slice (some ⟨n+15,0,none⟩) 1 1,
  .int .u8 118,.string ⟨#[84,119,114,105,116,101]⟩,.slice (some ⟨n+16,0,none⟩) 3 3,
  .int .u8 119,.string ⟨#[82,119,114,105,116,101]⟩,.slice (some ⟨n+17,0,none⟩) 1 1,
  .int .u8 120,.string ⟨#[84,99,108,117,110,107]⟩,.slice (some ⟨n+18,0,none⟩) 1 1,
  .int .u8 121,.string ⟨#[82,99,108,117,110,107]⟩,.slice none 0 0,
  .int .u8 122,.string ⟨#[84,114,101,109,111,118,101]⟩,.slice (some ⟨n+19,0,none⟩) 1 1,
  .int .u8 123,.string ⟨#[82,114,101,109,111,118,101]⟩,.slice none 0 0,
  .int .u8 124,.string ⟨#[84,115,116,97,116]⟩,.slice (some ⟨n+20,0,none⟩) 1 1,
  .int .u8 125,.string ⟨#[82,115,116,97,116]⟩,.slice (some ⟨n+21,0,none⟩) 1 1,
  .int .u8 126,.string ⟨#[84,119,115,116,97,116]⟩,.slice (some ⟨n+22,0,none⟩) 2 2,
  .int .u8 127,.string ⟨#[82,119,115,116,97,116]⟩,.slice none 0 0]
def ig(n:Nat):List Obj:=[
 .cells #[.int .u8 0,.int .u8 1] 82,
 .cells #[.int .u8 0,.int .u8 1] 82,
 .cells #[.int .u8 2,.int .u8 3,.int .u8 4] 82,
 .cells #[.int .u8 11] 82,
 .cells #[.int .u8 7,.int .u8 2,.int .u8 3,.int .u8 4] 82,
 .cells #[.int .u8 11] 82,
 .cells #[.int .u8 5] 82,
 .cells #[.int .u8 6] 82,
 .cells #[.int .u8 7,.int .u8 8,.int .u8 9] 82,
 .cells #[.int .u8 10] 82,
 .cells #[.int .u8 7,.int .u8 12] 82,
 .cells #[.int .u8 11,.int .u8 13] 82,
 .cells #[.int .u8 7,.int .u8 14,.int .u8 15,.int .u8 12] 82,
 .cells #[.int .u8 11,.int .u8 13] 82,
 .cells #[.int .u8 7,.int .u8 16,.int .u8 17] 82,
 .cells #[.int .u8 18] 82,
 .cells #[.int .u8 7,.int .u8 16,.int .u8 18] 82,
 .cells #[.int .u8 17] 82,
 .cells #[.int .u8 7] 82,
 .cells #[.int .u8 7] 82,
 .cells #[.int .u8 7] 82,
 .cells #[.int .u8 19] 82,
 .cells #[.int .u8 7,.int .u8 19] 82,
 .cells (kindCells n) 79]
theorem oZ(os:List Obj):∀(w:World) (i:Nat) (o:Obj),os[i]? =some o→(os.foldl World.alloc w).heap[w.heap.size+i]? =some o:=by
 have keep:∀(os:List Obj) (w:World) (k:Nat) (o:Obj),w.heap[k]? =some o→(os.foldl World.alloc w).heap[k]? =some o:=by
  intro os
  induction os with
  |nil=>exact fun _ _ _ h=>h
  |cons x os ih=>
   intro w k o h
   refine ih _ k o ?_
   have hk:k<w.heap.size:=by
    rcases Nat.lt_or_ge k w.heap.size with hlt|hge
    ·exact hlt
    ·rw[Array.getElem?_eq_none hge]at h;cases h
   exact(Below.heap_alloc w x k hk).trans h
 induction os with
 |nil=>intro w i o h;simp at h
 |cons x os ih=>
  intro w i o h
  cases i with
  |zero=>
   rw[List.getElem?_cons_zero]at h
   obtain rfl:=Option.some.inj h
   exact keep os _ _ _ (heap_alloc_new w _)
  |succ i=>
   rw[List.getElem?_cons_succ]at h
   have:=ih (w.alloc x) i o h
   rw[World.size_alloc]at this
   rw[List.foldl_cons,show w.heap.size+(i+1)=w.heap.size+1+i from by omega]
   exact this
theorem mO(os:List Obj):∀(w:World),Below w.heap.size w (os.foldl World.alloc w):=by
 induction os with
 |nil=>exact fun w=>Below.refl _ _
 |cons x os ih=>
  intro w
  exact((Below.refl _ _).alloc (Nat.le_refl _) x).trans ((ih (w.alloc x)).mono (by simp))
theorem nJ(os:List Obj):∀(w:World),(os.foldl World.alloc w).heap.size=w.heap.size+os.length:=by
 induction os with
 |nil=>exact fun w=>rfl
 |cons x os ih=>
  intro w
  rw[List.foldl_cons,ih,World.size_alloc,List.length_cons];omega
theorem t_(w:World):Calls Tryz.prog 70 #[] w fun e w'=>
  e= .returned (.slice (some ⟨w.heap.size+23,0,none⟩) 27 27)∧(ig w.heap.size).foldl World.alloc w=w':=by
 go_enter Tryz.func70,Tryz.ntmps70
 go_wp2
 go_ret
 exact⟨rfl,rfl⟩
structure jd(w:World)(n:Nat):Prop where
 blk:Blk w (n+23) 79 (kindCells n)
 lists:∀i o,(ig n)[i]? =some o→w.heap[n+i]? =some o
theorem uf(w:World):jd ((ig w.heap.size).foldl World.alloc w) w.heap.size:=
 ⟨oZ _ w 23 _ rfl,fun i o h=>oZ _ w i o h⟩
theorem jd.below{w w':World}{n B:Nat}(h:jd w n)(hb:Below B w w')(hB:n+24≤B):jd w' n:=
 ⟨(hb.block _ (by omega)).trans h.blk,fun i o ho=>(hb.block _ (by
  have:=(List.getElem?_eq_some_iff.1 ho).1
  have hl:(ig n).length=24:=rfl
  omega)).trans (h.lists i o ho)⟩
theorem o7(n r:Nat)(hr:r<27):(kindCells n)[r*3]? =some (.int .u8 (iR.getD r (0,[],[])).1):=by
 match r,hr with
 |0,_=>rfl
 |1,_=>rfl
 |2,_=>rfl
 |3,_=>rfl
 |4,_=>rfl
 |5,_=>rfl
 |6,_=>rfl
 |7,_=>rfl
 |8,_=>rfl
 |9,_=>rfl
 |10,_=>rfl
 |11,_=>rfl
 |12,_=>rfl
 |13,_=>rfl
 |14,_=>rfl
 |15,_=>rfl
 |16,_=>rfl
 |17,_=>rfl
 |18,_=>rfl
 |19,_=>rfl
 |20,_=>rfl
 |21,_=>rfl
 |22,_=>rfl
 |23,_=>rfl
 |24,_=>rfl
 |25,_=>rfl
 |26,_=>rfl
 |r+27,h=>exact absurd h (by omega)
theorem o8(n r:Nat)(hr:r<27):(kindCells n)[r*3+1]? =some (.string ⟨(iR.getD r (0,[],[])).2.1.toArray⟩):=by
 match r,hr with
 |0,_=>rfl
 |1,_=>rfl
 |2,_=>rfl
 |3,_=>rfl
 |4,_=>rfl
 |5,_=>rfl
 |6,_=>rfl
 |7,_=>rfl
 |8,_=>rfl
 |9,_=>rfl
 |10,_=>rfl
 |11,_=>rfl
 |12,_=>rfl
 |13,_=>rfl
 |14,_=>rfl
 |15,_=>rfl
 |16,_=>rfl
 |17,_=>rfl
 |18,_=>rfl
 |19,_=>rfl
 |20,_=>rfl
 |21,_=>rfl
 |22,_=>rfl
 |23,_=>rfl
 |24,_=>rfl
 |25,_=>rfl
 |26,_=>rfl
 |r+27,h=>exact absurd h (by omega)
def mP(n r:Nat):Value:=(kindCells n).getD (r*3+2) undef
theorem nK(n r:Nat)(hr:r<27):(kindCells n)[r*3+2]? =some (mP n r):=by
 match r,hr with
 |0,_=>rfl
 |1,_=>rfl
 |2,_=>rfl
 |3,_=>rfl
 |4,_=>rfl
 |5,_=>rfl
 |6,_=>rfl
 |7,_=>rfl
 |8,_=>rfl
 |9,_=>rfl
 |10,_=>rfl
 |11,_=>rfl
 |12,_=>rfl
 |13,_=>rfl
 |14,_=>rfl
 |15,_=>rfl
 |16,_=>rfl
 |17,_=>rfl
 |18,_=>rfl
 |19,_=>rfl
 |20,_=>rfl
 |21,_=>rfl
 |22,_=>rfl
 |23,_=>rfl
 |24,_=>rfl
 |25,_=>rfl
 |26,_=>rfl
 |r+27,h=>exact absurd h (by omega)
theorem qF(n r:Nat)(hr:r<27):∃a l c,mP n r= .slice a l c:=by
 match r,hr with
 |0,_=>exact⟨_,_,_,rfl⟩
 |1,_=>exact⟨_,_,_,rfl⟩
 |2,_=>exact⟨_,_,_,rfl⟩
 |3,_=>exact⟨_,_,_,rfl⟩
 |4,_=>exact⟨_,_,_,rfl⟩
 |5,_=>exact⟨_,_,_,rfl⟩
 |6,_=>exact⟨_,_,_,rfl⟩
 |7,_=>exact⟨_,_,_,rfl⟩
 |8,_=>exact⟨_,_,_,rfl⟩
 |9,_=>exact⟨_,_,_,rfl⟩
 |10,_=>exact⟨_,_,_,rfl⟩
 |11,_=>exact⟨_,_,_,rfl⟩
 |12,_=>exact⟨_,_,_,rfl⟩
 |13,_=>exact⟨_,_,_,rfl⟩
 |14,_=>exact⟨_,_,_,rfl⟩
 |15,_=>exact⟨_,_,_,rfl⟩
 |16,_=>exact⟨_,_,_,rfl⟩
 |17,_=>exact⟨_,_,_,rfl⟩
 |18,_=>exact⟨_,_,_,rfl⟩
 |19,_=>exact⟨_,_,_,rfl⟩
 |20,_=>exact⟨_,_,_,rfl⟩
 |21,_=>exact⟨_,_,_,rfl⟩
 |22,_=>exact⟨_,_,_,rfl⟩
 |23,_=>exact⟨_,_,_,rfl⟩
 |24,_=>exact⟨_,_,_,rfl⟩
 |25,_=>exact⟨_,_,_,rfl⟩
 |26,_=>exact⟨_,_,_,rfl⟩
 |r+27,h=>exact absurd h (by omega)
def oL(k:Int):Nat:=iR.findIdx (fun x=>x.1==k)
def iq(r:Nat):Int:=(iR.getD r (0,[],[])).1
def nameAt(r:Nat):ByteArray:=⟨(iR.getD r (0,[],[])).2.1.toArray⟩
theorem IK(k:Int)(r:Nat)(hr:r<27)(h:iq r=k)(hno:∀q,q<r→iq q≠k):oL k=r:=by
 have hl:r<iR.length:=hr
 have hat:∀q (hq:q<iR.length),iq q=iR[q].1:=fun q hq=>by
  unfold iq;rw[List.getD_eq_getElem?_getD,List.getElem?_eq_getElem hq];rfl
 unfold oL
 rw[List.findIdx_eq hl]
 refine⟨by rw[←hat r hl,h];exact beq_self_eq_true k,fun q hq=> ?_⟩
 have:=hno q hq
 rw[hat q (Nat.lt_trans hq hl)]at this
 simpa using this
theorem EG(k:Int)(hno:∀q,q<27→iq q≠k):oL k=27:=by
 have hat:∀q (hq:q<iR.length),iq q=iR[q].1:=fun q hq=>by
  unfold iq;rw[List.getD_eq_getElem?_getD,List.getElem?_eq_getElem hq];rfl
 unfold oL
 rw[show(27:Nat)=iR.length from rfl,List.findIdx_eq_length]
 intro x hx
 obtain⟨q,hq,rfl⟩:=List.mem_iff_getElem.1 hx
 have:=hno q hq
 rw[hat q hq]at this
 simpa using this
def PW(k:Int)(w:World)(e:Ending)(w':World):Prop:=
 Below w.heap.size w w'∧∃n,w.heap.size≤n∧n+24≤w'.heap.size∧jd w' n∧
  ((oL k<27∧e= .returned (.tuple #[.agg #[.int .u8 (iq (oL k)),.string (nameAt (oL k)),mP n (oL k)],.bool true]))∨
   (oL k=27∧e= .returned (.tuple #[.agg #[.int .u8 0,.string ⟨#[]⟩,.slice none 0 0],.bool false])))
theorem jd.keep{w w':World}{n:Nat}(h:jd w n)(hk:∀k,n≤k→k<n+24→w'.heap[k]? =w.heap[k]?):jd w' n:=
 ⟨(hk _ (by omega) (by omega)).trans h.blk,fun i o ho=>(hk _ (by omega) (by
  have:=(List.getElem?_eq_some_iff.1 ho).1
  have hl:(ig n).length=24:=rfl
  omega)).trans (h.lists i o ho)⟩
theorem jd.aW{w:World}{n:Nat}(h:jd w n){p:Addr}(hp:p.block<n)(u:Value):jd (w.setCell p u) n:=
 h.keep fun k hk _=>Below.heap_setCell w p u k (by omega)
theorem jd.alloc{w:World}{n:Nat}(h:jd w n)(hn:n+24≤w.heap.size)(o:Obj):jd (w.alloc o) n:=
 h.keep fun k _ hk=>Below.heap_alloc w o k (by omega)
theorem ug(k:Int)(w:World):Calls Tryz.prog 43 #[.int .u8 k] w (PW k w):=by
 go_enter Tryz.func43,Tryz.ntmps43
 go_wp2_with(go_at_call 70;refine(t_ _).mono ?_;rintro e w' ⟨rfl,rfl⟩)
 have hk0:=uf (w.alloc (Obj.cells #[Value.int IntKind.u8 0,Value.string {data:= #[]},Value.slice none 0 0] 79))
 have hb0:=mO (ig (w.heap.size+1)) (w.alloc (Obj.cells #[Value.int IntKind.u8 0,Value.string {data:= #[]},Value.slice none 0 0] 79))
 have hz0:=nJ (ig (w.heap.size+1)) (w.alloc (Obj.cells #[Value.int IntKind.u8 0,Value.string {data:= #[]},Value.slice none 0 0] 79))
 have hr0:Blk (List.foldl World.alloc (w.alloc (Obj.cells #[Value.int IntKind.u8 0,Value.string {data:= #[]},Value.slice none 0 0] 79)) (ig (w.heap.size+1))) w.heap.size 79 #[Value.int IntKind.u8 0,Value.string {data:= #[]},Value.slice none 0 0]:=(hb0.block _ (by simp)).trans (Blk.new _ _ _)
 rw[World.size_alloc]at hk0 hb0 hz0
 have hb1:Below w.heap.size w (List.foldl World.alloc (w.alloc (Obj.cells #[Value.int IntKind.u8 0,Value.string {data:= #[]},Value.slice none 0 0] 79)) (ig (w.heap.size+1))):=((Below.refl _ _).alloc (Nat.le_refl _) _).trans (hb0.mono (by omega))
 generalize List.foldl World.alloc (w.alloc (Obj.cells #[Value.int IntKind.u8 0,Value.string {data:= #[]},Value.slice none 0 0] 79)) (ig (w.heap.size+1))=w0 at hk0 hb0 hz0 hr0 hb1⊢
 have hz1:(ig (w.heap.size+1)).length=24:=rfl
 rw[hz1]at hz0
 clear hz1 hb0
 have HK0:=hid hk0;clear hk0
 have HR0:=hid hr0;clear hr0
 have HB1:=hid hb1;clear hb1
 have HZ0:=hid hz0;clear hz0
 generalize hg:w.heap.size+1+23=g
 have HG:=hid hg;clear hg
 go_loopw [8] (fun i wr=>∃r:Nat,r≤27∧i= .int .i64 r∧Below w0.heap.size w0 wr∧∀q,q<r→iq q≠k) (fun i _=>27-(intOf i).toNat)
 case atStart=>exact⟨0,by omega,rfl,Below.refl _ _,fun q hq=>absurd hq (Nat.not_lt_zero q)⟩
 case round=>
  obtain⟨r,hr,rfl,hb,hno⟩:=hrel
  have HNO:=hid hno;clear hno
  have HB:=hid hb;clear hb
  by_cases hlt:r<27
  ·have HK:=hid (HK0.out.below HB.out (by rw[HZ0.out];exact Nat.le_refl _))
   have HR:=hid (HR0.out.below HB.out (by rw[HZ0.out];omega))
   have c0:wr.cell? ⟨g,r*3,none⟩=some (.int .u8 (iq r)):=by rw[←HG.out,HK.out.blk.cell,o7 _ r hlt];rfl
   have c1:wr.cell? ⟨g,r*3+1,none⟩=some (.string (nameAt r)):=by rw[←HG.out,HK.out.blk.cell,o8 _ r hlt];rfl
   have c2:wr.cell? ⟨g,r*3+2,none⟩=some (mP (w.heap.size+1) r):=by rw[←HG.out,HK.out.blk.cell,nK _ r hlt]
   obtain⟨fa,fl,fc,hfv⟩:=qF (w.heap.size+1) r hlt
   rw[hfv]at c2
   have HFV:=hid hfv;clear hfv
   have hgl:g<wr.heap.size:=by have:=HB.out.size;have:=HZ0.out;have:=HG.out;omega
   have hwl:w.heap.size<wr.heap.size:=by have:=HB.out.size;have:=HZ0.out;omega
   have d0:wr.cell? ⟨w.heap.size,0,none⟩=some (.int .u8 0):=HR.out.cell 0
   have d1:wr.cell? ⟨w.heap.size,1,none⟩=some (.string ⟨#[]⟩):=HR.out.cell 1
   have d2:wr.cell? ⟨w.heap.size,2,none⟩=some (.slice none 0 0):=HR.out.cell 2
   have f0:=HR.out.frozen 0
   have f1:=HR.out.frozen 1
   have f2:=HR.out.frozen 2
   by_cases he:iq r=k
   ·have hix:=IK k r hlt he HNO.out
    have HIX:=hid hix;clear hix
    have hbe:(iq r==k)=true:=by simpa using he
    have HE:=hid he;clear he
    go_wp2_with fail
    refine bodyPost_ret (v:= .tuple #[.agg #[.int .u8 (iq r),.string (nameAt r),.slice fa fl fc],.bool true]) (by simp[results,Tryz.results43,go_sem,d0,d1,d2,hwl]) rfl ?_
    have hsz:=HB.out.size
    have hz0:=HZ0.out
    refine⟨HB1.out.trans (((((HB.out.mono (B':=w.heap.size) (by omega)).setCell (Nat.le_refl _) _).setCell (Nat.le_refl _) _).setCell (Nat.le_refl _) _).alloc (by simp;omega) _),w.heap.size+1,by omega,by simp;omega, ?_,.inl ⟨by rw[HIX.out];exact hlt,by rw[HIX.out,HFV.out]⟩⟩
    exact(((HK.out.aW (Nat.lt_succ_self _) _).aW (Nat.lt_succ_self _) _).aW (Nat.lt_succ_self _) _).alloc (by simp;omega) _
   ·have hbe:(iq r==k)=false:=by simpa using he
    have HE:=hid he;clear he
    go_wp2_with fail
    go_roundw
    case rel=>exact⟨r+1,by omega,by go_num,HB.out.alloc HB.out.size _,fun q hq=>(by rcases Nat.lt_succ_iff_lt_or_eq.1 hq with h|h;exact HNO.out q h;exact h▸HE.out)⟩
    case measure=>simp[intOf];omega
  ·have hrr:r=27:=by omega
   have HRR:=hid hrr;clear hrr
   have hix:=EG k (fun q hq=>HNO.out q (by rw[HRR.out];exact hq))
   have HIX:=hid hix;clear hix
   have HK:=hid (HK0.out.below HB.out (by rw[HZ0.out];exact Nat.le_refl _))
   have HR:=hid (HR0.out.below HB.out (by rw[HZ0.out];omega))
   have d0:wr.cell? ⟨w.heap.size,0,none⟩=some (.int .u8 0):=HR.out.cell 0
   have d1:wr.cell? ⟨w.heap.size,1,none⟩=some (.string ⟨#[]⟩):=HR.out.cell 1
   have d2:wr.cell? ⟨w.heap.size,2,none⟩=some (.slice none 0 0):=HR.out.cell 2
   have f0:=HR.out.frozen 0
   have f1:=HR.out.frozen 1
   have f2:=HR.out.frozen 2
   go_wp2_with fail
   refine bodyPost_ret (v:= .tuple #[.agg #[.int .u8 0,.string ⟨#[]⟩,.slice none 0 0],.bool false]) (by simp[results,Tryz.results43,go_sem,d0,d1,d2]) rfl ?_
   have hsz:=HB.out.size
   have hz0:=HZ0.out
   refine⟨HB1.out.trans ((((HB.out.mono (B':=w.heap.size) (by omega)).setCell (Nat.le_refl _) _).setCell (Nat.le_refl _) _).setCell (Nat.le_refl _) _),w.heap.size+1,by omega,by simp;omega, ?_,.inr ⟨HIX.out,rfl⟩⟩
   exact((HK.out.aW (Nat.lt_succ_self _) _).aW (Nat.lt_succ_self _) _).aW (Nat.lt_succ_self _) _
end Go.Proofs.YtkblmloobkiloaaGreatDoor
namespace Go.Proofs.YtkblmloobkiloaaGreatDoor
open Go.Lib (hid)
open Go.RowKit
def jq(w:World)(B:Nat)(v:Value)(fs:List Fld):Prop:=∃A c,v= .slice A fs.length c∧fs.length≤c∧c≤maxLen∧Reads w B 1 A fs.length (fs.map fun f=> .int .u8 (f.ix:Int))
theorem jq.below{w w':World}{B:Nat}{v:Value}{fs:List Fld}(h:jq w B v fs)(hb:Below B w w'):jq w' B v fs:=by
 obtain⟨A,c,e,h1,h2,h3⟩:=h
 exact⟨A,c,e,h1,h2,h3.below hb⟩
theorem jq.more{w:World}{B B':Nat}{v:Value}{fs:List Fld}(h:jq w B v fs)(hB:B≤B'):jq w B' v fs:=by
 obtain⟨A,c,e,h1,h2,h3⟩:=h
 exact⟨A,c,e,h1,h2,h3.more hB⟩
theorem jq.nil_(w:World)(B:Nat):jq w B (.slice none 0 0) []:=⟨none,0,rfl,Nat.le_refl _,Nat.zero_le _,Reads.none_⟩
theorem fH{w:World}{n:Nat}{B:Nat}{t:TypeId}{xs:List Value}{fs:List Fld}(h:w.heap[n]? =some (.cells xs.toArray t))(hn:n<B)(hx:xs=fs.map fun f=> .int .u8 (f.ix:Int))(hl:fs.length≤20):jq w B (.slice (some ⟨n,0,none⟩) fs.length fs.length) fs:=by
 subst hx
 refine⟨_,_,rfl,Nat.le_refl _,by unfold maxLen;omega,by simp,fun _=>⟨_,rfl,hn,fun j u hj=> ?_⟩⟩
 have hb:Blk w n t (fs.map fun f=>Value.int .u8 (f.ix:Int)).toArray:=h
 have e:(Addr.mk n 0 none).add j=⟨n,j,none⟩:=by
  unfold Addr.add
  by_cases h0:j=0<;>simp[h0]
 rw[e,hb.cell j]
 simpa using hj
theorem uU(r:Nat)(hr:r<27):∃fs,bQ (iq r).toNat=some fs∧nameAt r=ofL (fO (iq r).toNat)∧∀(w:World) (n:Nat),jd w n→jq w (n+24) (mP n r) fs:=by
 match r,hr with
 |0,_=>exact⟨[.bI,.version],rfl,rfl,fun w n h=>fH (n:=n+0) (B:=n+24) (fs:=[.bI,.version]) (h.lists 0 _ rfl) (by omega) rfl (by decide)⟩
 |1,_=>exact⟨[.bI,.version],rfl,rfl,fun w n h=>fH (n:=n+1) (B:=n+24) (fs:=[.bI,.version]) (h.lists 1 _ rfl) (by omega) rfl (by decide)⟩
 |2,_=>exact⟨[.dB,.uname,.bF],rfl,rfl,fun w n h=>fH (n:=n+2) (B:=n+24) (fs:=[.dB,.uname,.bF]) (h.lists 2 _ rfl) (by omega) rfl (by decide)⟩
 |3,_=>exact⟨[.qid],rfl,rfl,fun w n h=>fH (n:=n+3) (B:=n+24) (fs:=[.qid]) (h.lists 3 _ rfl) (by omega) rfl (by decide)⟩
 |4,_=>exact⟨[.fid,.dB,.uname,.bF],rfl,rfl,fun w n h=>fH (n:=n+4) (B:=n+24) (fs:=[.fid,.dB,.uname,.bF]) (h.lists 4 _ rfl) (by omega) rfl (by decide)⟩
 |5,_=>exact⟨[.qid],rfl,rfl,fun w n h=>fH (n:=n+5) (B:=n+24) (fs:=[.qid]) (h.lists 5 _ rfl) (by omega) rfl (by decide)⟩
 |6,_=>exact⟨[.bH],rfl,rfl,fun w n h=>fH (n:=n+6) (B:=n+24) (fs:=[.bH]) (h.lists 6 _ rfl) (by omega) rfl (by decide)⟩
 |7,_=>exact⟨[.aT],rfl,rfl,fun w n h=>fH (n:=n+7) (B:=n+24) (fs:=[.aT]) (h.lists 7 _ rfl) (by omega) rfl (by decide)⟩
 |8,_=>exact⟨[],rfl,rfl,fun w n _=>jq.nil_ _ _⟩
 |9,_=>exact⟨[.fid,.aU,.names],rfl,rfl,fun w n h=>fH (n:=n+8) (B:=n+24) (fs:=[.fid,.aU,.names]) (h.lists 8 _ rfl) (by omega) rfl (by decide)⟩
 |10,_=>exact⟨[.aV],rfl,rfl,fun w n h=>fH (n:=n+9) (B:=n+24) (fs:=[.aV]) (h.lists 9 _ rfl) (by omega) rfl (by decide)⟩
 |11,_=>exact⟨[.fid,.mode],rfl,rfl,fun w n h=>fH (n:=n+10) (B:=n+24) (fs:=[.fid,.mode]) (h.lists 10 _ rfl) (by omega) rfl (by decide)⟩
 |12,_=>exact⟨[.qid,.aQ],rfl,rfl,fun w n h=>fH (n:=n+11) (B:=n+24) (fs:=[.qid,.aQ]) (h.lists 11 _ rfl) (by omega) rfl (by decide)⟩
 |13,_=>exact⟨[.fid,.name,.perm,.mode],rfl,rfl,fun w n h=>fH (n:=n+12) (B:=n+24) (fs:=[.fid,.name,.perm,.mode]) (h.lists 12 _ rfl) (by omega) rfl (by decide)⟩
 |14,_=>exact⟨[.qid,.aQ],rfl,rfl,fun w n h=>fH (n:=n+13) (B:=n+24) (fs:=[.qid,.aQ]) (h.lists 13 _ rfl) (by omega) rfl (by decide)⟩
 |15,_=>exact⟨[.fid,.offset,.count],rfl,rfl,fun w n h=>fH (n:=n+14) (B:=n+24) (fs:=[.fid,.offset,.count]) (h.lists 14 _ rfl) (by omega) rfl (by decide)⟩
 |16,_=>exact⟨[.data],rfl,rfl,fun w n h=>fH (n:=n+15) (B:=n+24) (fs:=[.data]) (h.lists 15 _ rfl) (by omega) rfl (by decide)⟩
 |17,_=>exact⟨[.fid,.offset,.data],rfl,rfl,fun w n h=>fH (n:=n+16) (B:=n+24) (fs:=[.fid,.offset,.data]) (h.lists 16 _ rfl) (by omega) rfl (by decide)⟩
 |18,_=>exact⟨[.count],rfl,rfl,fun w n h=>fH (n:=n+17) (B:=n+24) (fs:=[.count]) (h.lists 17 _ rfl) (by omega) rfl (by decide)⟩
 |19,_=>exact⟨[.fid],rfl,rfl,fun w n h=>fH (n:=n+18) (B:=n+24) (fs:=[.fid]) (h.lists 18 _ rfl) (by omega) rfl (by decide)⟩
 |20,_=>exact⟨[],rfl,rfl,fun w n _=>jq.nil_ _ _⟩
 |21,_=>exact⟨[.fid],rfl,rfl,fun w n h=>fH (n:=n+19) (B:=n+24) (fs:=[.fid]) (h.lists 19 _ rfl) (by omega) rfl (by decide)⟩
 |22,_=>exact⟨[],rfl,rfl,fun w n _=>jq.nil_ _ _⟩
 |23,_=>exact⟨[.fid],rfl,rfl,fun w n h=>fH (n:=n+20) (B:=n+24) (fs:=[.fid]) (h.lists 20 _ rfl) (by omega) rfl (by decide)⟩
 |24,_=>exact⟨[.stat],rfl,rfl,fun w n h=>fH (n:=n+21) (B:=n+24) (fs:=[.stat]) (h.lists 21 _ rfl) (by omega) rfl (by decide)⟩
 |25,_=>exact⟨[.fid,.stat],rfl,rfl,fun w n h=>fH (n:=n+22) (B:=n+24) (fs:=[.fid,.stat]) (h.lists 22 _ rfl) (by omega) rfl (by decide)⟩
 |26,_=>exact⟨[],rfl,rfl,fun w n _=>jq.nil_ _ _⟩
 |r+27,h=>exact absurd h (by omega)
theorem wL:∀k,k<28→bQ (100+k)≠none→oL ((100+k:Nat):Int)<27:=by decide
theorem o9(k:Int)(h:oL k<27):iq (oL k)=k:=by
 have hl:List.findIdx (fun x:Int×List UInt8×List Int=>x.1==k) iR<iR.length:=h
 have:=List.findIdx_getElem (xs:=iR) (p:=fun x:Int×List UInt8×List Int=>x.1==k) (w:=hl)
 show(iR.getD (List.findIdx (fun x:Int×List UInt8×List Int=>x.1==k) iR) (0,[],[])).1=k
 rw[List.getD_eq_getElem?_getD,List.getElem?_eq_getElem hl]
 simpa using this
def NZ(k:Nat)(e:Ending)(w':World):Prop:=match bQ k with
 |some fs=>∃v,e= .returned (.tuple #[.agg #[.int .u8 (k:Int),.string (ofL (fO k)),v],.bool true])∧jq w' w'.heap.size v fs
 |none=>e= .returned (.tuple #[.agg #[.int .u8 0,.string ⟨#[]⟩,.slice none 0 0],.bool false])
theorem CW(k:Nat)(w:World):Calls Tryz.prog 43 #[.int .u8 (k:Int)] w fun e w'=>Below w.heap.size w w'∧NZ k e w':=by
 refine(ug (k:Int) w).mono ?_
 rintro e w' ⟨hb,n,hn1,hn2,hk,⟨hi,rfl⟩|⟨hi,rfl⟩⟩
 ·refine⟨hb, ?_⟩
  obtain⟨fs,h1,h2,h3⟩:=uU _ hi
  rw[o9 _ hi]at h1 h2
  unfold NZ
  rw[show((k:Int)).toNat=k from rfl]at h1 h2
  rw[h1]
  exact⟨_,by rw[o9 _ hi,h2],(h3 w' n hk).more hn2⟩
 ·refine⟨hb, ?_⟩
  unfold NZ
  cases hf:bQ k with
  |none=>rfl
  |some fs=>
   obtain⟨-, -,h1,h2⟩:=iP hf
   have:=wL (k-100) (by omega) (by rw[show 100+(k-100)=k by omega,hf];simp)
   rw[show 100+(k-100)=k by omega,hi]at this
   exact absurd this (by decide)
theorem jY(f:Fld)(w:World):Calls Tryz.prog 44 #[.int .u8 (f.ix:Int)] w fun e w'=>e= .returned (.agg #[.string f.jJ,.func (.func f.kg) #[] (f.sO (w.heap.size+1)),.func (.func f.kp) #[] (f.cap (w.heap.size+1)),.func (.func f.kt) #[] (f.cap (w.heap.size+1)),.func (.func f.km) #[] (f.cap (w.heap.size+1)),.func (.func f.kr) #[] (f.cap (w.heap.size+1)),.func (.func f.ks) #[] (f.cap (w.heap.size+1))])∧Below w.heap.size w w'∧yC w' f (w.heap.size+1):=yJ f w
theorem jq.at_{w:World}{B:Nat}{A:Option Addr}{n c:Nat}{l:List Fld}(h:jq w B (.slice A n c) l){k:Nat}{x:Fld}(hx:l[k]? =some x):∃ad,A=some ad∧ad.block<B∧w.cell? (ad.add k)=some (.int .u8 (x.ix:Int)):=by
 obtain⟨A',c',e, -, -,hr⟩:=h
 injection e with e1 e2 e3
 subst e1
 have hk:k<l.length:=(List.getElem?_eq_some_iff.1 hx).1
 obtain⟨ad,u,h1,h2,h3,h4⟩:=hr.at_ hk
 refine⟨ad,h1,h2,h4.trans ?_⟩
 rw[List.getElem?_map,hx]at h3
 exact h3.symm▸rfl
def Mg.small(m:Mg):Prop:=∀f,m.long f≤16777216
def EH(r:List UInt8×Nat)(w:World)(e:Ending)(w':World):Prop:=
 (∃v,e= .returned (.tuple #[v,.int .i64 (r.2:Int)])∧w'.ownsRow w.heap.size 5 1 v r.1.length (aX r.1))∧Below w.heap.size w w'
theorem EH.none_{r:List UInt8×Nat}{w w':World}{n:Nat}(h:r=([],n))(hb:Below w.heap.size w w'):EH r w (.returned (.tuple #[.slice none 0 0,.int .i64 (n:Int)])) w':=by
 subst h
 exact⟨⟨_,rfl,dS _ _ _ _⟩,hb⟩
theorem KG{m:Mg}(h:bQ m.kind=none):enc m=([],32):=by unfold enc;rw[h]
theorem N7{m:Mg}{fs:List Fld}{f:Fld}(h:bQ m.kind=some fs)(hf:f∈fs)(hg:m.good f=false):enc m=([],30):=by
 have hr:refused m=(30,0):=by
  unfold refused
  rw[h]
  dsimp only
  rw[if_neg]
  intro ha
  rw[List.all_eq_true]at ha
  rw[ha f hf]at hg
  cases hg
 unfold enc
 rw[h]
 dsimp only
 rw[hr]
 rfl
theorem N8{m:Mg}{fs:List Fld}(h:bQ m.kind=some fs)(ha:fs.all m.good=true)(hs:65536<m.size fs):enc m=([],31):=by
 have hr:refused m=(31,0):=by
  unfold refused
  rw[h]
  dsimp only
  rw[if_pos ha,if_pos hs]
 unfold enc
 rw[h]
 dsimp only
 rw[hr]
 rfl
theorem EI(a b c d e f g:Value)(w:World):(Instr.field 90 (.agg #[a,b,c,d,e,f,g]) 0).run Tryz.prog w= .ok a w∧(Instr.field 90 (.agg #[a,b,c,d,e,f,g]) 1).run Tryz.prog w= .ok b w∧(Instr.field 90 (.agg #[a,b,c,d,e,f,g]) 2).run Tryz.prog w= .ok c w∧(Instr.field 90 (.agg #[a,b,c,d,e,f,g]) 3).run Tryz.prog w= .ok d w∧(Instr.field 90 (.agg #[a,b,c,d,e,f,g]) 4).run Tryz.prog w= .ok e w∧(Instr.field 90 (.agg #[a,b,c,d,e,f,g]) 5).run Tryz.prog w= .ok f w∧(Instr.field 90 (.agg #[a,b,c,d,e,f,g]) 6).run Tryz.prog w= .ok g w:=by
 refine⟨?_, ?_, ?_, ?_, ?_, ?_, ?_⟩<;>kernel_rfl
theorem N9{w:World}{base base' n size:Nat}{e:TypeId}{v:Value}{xs:List Value}(h:w.ownsRow base e size v n xs)(hb:base'≤base):w.ownsRow base' e size v n xs:=by
 refine⟨h.1, ?_⟩
 rcases h.2 with h0|⟨g,cap,cur,hv,h1,r⟩
 ·exact .inl h0
 ·exact .inr ⟨g,cap,cur,hv,Nat.le_trans hb h1,r⟩
def hdr(n k:Nat)(X:List UInt8):List UInt8:=(le 4 n).take k++X.drop k
theorem GL(n k:Nat)(X:List UInt8)(hk:k≤4)(hX:4≤X.length):(hdr n k X).length=X.length:=by
 unfold hdr
 rw[List.length_append,List.length_take,bK,List.length_drop]
 omega
theorem N_(n k:Nat)(X:List UInt8)(hk:k<4)(hX:4≤X.length)(E:Int)(hE:E=((n/256^k%256:Nat):Int)):(aX (hdr n k X)).set k (.int .u8 E)=aX (hdr n (k+1) X):=by
 subst hE
 have hu:((n/256^k%256:Nat):Int)=(((UInt8.ofNat (n/256^k%256)).toNat:Nat):Int):=by rw[←kU];omega
 rw[hu,show(Value.int .u8 (((UInt8.ofNat (n/256^k%256)).toNat:Nat):Int))=(fun c:UInt8=>Value.int .u8 (c.toNat:Int)) (UInt8.ofNat (n/256^k%256))from rfl,←List.map_set]
 congr 1
 unfold hdr
 rw[pX 4 k n hk]
 have hl:((le 4 n).take k).length=k:=by rw[List.length_take,bK];omega
 obtain⟨y,c,hd⟩:∃y c,X.drop k=y::c:=by
  cases h:X.drop k with
  |nil=>have:=congrArg List.length h;rw[List.length_drop]at this;simp at this;omega
  |cons y c=>exact⟨y,c,rfl⟩
 have hd2:X.drop (k+1)=c:=by rw[←List.drop_drop,hd];rfl
 rw[hd,hd2]
 generalize(le 4 n).take k=a at hl
 subst hl
 rw[List.set_append_right _ _ (Nat.le_refl _),Nat.sub_self,List.set_cons_zero]
 simp
theorem oh(m:Mg)(vn vq vd:Value)(w:World)(ho:m.ok)(hl:Lists w w.heap.size m vn vq vd)(hr:Ready w)(hz:m.small):
  Calls Tryz.prog 23 #[iM m vn vq vd] w (EH (enc m) w):=by
 have HM:=hid (show aK (w.alloc (.cells (aF m vn vq vd).toArray 41)) w.heap.size m vn vq vd from Blk.new w _ _)
 have hup:Below w.heap.size w (w.alloc (.cells (aF m vn vq vd).toArray 41)):=(Below.refl _ _).alloc (Nat.le_refl _) _
 have HB:=hid hup
 have hsz:(w.alloc (.cells (aF m vn vq vd).toArray 41)).heap.size=w.heap.size+1:=World.size_alloc _ _
 have HL:=hid (hl.below hup)
 have HR:=hid (hr.below hup (Nat.le_refl _))
 have H8:=hid hr.eight
 have HO:=hid ho
 have HZ:=hid hz
 clear hl hr ho hz hup
 unfold iM
 go_enter Tryz.func23,Tryz.ntmps23
 go_upto_region 1 with(fail)
 change Code.wp _ _ _ _ (w.alloc (.cells (aF m vn vq vd).toArray 41))
 generalize w.alloc (.cells (aF m vn vq vd).toArray 41)=w1 at HM HB hsz HL HR⊢
 generalize hq:w.heap.size=q at*
 have k0:w1.cell? ⟨q,0,none⟩=some (.int .u8 (m.kind:Int)):=Blk.cell HM.out 0
 go_wp2_with fail
 refine(CW m.kind w1).mono ?_
 rintro e w2 ⟨hb,hrow⟩
 unfold NZ at hrow
 cases hk:bQ m.kind with
 |none=>
  rw[hk]at hrow
  subst hrow
  have HE:=hid (KG hk)
  have HBB:=hid (HB.out.trans (hb.mono (by omega)))
  clear hb hk
  go_wp2_with fail
  go_ret2
  have hz2:q≤w2.heap.size:=by have:=HBB.out.size;omega
  exact EH.none_ HE.out (by rw[hq];exact HBB.out.alloc hz2 _)
 |some fs=>
  rw[hk]at hrow
  obtain⟨fvl,rfl,hfl⟩:=hrow
  have HWL:=hid (iP hk)
  have HK:=hid hk
  have hb2:Below w1.heap.size w1 (w2.alloc (.cells #[.int .u8 (m.kind:Int),.string (ofL (fO m.kind)),fvl] 79)):=hb.alloc hb.size _
  have HR2:=hid (Blk.new w2 79 #[.int .u8 (m.kind:Int),.string (ofL (fO m.kind)),fvl])
  have HF2:=hid ((hfl.below ((Below.refl _ _).alloc (Nat.le_refl _) (.cells #[.int .u8 (m.kind:Int),.string (ofL (fO m.kind)),fvl] 79))).more (Nat.le_of_lt (Nat.lt_succ_self w2.heap.size)))
  have hsz2:(w2.alloc (.cells #[.int .u8 (m.kind:Int),.string (ofL (fO m.kind)),fvl] 79)).heap.size=w2.heap.size+1:=World.size_alloc _ _
  have HB2:=hid (HB.out.trans (hb2.mono (by omega)))
  have HM2:=hid (Blk.below HM.out hb2 (Blk.lt HM.out))
  have HL2:=hid (HL.out.below (hb2.mono (by omega)))
  have H12:=hb.size
  have HRD:=hid (HR.out.below hb2 (Nat.le_refl _))
  obtain⟨fA,fc,rfl,hfc,hfm, -⟩:=hfl
  have GN:fs.length≤20:=by
   have:=HWL.out.2.1
   have hh:=HK.out
   unfold bQ at hh
   split at hh<;>first|(obtain rfl:=Option.some.inj hh;decide)|(exact absurd hh (by simp))
  clear hb hb2 hk k0 HM HL HB
  go_upto_region 4 with(fail)
  generalize w2.alloc (.cells #[.int .u8 (m.kind:Int),.string (ofL (fO m.kind)),.slice fA fs.length fc] 79)=w3 at HR2 HF2 hsz2 HB2 HM2 HL2 HRD⊢
  generalize hrb:w2.heap.size=rb at*
  have k2:w3.cell? ⟨rb,2,none⟩=some (.slice fA fs.length fc):=Blk.cell HR2.out 2
  go_upto_region 5 with(fail)
  clear k2
  go_loopw [7,25] (fun _ i wr=>∃k:Nat,k≤fs.length∧i= .int .i64 k∧(fs.take k).all m.good=true∧Below w3.heap.size w3 wr) (fun _ i _=>fs.length-(intOf i).toNat)
  case atStart=>exact⟨0,by omega,rfl,by simp,Below.refl _ _⟩
  case round=>
   obtain⟨k,hk,rfl,ha,hb⟩:=hrel
   have HA:=hid ha;clear ha
   have HBR:=hid hb;clear hb
   have HW:=hid HBR.out.size
   by_cases hlt:k<fs.length
   ·obtain⟨f,hf⟩:∃f,fs[k]? =some f:=⟨fs[k],List.getElem?_eq_getElem _⟩
    obtain⟨ad,rfl,hab,kx⟩:=(HF2.out.below (HBR.out.mono (by omega))).at_ hf
    have HFF:=hid hf
    clear hf hab
    go_wp2_with fail
    refine(jY f wr).mono ?_
    rintro e w4 ⟨rfl,hb,hcap⟩
    have HB4:=hid (HBR.out.trans (hb.mono HW.out))
    have hent:=IB f
    have hfd:=fun a b c d e f' g w=>(EI a b c d e f' g w).2.1
    have hgc:=CV f (Blk.below HM2.out HB4.out (Blk.lt HM2.out)) ((HL2.out.below (HB4.out.mono (by omega))).more (by have:=HB4.out.size;omega)) hcap (HRD.out.below HB4.out (Nat.le_refl _))
    clear hb hcap kx
    cases hg:m.good f with
    |false=>
     rw[hg]at hgc
     have HGC:=hid hgc
     have HGF:=hid (N7 HK.out (List.mem_of_getElem? HFF.out) hg)
     clear hgc hg
     go_wp2_with fail
     refine HGC.out.mono ?_
     rintro e w5 ⟨rfl,hb⟩
     have HB5:=hid (HB4.out.trans (hb.mono HB4.out.size))
     clear hb hent hfd
     go_wp2_with fail
     go_ret2
     exact EH.none_ HGF.out (by rw[hq];exact HB2.out.trans (HB5.out.mono (by omega)))
    |true=>
     rw[hg]at hgc
     have HGC:=hid hgc
     have HGF:=hid hg
     clear hgc hg
     go_wp2_with fail
     refine HGC.out.mono ?_
     rintro e w5 ⟨rfl,hb⟩
     have HB5:=hid (HB4.out.trans (hb.mono HB4.out.size))
     clear hb hent hfd
     go_wp2_with fail
     go_roundw
     case rel=>
      refine⟨k+1,by omega,by go_num, ?_,HB5.out⟩
      rw[List.take_add_one,HFF.out,Option.toList_some,List.all_append,HA.out]
      simp[HGF.out]
     case measure=>simp[intOf];omega
   ·have hkl:k=fs.length:=by omega
    subst hkl
    have EJ:=hid (show fs.all m.good=true from by have h:=HA.out;rw[List.take_length]at h;exact h)
    clear HA
    have HRB:=hid (Blk.below HR2.out HBR.out (Blk.lt HR2.out))
    have HFB:=hid (HF2.out.below (HBR.out.mono (by omega)))
    have HMB:=hid (Blk.below HM2.out HBR.out (Blk.lt HM2.out))
    have HLB:=hid (HL2.out.below (HBR.out.mono (by omega)))
    have Sv:=hid (HRD.out.below HBR.out (Nat.le_refl _))
    have HB5:=hid (HB2.out.trans (HBR.out.mono (by omega)))
    clear HF2 HM2 HL2 HRD HB2 HR2
    go_wp2_with fail
    refine(uD 65536 (by decide) wr).mono ?_
    rintro e w5 ⟨rfl,rfl⟩
    have EK:Below wr.heap.size wr (wr.alloc (.cells #[.int .i64 ((65536:Nat):Int),.slice none 0 0,.slice none 0 0,.int .i64 0] 159)):=(Below.refl _ _).alloc (Nat.le_refl _) _
    have HWS:=hid (WrS.new 65536 (by decide) wr)
    have HN8:=hid (show 8≤wr.heap.size from by have:=H8.out;have:=HB5.out.size;omega)
    have HMN:=hid (Blk.below HMB.out EK (Blk.lt HMB.out))
    have HRN:=hid (Blk.below HRB.out EK (Blk.lt HRB.out))
    have HQB:=hid (And.intro (Blk.lt HMB.out) (Blk.lt HRB.out))
    have HFN:=hid ((HFB.out.more (show rb+1≤wr.heap.size from by have:=HBR.out.size;omega)).below EK)
    have HLN:=hid ((HLB.out.more (show q≤wr.heap.size from by have:=HB5.out.size;omega)).below EK)
    have Sz:=hid (Sv.out.below EK (Nat.le_refl _))
    have HBN:=hid (HB5.out.trans (EK.mono (by have:=HB5.out.size;omega)))
    clear EK HMB HRB HFB HLB Sv HB5
    have HW:=hid (Wk.refl wr.heap.size (wr.alloc (.cells #[.int .i64 ((65536:Nat):Int),.slice none 0 0,.slice none 0 0,.int .i64 0] 159)))
    generalize wr.alloc (.cells #[.int .i64 ((65536:Nat):Int),.slice none 0 0,.slice none 0 0,.int .i64 0] 159)=wN at HWS HMN HRN HFN HLN Sz HBN HW⊢
    generalize hbs:wr.heap.size=bs at*
    have hp0:=iY 0 (by decide) HWS.out
    rw[show((0:Nat):Int)=0 from rfl]at hp0
    have HP0:=hid hp0;clear hp0
    go_wp2_with fail
    refine HP0.out.mono ?_
    rintro e w6 ⟨rfl,hs,hb⟩
    have HS6:=hid hs
    have HW6:=hid hb
    clear hs hb HP0 HW
    have k0:w6.cell? ⟨q,0,none⟩=some (.int .u8 (m.kind:Int)):=Blk.cell (Blk.below HMN.out HW6.out.low HQB.out.1) 0
    go_wp2_with fail
    refine(qO m.kind HO.out.kind HS6.out).mono ?_
    rintro e w7 ⟨rfl,hs,hb⟩
    have HS7:=hid hs
    have HW7:=hid (HW6.out.trans hb)
    clear hs hb k0 HS6 HW6
    have k0:w7.cell? ⟨q,1,none⟩=some (.int .u16 (m.tag:Int)):=Blk.cell (Blk.below HMN.out HW7.out.low HQB.out.1) 1
    go_wp2_with fail
    refine(lg m.tag HO.out.tag HS7.out).mono ?_
    rintro e w8 ⟨rfl,hs,hb⟩
    have HS8:=hid (show WrS w8 bs bs 65536 (dV 65536 (some []) (le 4 0++le 1 m.kind++le 2 m.tag)) []from by rw[←jm,←jm];exact hs)
    have HW8:=hid (HW7.out.trans hb)
    clear hs hb k0 HS7 HW7
    have k2:w8.cell? ⟨rb,2,none⟩=some (.slice fA fs.length fc):=Blk.cell (Blk.below HRN.out HW8.out.low HQB.out.2) 2
    go_upto_region 17 with(fail)
    clear k2
    go_loopw [11,55] (fun _ i wr=>∃k:Nat,k≤fs.length∧i= .int .i64 k∧WrS wr bs bs 65536 (dV 65536 (some []) (le 4 0++le 1 m.kind++le 2 m.tag++body m (fs.take k))) []∧Wk bs wN wr) (fun _ i _=>fs.length-(intOf i).toNat)
    case atStart=>
     refine⟨0,by omega,rfl, ?_,HW8.out⟩
     have h:=HS8.out
     rw[List.take_zero,show body m []=[]from rfl,List.append_nil]
     exact h
    case round=>
     obtain⟨k,hk,rfl,hs,hb⟩:=hrel
     have HSR:=hid hs
     have HWR:=hid hb
     clear hs hb
     by_cases hlt:k<fs.length
     ·obtain⟨f,hf⟩:∃f,fs[k]? =some f:=⟨fs[k],List.getElem?_eq_getElem _⟩
      obtain⟨ad,rfl,hab,kx⟩:=(HFN.out.below HWR.out.low).at_ hf
      have HFF:=hid hf
      clear hf hab
      go_wp2_with fail
      refine(jY f wr).mono ?_
      rintro e w9 ⟨rfl,hb,hcap⟩
      have HW9:=hid (HWR.out.trans (Wk.of_below hb HSR.out.le))
      have HS9:=hid (HSR.out.below hb)
      have HGF:=hid (List.all_eq_true.1 EJ.out f (List.mem_of_getElem? HFF.out))
      have hent:=IC f
      have hfd:=fun a b c d e f' g w=>(EI a b c d e f' g w).2.2.1
      have hdl:4+m.data.length≤16777216:=HZ.out .data
      have hlf:=HZ.out f
      have HPC:=hid (EF f (Blk.below HMN.out HW9.out.low HQB.out.1) HQB.out.1 (HLN.out.below HW9.out.low) hcap (Sz.out.low HW9.out.low HN8.out) HO.out HGF.out (by omega) (by omega) HN8.out (Nat.le_refl _) (by simp) HS9.out)
      clear hb hcap kx hdl hlf
      go_wp2_with fail
      refine HPC.out.mono ?_
      rintro e w10 ⟨rfl,hs,hb⟩
      have CX:=hid hs
      have U2:=hid (HW9.out.trans hb)
      clear hs hb hent hfd
      go_wp2_with fail
      go_roundw
      case rel=>
       refine⟨k+1,by omega,by go_num, ?_,U2.out⟩
       have h:=CX.out
       rw[jm,List.append_assoc,show body m (fs.take k)++m.bytes f=body m (fs.take (k+1))from by
        unfold body
        rw[List.take_add_one,HFF.out,Option.toList_some,List.flatMap_append,List.flatMap_singleton]]at h
       exact h
      case measure=>simp[intOf];omega
     ·have hkl:k=fs.length:=by omega
      subst hkl
      obtain⟨X,hX⟩:∃X,X=le 4 0++le 1 m.kind++le 2 m.tag++body m fs:=⟨_,rfl⟩
      have HX:=hid hX
      have HXL:=hid (show X.length=m.size fs from by
       rw[hX]
       simp only[List.length_append,bK,vK,Mg.size])
      have HSX:=hid (show WrS wr bs bs 65536 (dV 65536 (some []) X) []from by
       have h:=HSR.out
       rw[List.take_length,←hX]at h
       exact h)
      clear HSR hX
      have HD:=hid (Ak HSX.out)
      have PX:=hid HSX.out.le
      go_wp2_with fail
      refine HD.out.mono ?_
      rintro e w11 ⟨hb,hd⟩
      have SA:=hid (HWR.out.low.trans (hb.mono PX.out))
      clear hb
      by_cases hbig:65536<m.size fs
      ·rw[dX (fun l hl=>by injection hl with hl;subst hl;rw[HXL.out];simpa using hbig)]at hd
       obtain⟨er,her,rfl⟩:=hd
       have HE:=hid (N8 HK.out EJ.out hbig)
       have hne:((er:Int) != 0)=true:=by rw[bne_iff_ne];omega
       clear hbig her
       go_wp2_with fail
       go_ret2
       exact EH.none_ HE.out (by rw[hq];exact HBN.out.trans (SA.out.mono (Nat.le_of_lt HQB.out.1)))
      ·rw[gQ (by rw[HXL.out];simpa using hbig)]at hd
       obtain⟨v,rfl,hown⟩:=hd
       rw[List.nil_append]at hown
       have HOW:=hid hown
       obtain⟨A5,c5,rfl,hc5,hm5⟩:=aJ hown
       clear hown
       have hX7:7≤X.length:=by rw[HXL.out];unfold Mg.size;omega
       have WZ:X.length≤65536:=by rw[HXL.out];omega
       obtain⟨g,rfl⟩:∃g,A5=some ⟨g,0,none⟩:=by
        rcases HOW.out.2 with⟨h',h0⟩|⟨g',cap',cur,h',_,_,_⟩
        ·omega
        ·injection h' with h1 _ _
         exact⟨g',h1⟩
       have HOQ:=hid (N9 HOW.out (show q≤wr.heap.size from by have:=HQB.out.1;have:=PX.out;omega))
       have HBQ:=hid (HBN.out.trans (SA.out.mono (by have:=HQB.out.1;omega)))
       have HGE:=hid ((HOW.out.lt g rfl).1)
       have HSM:=hid hbig
       clear HOW hbig
       go_upto_region 25 with(fail)
       go_loopw [13,72] (fun _ i wr=>∃k:Nat,k≤4∧i= .int .i64 k∧wr.ownsRow q 5 1 (.slice (some ⟨g,0,none⟩) X.length c5) X.length (aX (hdr X.length k X))∧Below q w wr) (fun _ i _=>4-(intOf i).toNat)
       case atStart=>
        refine⟨0,by omega,rfl, ?_,HBQ.out⟩
        exact HOQ.out
       case round=>
        obtain⟨k,hk,rfl,ho,hb⟩:=hrel
        have HOR:=hid ho
        have KH:=hid hb
        clear ho hb
        by_cases hlt:k<4
        ·have h2:∀(K:Nat),K=k→∀E:Int,E=((X.length/256^K%256:Nat):Int)→(wr.setCell ⟨g,K,none⟩ (.int .u8 E)).ownsRow q 5 1 (.slice (some ⟨g,0,none⟩) X.length c5) X.length (aX (hdr X.length (K+1) X)):=fun K hK E hE=>by
          subst hK
          rw[←N_ X.length K X hlt (by omega) E hE]
          exact(HOR.out.stored K _).1
         have H2:=hid h2
         have hcu:∃u:UInt8,wr.cell? ⟨g,k,none⟩=some (.int .u8 (u.toNat:Int)):=by
          have hk2:k<(hdr X.length k X).length:=by rw[GL _ _ _ hk (by omega)];omega
          refine⟨(hdr X.length k X)[k], ?_⟩
          rw[HOR.out.cellAt k (by omega),List.getElem?_map,List.getElem?_eq_getElem hk2]
          rfl
         have zc:=HOR.out.frozenAt k
         have HGQ:=hid (show q≤g from by have:=HGE.out;have:=PX.out;have:=HQB.out.1;omega)
         have W9:=hid HOR.out.1
         clear HOR h2
         obtain⟨u,kc⟩:=hcu
         have hkk:k=0∨k=1∨k=2∨k=3:=by omega
         rcases hkk with rfl|rfl|rfl|rfl
         ·go_wp2_with fail
          go_roundw
          case rel=>
           refine⟨1,by omega,by go_num,H2.out 0 rfl _ ?_,KH.out.setCell (p:=⟨g,0,none⟩) HGQ.out _⟩
           omega
          case measure=>simp[intOf]
         ·go_wp2_with fail
          go_roundw
          case rel=>
           refine⟨2,by omega,by go_num,H2.out 1 rfl _ ?_,KH.out.setCell (p:=⟨g,1,none⟩) HGQ.out _⟩
           omega
          case measure=>simp[intOf]
         ·go_wp2_with fail
          go_roundw
          case rel=>
           refine⟨3,by omega,by go_num,H2.out 2 rfl _ ?_,KH.out.setCell (p:=⟨g,2,none⟩) HGQ.out _⟩
           omega
          case measure=>simp[intOf]
         ·go_wp2_with fail
          go_roundw
          case rel=>
           refine⟨4,by omega,by go_num,H2.out 3 rfl _ ?_,KH.out.setCell (p:=⟨g,3,none⟩) HGQ.out _⟩
           omega
          case measure=>simp[intOf]
        ·have hk4:k=4:=by omega
         subst hk4
         have HFI:=hid (show enc m=(hdr X.length 4 X,0)from by
          have hs0:refused m=(0,m.size fs):=qQ HK.out (List.all_eq_true.1 EJ.out) (by have:=HSM.out;omega)
          unfold enc
          rw[HK.out]
          dsimp only
          rw[hs0,if_pos rfl]
          unfold hdr
          rw[HXL.out,List.take_of_length_le (by rw[bK];exact Nat.le_refl _),HX.out]
          simp only[List.append_assoc]
          rw[kJ _ _ (bK 4 0)])
         have qm:=hid (show EH (enc m) w (.returned (.tuple #[.slice (some ⟨g,0,none⟩) X.length c5,.int .i64 0])) wr from by
          rw[HFI.out]
          refine⟨⟨_,rfl, ?_⟩,by rw[hq];exact KH.out⟩
          rw[hq]
          dsimp only
          rw[GL _ _ _ (Nat.le_refl _) (by omega)]
          exact HOR.out)
         go_wp2_with fail
         go_ret2
         exact qm.out
def qo(w:World)(bv:Value)(l:List UInt8):Prop:=∃A c,bv= .slice A l.length c∧l.length≤c∧c≤maxLen∧Row w 5 1 A l.length (aX l)
structure RdA(w:World)(p:Nat)(bv:Value)(l:List UInt8)(at_ err:Nat):Prop where
 blk:∃b0 wh:Int,Blk w p 129 #[bv,.int .i64 (at_:Int),.int .i64 b0,.int .i64 (err:Int),.int .i64 wh]
 row:qo w bv l
 le:at_≤l.length
 len:l.length≤16777216
section
variable {w w':World} {p:Nat} {bv:Value} {l:List UInt8} {at_ err:Nat}
theorem qo.keep(h:qo w bv l)(hk:∀(g:Nat) cur fr,w.heap[g]? =some (Obj.cells cur 5 fr)→w'.heap[g]? =w.heap[g]?):qo w' bv l:=by
 obtain⟨A,c,e,h1,h2,h3⟩:=h
 exact⟨A,c,e,h1,h2,h3.keep hk⟩
theorem qo.off{S:Nat→Prop}(h:qo w bv l)(ho:Off S w w')(hS:∀g cur fr,S g→w.heap[g]? ≠some (Obj.cells cur 5 fr)):qo w' bv l:=
 h.keep fun g cur fr hg=>ho.block g (dP hg) fun hs=>hS g cur fr hs hg
theorem RdA.lt(h:RdA w p bv l at_ err):p<w.heap.size:=by obtain⟨b0,wh,hb⟩:=h.blk;exact hb.lt
theorem RdA.below(h:RdA w p bv l at_ err)(hb:Below w.heap.size w w'):RdA w' p bv l at_ err:=by
 obtain⟨b0,wh,hk⟩:=h.blk
 exact⟨⟨b0,wh,hk.below hb hk.lt⟩,h.row.keep fun g cur fr hg=>hb.block g (dP hg),h.le,h.len⟩
end
def RdS(w:World)(p:Nat)(bv:Value)(l:List UInt8)(st:Option (List UInt8)):Prop:=
 ∃at_ err,RdA w p bv l at_ err∧match st with
  |some r=>err=0∧l.drop at_=r
  |none=>err≠0
section
variable {w w':World} {p:Nat} {bv:Value} {l:List UInt8} {st:Option (List UInt8)}
theorem RdS.below(h:RdS w p bv l st)(hb:Below w.heap.size w w'):RdS w' p bv l st:=by
 obtain⟨a,e,h,hs⟩:=h
 exact⟨a,e,h.below hb,hs⟩
end
abbrev jF(p:Nat)(w w':World):Prop:=Off (fun i=>i=p) w w'
theorem Row.at_{w:World}{e:TypeId}{A:Option Addr}{n:Nat}{xs:List Value}(h:Row w e 1 A n xs)(hn:0<n):∃g o,A=some ⟨g,o,none⟩∧∀j u,xs[j]? =some u→w.cell? ⟨g,o+j,none⟩=some u:=by
 obtain⟨g,o,rfl, -⟩:=h.form hn
 exact⟨g,o,rfl,fun j u hj=>h.cell hj⟩
def dF(k:Nat)(st:Option (List UInt8)):Nat×Option (List UInt8):=match st with
 |none=>(0,none)
 |some r=>match bU k r with
  |none=>(0,none)
  |some (n,r)=>(n,some r)
theorem Og{P:Program}{ops:Array Oper}{Q:Exit→Act→World→Prop}{md:Region.Mode}{S:World→Prop}{i:Nat}{oi:Oper}{v:Value}{fuel:Nat}{listed:Array Bool}{a:Act}{w:World}(d:Nat)(hi:ops[i]? =some oi)(hd:oi.dst=some d)
  (hs:Region.noSelect ops=true) (hf:Region.free md ops listed i=true) (hr:(Region.ready md ops listed).contains i=true)
  (hQ:∀c a w,Q (.panic c) (a.put (some d) v) w→Q (.panic c) a w) (hy:YieldsIf P ops S oi v a) (hS:S w)
  (h:wpAnyH P md ops Q S fuel (listed.setIfInBounds i true) (a.put (some d) v) w):wpAnyH P md ops Q S (fuel+1) listed a w:=
 wpAnyH_take hi hs hf hr (by rw[hd];exact hQ) hy hS (by rw[hd];exact h)
theorem dH{w:World}{base n size:Nat}{e:TypeId}{v:Value}{xs:List Value}(h:w.ownsRow base e size v n xs):∀k,v.ownBlock=some k→base≤k:=by
 intro k hk
 rcases h.2 with⟨rfl, -⟩|⟨g,cap,cur,rfl,hb, -⟩
 ·cases hk
 ·injection hk with hk
  exact hk▸hb
theorem iw{w:World}{base base' n size:Nat}{e:TypeId}{v:Value}{xs:List Value}(h:w.ownsRow base e size v n xs)(hb:base'≤base):w.ownsRow base' e size v n xs:=by
 refine⟨h.1, ?_⟩
 rcases h.2 with h0|⟨g,cap,cur,rfl,hg,r⟩
 ·exact .inl h0
 ·exact .inr ⟨g,cap,cur,rfl,Nat.le_trans hb hg,r⟩
theorem qo.reads{w:World}{A:Option Addr}{n c:Nat}{l:List UInt8}(h:qo w (.slice A n c) l):Reads w w.heap.size 1 A n (aX l):=by
 obtain⟨A',c',e, -, -,hr⟩:=h
 injection e with e1 e2 e3
 subst e1 e2 e3
 exact hr.reads
end Go.Proofs.YtkblmloobkiloaaGreatDoor
namespace Go.Proofs.YtkblmloobkiloaaGreatDoor
open Go.Lib (hid)
def kF{α:Type}(z:α)(one:List UInt8→Option (α×List UInt8))(st:Option (List UInt8)):α×Option (List UInt8):=match st with
 |none=>(z,none)
 |some r=>match one r with
  |none=>(z,none)
  |some (x,r)=>(x,some r)
theorem IL{n:Nat}{r:List UInt8}(h:r.length<n):gJ n r=none:=if_neg (by omega)
theorem KL{n:Nat}{r:List UInt8}(h:n≤r.length):gJ n r=some (r.take n,r.drop n):=if_pos h
theorem lT{k:Nat}{r:List UInt8}(h:k≤r.length):dF k (some r)=(aH (r.take k),some (r.drop k)):=by
 unfold dF bU
 dsimp only
 rw[KL h]
 rfl
theorem lY{k:Nat}{r:List UInt8}(h:r.length<k):dF k (some r)=(0,none):=by
 unfold dF bU
 dsimp only
 rw[IL h]
 rfl
abbrev iU(st:Option (List UInt8)):Qd×Option (List UInt8):=kF zq dR st
def Pos(l:List UInt8)(n:Nat)(st:Option (List UInt8)):Prop:=(n≤l.length∧st=some (l.drop n))∨(l.length<n∧st=none)
theorem Pos.num{l:List UInt8}{n:Nat}{st:Option (List UInt8)}(h:Pos l n st)(k:Nat):Pos l (n+k) (dF k st).2:=by
 rcases h with⟨h,rfl⟩|⟨h,rfl⟩
 ·by_cases hk:k≤(l.drop n).length
  ·rw[lT hk]
   rw[List.length_drop]at hk
   exact .inl ⟨by omega,by rw[List.drop_drop]⟩
  ·rw[lY (by omega)]
   rw[List.length_drop]at hk
   exact .inr ⟨by omega,rfl⟩
 ·exact .inr ⟨by omega,rfl⟩
theorem Pos.qid{l:List UInt8}{n:Nat}{st:Option (List UInt8)}(h:Pos l n st):Pos l (n+13) (iU st).2:=by
 rcases h with⟨h,rfl⟩|⟨h,rfl⟩
 ·unfold iU kF dR
  dsimp only
  by_cases hk:13≤(l.drop n).length
  ·rw[if_pos hk]
   rw[List.length_drop]at hk
   exact .inl ⟨by omega,by dsimp only;rw[List.drop_drop]⟩
  ·rw[if_neg hk]
   rw[List.length_drop]at hk
   exact .inr ⟨by omega,rfl⟩
 ·exact .inr ⟨by omega,rfl⟩
end Go.Proofs.YtkblmloobkiloaaGreatDoor
