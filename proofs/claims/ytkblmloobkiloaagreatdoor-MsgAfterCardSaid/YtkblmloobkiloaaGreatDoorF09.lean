/-
  MR2 MR3 MR4 MR5: what the laws of package msg need of them.
-/
import Derived.Test.YtkblmloobkiloaaGreatDoorF00
import Derived.Test.YtkblmloobkiloaaGreatDoorF07
set_option maxRecDepth 100000
set_option maxHeartbeats 3200000
namespace Go.Proofs.YtkblmloobkiloaaGreatDoor
open Go.Lib (hid)
open Go.RowKit
def qo(w:World)(bv:Value)(l:List UInt8):Prop:=∃A c,bv= .slice A l.length c∧l.length≤c∧c≤maxLen∧Row w 5 1 A l.length (aX l)
structure RdA(w:World)(p:Nat)(bv:Value)(l:List UInt8)(at_ err:Nat):Prop where
 blk:∃b0 wh:Int,Blk w p 129 #[bv,.int .i64 (at_:Int),.int .i64 b0,.int .i64 (err:Int),.int .i64 wh]
 row:qo w bv l
 le:at_≤l.length
 len:l.length≤16777216
section
variable {w w':World} {p:Nat} {bv:Value} {l:List UInt8} {at_ err:Nat}
theorem qo.keep(h:qo w bv l)(hk:∀(g:Nat) cur fr,w.heap[g]? =some (Obj.cells cur 5 fr)→w'.heap[g]? =w.heap[g]?):qo w' bv l:=by
 obtain⟨A,c,e,h1,h2,h3⟩:=h
 exact⟨A,c,e,h1,h2,h3.keep hk⟩
theorem qo.off{S:Nat→Prop}(h:qo w bv l)(ho:Off S w w')(hS:∀g cur fr,S g→w.heap[g]? ≠some (Obj.cells cur 5 fr)):qo w' bv l:=
 h.keep fun g cur fr hg=>ho.block g (dP hg) fun hs=>hS g cur fr hs hg
theorem RdA.lt(h:RdA w p bv l at_ err):p<w.heap.size:=by obtain⟨b0,wh,hb⟩:=h.blk;exact hb.lt
theorem RdA.wM(h:RdA w p bv l at_ err):∀g cur fr,g=p→w.heap[g]? ≠some (Obj.cells cur 5 fr):=by
 rintro g cur fr rfl hg
 obtain⟨b0,wh,hb⟩:=h.blk
 unfold Blk at hb
 rw[hb]at hg
 injection hg with hg
 injection hg with _ hg
 exact absurd hg (by decide)
theorem RdA.below(h:RdA w p bv l at_ err)(hb:Below w.heap.size w w'):RdA w' p bv l at_ err:=by
 obtain⟨b0,wh,hk⟩:=h.blk
 exact⟨⟨b0,wh,hk.below hb hk.lt⟩,h.row.keep fun g cur fr hg=>hb.block g (dP hg),h.le,h.len⟩
end
def RdS(w:World)(p:Nat)(bv:Value)(l:List UInt8)(st:Option (List UInt8)):Prop:=
 ∃at_ err,RdA w p bv l at_ err∧match st with
  |some r=>err=0∧l.drop at_=r
  |none=>err≠0
section
variable {w w':World} {p:Nat} {bv:Value} {l:List UInt8} {st:Option (List UInt8)}
theorem RdS.below(h:RdS w p bv l st)(hb:Below w.heap.size w w'):RdS w' p bv l st:=by
 obtain⟨a,e,h,hs⟩:=h
 exact⟨a,e,h.below hb,hs⟩
end
theorem o_{w:World}{p:Nat}{bv:Value}{l:List UInt8}{at_:Nat}(er:Nat)(z:Int)(he:er≠0)(h:RdA w p bv l at_ 0):
  Calls Tryz.prog 89 #[.pointer (some ⟨p,0,none⟩),.int .i64 (er:Int),.int .i64 z] w fun e w'=>e= .returned (.tuple #[])∧RdA w' p bv l at_ er∧Off (fun i=>i=p) w w':=by
 have hu8:=h.wM
 obtain⟨⟨b0,wh,hb⟩,hrow,hle,hlen⟩:=h
 have HB:=hid hb
 have HX:=hid (And.intro hrow (And.intro hle (And.intro hlen hu8)))
 have k3:w.cell? ⟨p,3,none⟩=some (.int .i64 ((0:Nat):Int)):=hb.cell 3
 have k1:w.cell? ⟨p,1,none⟩=some (.int .i64 (at_:Int)):=hb.cell 1
 have k2:w.cell? ⟨p,2,none⟩=some (.int .i64 b0):=hb.cell 2
 have k4:w.cell? ⟨p,4,none⟩=some (.int .i64 wh):=hb.cell 4
 have f3:w.frozen? ⟨p,3,none⟩=false:=hb.frozen 3
 have f4:w.frozen? ⟨p,4,none⟩=false:=hb.frozen 4
 have hne:((er:Int) != 0)=true:=by rw[bne_iff_ne];omega
 clear hb hrow hle hlen hu8
 go_enter Tryz.func89,Tryz.ntmps89
 go_upto_region 1 with(fail)
 go_region
 generalize wrap64 (wrap64 (b0+(at_:Int))+z)=E
 have HO:=hid (((Off.refl (fun i=>i=p) w).setCell (p:=⟨p,3,none⟩) rfl (.int .i64 (er:Int))).setCell (p:=⟨p,4,none⟩) rfl (.int .i64 E)).drew
 have HK:=hid (show Blk ((w.setCell ⟨p,3,none⟩ (.int .i64 (er:Int))).setCell ⟨p,4,none⟩ (.int .i64 E)).drew p 129 #[bv,.int .i64 (at_:Int),.int .i64 b0,.int .i64 (er:Int),.int .i64 E]from((HB.out.aW 3 (.int .i64 (er:Int))).aW 4 (.int .i64 E)).drew)
 generalize((w.setCell ⟨p,3,none⟩ (.int .i64 (er:Int))).setCell ⟨p,4,none⟩ (.int .i64 E)).drew=w2 at HO HK⊢
 go_wp2_with fail
 go_end0
 exact⟨rfl,⟨⟨b0,E,HK.out⟩,HX.out.1.off HO.out HX.out.2.2.2,HX.out.2.1,HX.out.2.2.1⟩,HO.out⟩
abbrev jF(p:Nat)(w w':World):Prop:=Off (fun i=>i=p) w w'
theorem Oa{w:World}{p:Nat}{bv:Value}{l:List UInt8}{at_ err:Nat}(n:Int)(he:err≠0)(h:RdA w p bv l at_ err):
  Calls Tryz.prog 125 #[.pointer (some ⟨p,0,none⟩),.int .i64 n] w fun e w'=>e= .returned (.bool false)∧w=w':=by
 obtain⟨b0,wh,hb⟩:=h.blk
 have k3:w.cell? ⟨p,3,none⟩=some (.int .i64 (err:Int)):=hb.cell 3
 have hne:((err:Int) != 0)=true:=by rw[bne_iff_ne];omega
 clear hb h
 go_enter Tryz.func125,Tryz.ntmps125
 go_wp2_with fail
 go_ret
 exact⟨rfl,rfl⟩
def U3(p n:Nat)(bv:Value)(l:List UInt8)(st:Option (List UInt8))(w:World)(e:Ending)(w':World):Prop:=jF p w w'∧
 ((∃r,st=some r∧n≤r.length∧e= .returned (.bool true)∧RdS w' p bv l st)∨((∀r,st=some r→r.length<n)∧e= .returned (.bool false)∧RdS w' p bv l none))
theorem ku{w:World}{p:Nat}{bv:Value}{l:List UInt8}{st:Option (List UInt8)}(n:Nat)(h:RdS w p bv l st):
  Calls Tryz.prog 125 #[.pointer (some ⟨p,0,none⟩),.int .i64 (n:Int)] w (U3 p n bv l st w):=by
 obtain⟨at_,err,h,hs⟩:=h
 cases st with
 |none=>
  refine(Oa n hs h).mono ?_
  rintro e w' ⟨rfl,rfl⟩
  exact⟨Off.refl _ _,.inr ⟨fun l hl=>(by cases hl),rfl,⟨at_,err,h,hs⟩⟩⟩
 |some r=>
  obtain⟨rfl,rfl⟩:=hs
  have HA:=hid h
  have hll:=h.len
  have hle:=h.le
  obtain⟨⟨b0,wh,hb⟩,⟨A,c,rfl,hc,hm, -⟩, -, -⟩:=h
  have k0:w.cell? ⟨p,0,none⟩=some (.slice A l.length c):=hb.cell 0
  have k1:w.cell? ⟨p,1,none⟩=some (.int .i64 (at_:Int)):=hb.cell 1
  have k3:w.cell? ⟨p,3,none⟩=some (.int .i64 ((0:Nat):Int)):=hb.cell 3
  clear hb
  by_cases hn:n≤l.length-at_
  ·have hgt:¬wrap64 ((l.length:Int)-(at_:Int))<(n:Int):=by rw[IntWalk.wrap64_in _ (by omega)];omega
   go_enter Tryz.func125,Tryz.ntmps125
   go_upto_region 3 with(fail)
   go_region
   go_wp2_with fail
   go_ret
   exact⟨(Off.refl _ w).drew,.inl ⟨l.drop at_,rfl,(by rw[List.length_drop];exact hn),rfl,⟨at_,0,HA.out.below (aC w),rfl,rfl⟩⟩⟩
  ·have hgt:wrap64 ((l.length:Int)-(at_:Int))<(n:Int):=by rw[IntWalk.wrap64_in _ (by omega)];omega
   go_enter Tryz.func125,Tryz.ntmps125
   go_upto_region 3 with(fail)
   go_region
   go_wp2_with fail
   refine(o_ 10 0 (by decide) (HA.out.below (aC w))).mono ?_
   rintro e w2 ⟨rfl,ha,ho⟩
   have HA2:=hid ha
   have HO:=hid ho
   clear ha ho
   go_wp2_with fail
   go_ret
   exact⟨(Off.refl _ w).drew.trans HO.out,.inr ⟨fun r hr=>(by injection hr with hr;subst hr;rw[List.length_drop];omega),rfl,⟨at_,10,HA2.out,(show 10≠0 by decide)⟩⟩⟩
theorem lS(l:List UInt8):∀(k:Nat) (b:UInt8),l[k]? =some b→aH (l.take (k+1))=aH (l.take k)+b.toNat*256^k:=by
 induction l with
 |nil=>intro k b h;simp at h
 |cons x l ih=>
  intro k b h
  cases k with
  |zero=>simp at h;subst h;simp[aH]
  |succ k=>
   rw[List.take_succ_cons,List.take_succ_cons,aH,aH,ih k b (by simpa using h),Nat.pow_succ]
   rw[Nat.mul_add,Nat.mul_comm (256^k) 256,Nat.mul_left_comm,Nat.add_assoc]
theorem kC(K v b:Nat)(hK:K<8)(hv:v<256^K)(hb:b<256):bits .or .u64 (v:Int) (IntKind.u64.wrap (IntKind.u64.wrap (b:Int)*((256^K:Nat):Int)))=((v+b*256^K:Nat):Int):=by
 have hlt:b*256^K<18446744073709551616:=by
  have h1:256^K≤256^7:=Nat.pow_le_pow_right (by decide) (by omega)
  have h2:b*256^K≤255*256^7:=Nat.mul_le_mul (by omega) h1
  omega
 have hv2:v<18446744073709551616:=by
  have h1:256^K≤256^7:=Nat.pow_le_pow_right (by decide) (by omega)
  omega
 rw[IntKind.wrap_u64,IntKind.wrap_u64,show(b:Int)%18446744073709551616=(b:Int) by omega,show(b:Int)*((256^K:Nat):Int)=((b*256^K:Nat):Int) by rw[Int.natCast_mul],show((b*256^K:Nat):Int)%18446744073709551616=((b*256^K:Nat):Int) by omega,u64_or_nat _ _ hv2 hlt]
 congr 1
 rw[show b*256^K=2^(8*K)*b from by rw[Nat.mul_comm,Nat.pow_mul],Nat.or_comm,←Nat.two_pow_add_eq_or_of_lt (by rw[Nat.pow_mul];exact hv),Nat.add_comm]
theorem Row.at_{w:World}{e:TypeId}{A:Option Addr}{n:Nat}{xs:List Value}(h:Row w e 1 A n xs)(hn:0<n):∃g o,A=some ⟨g,o,none⟩∧∀j u,xs[j]? =some u→w.cell? ⟨g,o+j,none⟩=some u:=by
 obtain⟨g,o,rfl, -⟩:=h.form hn
 exact⟨g,o,rfl,fun j u hj=>h.cell hj⟩
def dF(k:Nat)(st:Option (List UInt8)):Nat×Option (List UInt8):=match st with
 |none=>(0,none)
 |some r=>match bU k r with
  |none=>(0,none)
  |some (n,r)=>(n,some r)
theorem pz{k:Nat}{r:List UInt8}(h:k≤r.length):dF k (some r)=(aH (r.take k),some (r.drop k)):=by
 unfold dF bU gJ
 dsimp only
 rw[if_pos h]
 rfl
theorem uV{k:Nat}{st:Option (List UInt8)}(h:∀r,st=some r→r.length<k):dF k st=(0,none):=by
 cases st with
 |none=>rfl
 |some r=>
  unfold dF bU gJ
  dsimp only
  rw[if_neg (by have:=h r rfl;omega)]
  rfl
theorem PY{w:World}{p:Nat}{bv:Value}{l:List UInt8}{st:Option (List UInt8)}(h:RdS w p bv l st):
  Calls Tryz.prog 72 #[.pointer (some ⟨p,0,none⟩),.int .i64 1] w fun e w'=>e= .returned (.int .u8 ((dF 1 st).1:Int))∧RdS w' p bv l (dF 1 st).2∧jF p w w':=by
 have HR:=hid (ku 1 h)
 clear h
 go_enter Tryz.func72,Tryz.ntmps72
 go_wp2_with fail
 refine HR.out.mono ?_
 rintro e w1 ⟨ho,hr⟩
 have HO:=hid ho;clear ho HR
 rcases hr with⟨r,rfl,hlen,rfl,hs⟩|⟨hlen,rfl,hs⟩
 ·obtain⟨at_,err,h,hs⟩:=hs
  obtain⟨rfl,rfl⟩:=hs
  have HA:=hid h
  have hll:=h.len
  have hle:=h.le
  obtain⟨-,⟨A,c,rfl,hc,hm,hrow⟩, -, -⟩:=h
  rw[List.length_drop]at hlen
  obtain⟨g,o,rfl,hcell⟩:=hrow.at_ (by omega)
  clear hrow hcell
  go_upto_region 5 with(fail)
  go_loopw [5,6,12] (fun v _ i wr=>∃k:Nat,k≤1∧i= .int .i64 k∧v= .int .u64 ((aH ((l.drop at_).take k):Nat):Int)∧RdA wr p (.slice (some ⟨g,o,none⟩) l.length c) l at_ 0∧jF p w wr) (fun _ _ i _=>1-(intOf i).toNat)
  case atStart=>exact⟨0,by omega,rfl,rfl,HA.out,HO.out⟩
  case round=>
   obtain⟨k,hk,rfl,rfl,ha,ho⟩:=hrel
   have HAR:=hid ha
   have HOR:=hid ho
   obtain⟨⟨b0,wh,hb⟩,⟨A',c',e', -, -,hrow⟩, -, -⟩:=ha
   injection e' with e1 e2 e3
   subst e1
   subst e3
   obtain⟨g',o',e4,hcell⟩:=hrow.at_ (by omega)
   injection e4 with e4
   injection e4 with e5 e6
   subst e5;subst e6
   by_cases hlt:k<1
   ·have hj0:wr.cell? ⟨p,0,none⟩=some (.slice (some ⟨g,o,none⟩) l.length c):=hb.cell 0
    have hj1:wr.cell? ⟨p,1,none⟩=some (.int .i64 (at_:Int)):=hb.cell 1
    have hat:at_+k<l.length:=by omega
    have hjb:wr.cell? ⟨g,o+(at_+k),none⟩=some (.int .u8 ((l[at_+k]).toNat:Int)):=hcell _ _ (by rw[List.getElem?_map,List.getElem?_eq_getElem hat];rfl)
    have hjz:k=0→wr.cell? ⟨g,o+at_,none⟩=some (.int .u8 ((l[at_+k]).toNat:Int)):=fun hz=>by subst hz;exact hjb
    have HNT:=hid (lS (l.drop at_) k l[at_+k] (by rw[List.getElem?_drop,List.getElem?_eq_getElem hat]))
    have HNL:=hid (show aH ((l.drop at_).take k)<256^k from Nat.lt_of_lt_of_le (dD _) (Nat.pow_le_pow_right (by decide) (by rw[List.length_take];omega)))
    have HBB:=hid ((l[at_+k]).toNat_lt)
    clear hb hrow hcell
    generalize(l[at_+k]).toNat=bb at*
    generalize aH ((l.drop at_).take k)=nv at*
    have hkk:k=0:=by omega
    rcases hkk with rfl
    ·have HOV:=hid (kC 0 nv bb (by decide) HNL.out HBB.out)
     have PZ:=hjz rfl
     go_upto_region 7 with(fail)
     go_region
     go_wp2_with fail
     go_roundw
     case rel=>
      refine⟨1,by omega,by go_num, ?_,HAR.out.below (aC wr),HOR.out.drew⟩
      rw[HNT.out]
      exact congrArg (Value.int .u64) (by first|exact HOV.out|(have h:=HOV.out;rw[show((256^0:Nat):Int)=1 from rfl,Int.mul_one]at h;exact h))
     case measure=>simp[intOf]
   ·have hk2:k=1:=by omega
    subst hk2
    have hj1:wr.cell? ⟨p,1,none⟩=some (.int .i64 (at_:Int)):=hb.cell 1
    have hz1:wr.frozen? ⟨p,1,none⟩=false:=hb.frozen 1
    have HBK:=hid (show Blk (wr.setCell ⟨p,1,none⟩ (.int .i64 ((at_:Int)+1))) p 129 #[.slice (some ⟨g,o,none⟩) l.length c,.int .i64 ((at_+1:Nat):Int),.int .i64 b0,.int .i64 ((0:Nat):Int),.int .i64 wh]from by
     have h:=hb.aW 1 (.int .i64 ((at_:Int)+1))
     rw[show((at_+1:Nat):Int)=(at_:Int)+1 from by omega]
     exact h)
    have HOF:=hid ((Off.refl (fun i=>i=p) wr).setCell (p:=⟨p,1,none⟩) rfl (.int .i64 ((at_:Int)+1)))
    have HNL:=hid (show aH ((l.drop at_).take 1)<256^1 from Nat.lt_of_lt_of_le (dD _) (Nat.pow_le_pow_right (by decide) (by rw[List.length_take];omega)))
    have HG:=hid (pz (show 1≤(l.drop at_).length from by rw[List.length_drop];omega))
    have hnl:aH ((l.drop at_).take 1)<256:=HNL.out
    generalize hnv:aH ((l.drop at_).take 1)=nv at*
    clear hb hrow hcell
    go_wp2_with fail
    generalize wr.setCell ⟨p,1,none⟩ (.int .i64 ((at_:Int)+1))=wz at HBK HOF⊢
    go_ret
    refine⟨jP (by rw[HG.out]), ?_,HOR.out.trans HOF.out⟩
    rw[HG.out]
    exact⟨at_+1,0,⟨⟨b0,wh,HBK.out⟩,HAR.out.row.off HOF.out HAR.out.wM,by omega,hll⟩,rfl,by rw[List.drop_drop]⟩
 ·have HG:=hid (uV hlen)
  go_wp2_with fail
  go_ret
  exact⟨jP (by rw[HG.out];rfl),by rw[HG.out];exact hs,HO.out⟩
theorem Ob{w:World}{p:Nat}{bv:Value}{l:List UInt8}{st:Option (List UInt8)}(h:RdS w p bv l st):
  Calls Tryz.prog 73 #[.pointer (some ⟨p,0,none⟩),.int .i64 2] w fun e w'=>e= .returned (.int .u16 ((dF 2 st).1:Int))∧RdS w' p bv l (dF 2 st).2∧jF p w w':=by
 have HR:=hid (ku 2 h)
 clear h
 go_enter Tryz.func73,Tryz.ntmps73
 go_wp2_with fail
 refine HR.out.mono ?_
 rintro e w1 ⟨ho,hr⟩
 have HO:=hid ho;clear ho HR
 rcases hr with⟨r,rfl,hlen,rfl,hs⟩|⟨hlen,rfl,hs⟩
 ·obtain⟨at_,err,h,hs⟩:=hs
  obtain⟨rfl,rfl⟩:=hs
  have HA:=hid h
  have hll:=h.len
  have hle:=h.le
  obtain⟨-,⟨A,c,rfl,hc,hm,hrow⟩, -, -⟩:=h
  rw[List.length_drop]at hlen
  obtain⟨g,o,rfl,hcell⟩:=hrow.at_ (by omega)
  clear hrow hcell
  go_upto_region 5 with(fail)
  go_loopw [5,6,12] (fun v _ i wr=>∃k:Nat,k≤2∧i= .int .i64 k∧v= .int .u64 ((aH ((l.drop at_).take k):Nat):Int)∧RdA wr p (.slice (some ⟨g,o,none⟩) l.length c) l at_ 0∧jF p w wr) (fun _ _ i _=>2-(intOf i).toNat)
  case atStart=>exact⟨0,by omega,rfl,rfl,HA.out,HO.out⟩
  case round=>
   obtain⟨k,hk,rfl,rfl,ha,ho⟩:=hrel
   have HAR:=hid ha
   have HOR:=hid ho
   obtain⟨⟨b0,wh,hb⟩,⟨A',c',e', -, -,hrow⟩, -, -⟩:=ha
   injection e' with e1 e2 e3
   subst e1
   subst e3
   obtain⟨g',o',e4,hcell⟩:=hrow.at_ (by omega)
   injection e4 with e4
   injection e4 with e5 e6
   subst e5;subst e6
   by_cases hlt:k<2
   ·have hj0:wr.cell? ⟨p,0,none⟩=some (.slice (some ⟨g,o,none⟩) l.length c):=hb.cell 0
    have hj1:wr.cell? ⟨p,1,none⟩=some (.int .i64 (at_:Int)):=hb.cell 1
    have hat:at_+k<l.length:=by omega
    have hjb:wr.cell? ⟨g,o+(at_+k),none⟩=some (.int .u8 ((l[at_+k]).toNat:Int)):=hcell _ _ (by rw[List.getElem?_map,List.getElem?_eq_getElem hat];rfl)
    have hjz:k=0→wr.cell? ⟨g,o+at_,none⟩=some (.int .u8 ((l[at_+k]).toNat:Int)):=fun hz=>by subst hz;exact hjb
    have HNT:=hid (lS (l.drop at_) k l[at_+k] (by rw[List.getElem?_drop,List.getElem?_eq_getElem hat]))
    have HNL:=hid (show aH ((l.drop at_).take k)<256^k from Nat.lt_of_lt_of_le (dD _) (Nat.pow_le_pow_right (by decide) (by rw[List.length_take];omega)))
    have HBB:=hid ((l[at_+k]).toNat_lt)
    clear hb hrow hcell
    generalize(l[at_+k]).toNat=bb at*
    generalize aH ((l.drop at_).take k)=nv at*
    have hkk:k=0∨k=1:=by omega
    rcases hkk with rfl|rfl
    ·have HOV:=hid (kC 0 nv bb (by decide) HNL.out HBB.out)
     have PZ:=hjz rfl
     go_upto_region 7 with(fail)
     go_region
     go_wp2_with fail
     go_roundw
     case rel=>
      refine⟨1,by omega,by go_num, ?_,HAR.out.below (aC wr),HOR.out.drew⟩
      rw[HNT.out]
      exact congrArg (Value.int .u64) (by first|exact HOV.out|(have h:=HOV.out;rw[show((256^0:Nat):Int)=1 from rfl,Int.mul_one]at h;exact h))
     case measure=>simp[intOf]
    ·have HOV:=hid (kC 1 nv bb (by decide) HNL.out HBB.out)
     go_upto_region 7 with(fail)
     go_region
     go_wp2_with fail
     go_roundw
     case rel=>
      refine⟨2,by omega,by go_num, ?_,HAR.out.below (aC wr),HOR.out.drew⟩
      rw[HNT.out]
      exact congrArg (Value.int .u64) (by first|exact HOV.out|(have h:=HOV.out;rw[show((256^0:Nat):Int)=1 from rfl,Int.mul_one]at h;exact h))
     case measure=>simp[intOf]
   ·have hk2:k=2:=by omega
    subst hk2
    have hj1:wr.cell? ⟨p,1,none⟩=some (.int .i64 (at_:Int)):=hb.cell 1
    have hz1:wr.frozen? ⟨p,1,none⟩=false:=hb.frozen 1
    have HBK:=hid (show Blk (wr.setCell ⟨p,1,none⟩ (.int .i64 ((at_:Int)+2))) p 129 #[.slice (some ⟨g,o,none⟩) l.length c,.int .i64 ((at_+2:Nat):Int),.int .i64 b0,.int .i64 ((0:Nat):Int),.int .i64 wh]from by
     have h:=hb.aW 1 (.int .i64 ((at_:Int)+2))
     rw[show((at_+2:Nat):Int)=(at_:Int)+2 from by omega]
     exact h)
    have HOF:=hid ((Off.refl (fun i=>i=p) wr).setCell (p:=⟨p,1,none⟩) rfl (.int .i64 ((at_:Int)+2)))
    have HNL:=hid (show aH ((l.drop at_).take 2)<256^2 from Nat.lt_of_lt_of_le (dD _) (Nat.pow_le_pow_right (by decide) (by rw[List.length_take];omega)))
    have HG:=hid (pz (show 2≤(l.drop at_).length from by rw[List.length_drop];omega))
    have hnl:aH ((l.drop at_).take 2)<65536:=HNL.out
    generalize hnv:aH ((l.drop at_).take 2)=nv at*
    clear hb hrow hcell
    go_wp2_with fail
    generalize wr.setCell ⟨p,1,none⟩ (.int .i64 ((at_:Int)+2))=wz at HBK HOF⊢
    go_ret
    refine⟨jP (by rw[HG.out]), ?_,HOR.out.trans HOF.out⟩
    rw[HG.out]
    exact⟨at_+2,0,⟨⟨b0,wh,HBK.out⟩,HAR.out.row.off HOF.out HAR.out.wM,by omega,hll⟩,rfl,by rw[List.drop_drop]⟩
 ·have HG:=hid (uV hlen)
  go_wp2_with fail
  go_ret
  exact⟨jP (by rw[HG.out];rfl),by rw[HG.out];exact hs,HO.out⟩
theorem Oc{w:World}{p:Nat}{bv:Value}{l:List UInt8}{st:Option (List UInt8)}(h:RdS w p bv l st):
  Calls Tryz.prog 71 #[.pointer (some ⟨p,0,none⟩),.int .i64 4] w fun e w'=>e= .returned (.int .u32 ((dF 4 st).1:Int))∧RdS w' p bv l (dF 4 st).2∧jF p w w':=by
 have HR:=hid (ku 4 h)
 clear h
 go_enter Tryz.func71,Tryz.ntmps71
 go_wp2_with fail
 refine HR.out.mono ?_
 rintro e w1 ⟨ho,hr⟩
 have HO:=hid ho;clear ho HR
 rcases hr with⟨r,rfl,hlen,rfl,hs⟩|⟨hlen,rfl,hs⟩
 ·obtain⟨at_,err,h,hs⟩:=hs
  obtain⟨rfl,rfl⟩:=hs
  have HA:=hid h
  have hll:=h.len
  have hle:=h.le
  obtain⟨-,⟨A,c,rfl,hc,hm,hrow⟩, -, -⟩:=h
  rw[List.length_drop]at hlen
  obtain⟨g,o,rfl,hcell⟩:=hrow.at_ (by omega)
  clear hrow hcell
  go_upto_region 5 with(fail)
  go_loopw [5,6,12] (fun v _ i wr=>∃k:Nat,k≤4∧i= .int .i64 k∧v= .int .u64 ((aH ((l.drop at_).take k):Nat):Int)∧RdA wr p (.slice (some ⟨g,o,none⟩) l.length c) l at_ 0∧jF p w wr) (fun _ _ i _=>4-(intOf i).toNat)
  case atStart=>exact⟨0,by omega,rfl,rfl,HA.out,HO.out⟩
  case round=>
   obtain⟨k,hk,rfl,rfl,ha,ho⟩:=hrel
   have HAR:=hid ha
   have HOR:=hid ho
   obtain⟨⟨b0,wh,hb⟩,⟨A',c',e', -, -,hrow⟩, -, -⟩:=ha
   injection e' with e1 e2 e3
   subst e1
   subst e3
   obtain⟨g',o',e4,hcell⟩:=hrow.at_ (by omega)
   injection e4 with e4
   injection e4 with e5 e6
   subst e5;subst e6
   by_cases hlt:k<4
   ·have hj0:wr.cell? ⟨p,0,none⟩=some (.slice (some ⟨g,o,none⟩) l.length c):=hb.cell 0
    have hj1:wr.cell? ⟨p,1,none⟩=some (.int .i64 (at_:Int)):=hb.cell 1
    have hat:at_+k<l.length:=by omega
    have hjb:wr.cell? ⟨g,o+(at_+k),none⟩=some (.int .u8 ((l[at_+k]).toNat:Int)):=hcell _ _ (by rw[List.getElem?_map,List.getElem?_eq_getElem hat];rfl)
    have hjz:k=0→wr.cell? ⟨g,o+at_,none⟩=some (.int .u8 ((l[at_+k]).toNat:Int)):=fun hz=>by subst hz;exact hjb
    have HNT:=hid (lS (l.drop at_) k l[at_+k] (by rw[List.getElem?_drop,List.getElem?_eq_getElem hat]))
    have HNL:=hid (show aH ((l.drop at_).take k)<256^k from Nat.lt_of_lt_of_le (dD _) (Nat.pow_le_pow_right (by decide) (by rw[List.length_take];omega)))
    have HBB:=hid ((l[at_+k]).toNat_lt)
    clear hb hrow hcell
    generalize(l[at_+k]).toNat=bb at*
    generalize aH ((l.drop at_).take k)=nv at*
    have hkk:k=0∨k=1∨k=2∨k=3:=by omega
    rcases hkk with rfl|rfl|rfl|rfl
    ·have HOV:=hid (kC 0 nv bb (by decide) HNL.out HBB.out)
     have PZ:=hjz rfl
     go_upto_region 7 with(fail)
     go_region
     go_wp2_with fail
     go_roundw
     case rel=>
      refine⟨1,by omega,by go_num, ?_,HAR.out.below (aC wr),HOR.out.drew⟩
      rw[HNT.out]
      exact congrArg (Value.int .u64) (by first|exact HOV.out|(have h:=HOV.out;rw[show((256^0:Nat):Int)=1 from rfl,Int.mul_one]at h;exact h))
     case measure=>simp[intOf]
    ·have HOV:=hid (kC 1 nv bb (by decide) HNL.out HBB.out)
     go_upto_region 7 with(fail)
     go_region
     go_wp2_with fail
     go_roundw
     case rel=>
      refine⟨2,by omega,by go_num, ?_,HAR.out.below (aC wr),HOR.out.drew⟩
      rw[HNT.out]
      exact congrArg (Value.int .u64) (by first|exact HOV.out|(have h:=HOV.out;rw[show((256^0:Nat):Int)=1 from rfl,Int.mul_one]at h;exact h))
     case measure=>simp[intOf]
    ·have HOV:=hid (kC 2 nv bb (by decide) HNL.out HBB.out)
     go_upto_region 7 with(fail)
     go_region
     go_wp2_with fail
     go_roundw
     case rel=>
      refine⟨3,by omega,by go_num, ?_,HAR.out.below (aC wr),HOR.out.drew⟩
      rw[HNT.out]
      exact congrArg (Value.int .u64) (by first|exact HOV.out|(have h:=HOV.out;rw[show((256^0:Nat):Int)=1 from rfl,Int.mul_one]at h;exact h))
     case measure=>simp[intOf]
    ·have HOV:=hid (kC 3 nv bb (by decide) HNL.out HBB.out)
     go_upto_region 7 with(fail)
     go_region
     go_wp2_with fail
     go_roundw
     case rel=>
      refine⟨4,by omega,by go_num, ?_,HAR.out.below (aC wr),HOR.out.drew⟩
      rw[HNT.out]
      exact congrArg (Value.int .u64) (by first|exact HOV.out|(have h:=HOV.out;rw[show((256^0:Nat):Int)=1 from rfl,Int.mul_one]at h;exact h))
     case measure=>simp[intOf]
   ·have hk2:k=4:=by omega
    subst hk2
    have hj1:wr.cell? ⟨p,1,none⟩=some (.int .i64 (at_:Int)):=hb.cell 1
    have hz1:wr.frozen? ⟨p,1,none⟩=false:=hb.frozen 1
    have HBK:=hid (show Blk (wr.setCell ⟨p,1,none⟩ (.int .i64 ((at_:Int)+4))) p 129 #[.slice (some ⟨g,o,none⟩) l.length c,.int .i64 ((at_+4:Nat):Int),.int .i64 b0,.int .i64 ((0:Nat):Int),.int .i64 wh]from by
     have h:=hb.aW 1 (.int .i64 ((at_:Int)+4))
     rw[show((at_+4:Nat):Int)=(at_:Int)+4 from by omega]
     exact h)
    have HOF:=hid ((Off.refl (fun i=>i=p) wr).setCell (p:=⟨p,1,none⟩) rfl (.int .i64 ((at_:Int)+4)))
    have HNL:=hid (show aH ((l.drop at_).take 4)<256^4 from Nat.lt_of_lt_of_le (dD _) (Nat.pow_le_pow_right (by decide) (by rw[List.length_take];omega)))
    have HG:=hid (pz (show 4≤(l.drop at_).length from by rw[List.length_drop];omega))
    have hnl:aH ((l.drop at_).take 4)<4294967296:=HNL.out
    generalize hnv:aH ((l.drop at_).take 4)=nv at*
    clear hb hrow hcell
    go_wp2_with fail
    generalize wr.setCell ⟨p,1,none⟩ (.int .i64 ((at_:Int)+4))=wz at HBK HOF⊢
    go_ret
    refine⟨jP (by rw[HG.out]), ?_,HOR.out.trans HOF.out⟩
    rw[HG.out]
    exact⟨at_+4,0,⟨⟨b0,wh,HBK.out⟩,HAR.out.row.off HOF.out HAR.out.wM,by omega,hll⟩,rfl,by rw[List.drop_drop]⟩
 ·have HG:=hid (uV hlen)
  go_wp2_with fail
  go_ret
  exact⟨jP (by rw[HG.out];rfl),by rw[HG.out];exact hs,HO.out⟩
theorem Oe{w:World}{p:Nat}{bv:Value}{l:List UInt8}{st:Option (List UInt8)}(h:RdS w p bv l st):
  Calls Tryz.prog 204 #[.pointer (some ⟨p,0,none⟩),.int .i64 8] w fun e w'=>e= .returned (.int .u64 ((dF 8 st).1:Int))∧RdS w' p bv l (dF 8 st).2∧jF p w w':=by
 have HR:=hid (ku 8 h)
 clear h
 go_enter Tryz.func204,Tryz.ntmps204
 go_wp2_with fail
 refine HR.out.mono ?_
 rintro e w1 ⟨ho,hr⟩
 have HO:=hid ho;clear ho HR
 rcases hr with⟨r,rfl,hlen,rfl,hs⟩|⟨hlen,rfl,hs⟩
 ·obtain⟨at_,err,h,hs⟩:=hs
  obtain⟨rfl,rfl⟩:=hs
  have HA:=hid h
  have hll:=h.len
  have hle:=h.le
  obtain⟨-,⟨A,c,rfl,hc,hm,hrow⟩, -, -⟩:=h
  rw[List.length_drop]at hlen
  obtain⟨g,o,rfl,hcell⟩:=hrow.at_ (by omega)
  clear hrow hcell
  go_upto_region 5 with(fail)
  go_loopw [5,6,12] (fun v _ i wr=>∃k:Nat,k≤8∧i= .int .i64 k∧v= .int .u64 ((aH ((l.drop at_).take k):Nat):Int)∧RdA wr p (.slice (some ⟨g,o,none⟩) l.length c) l at_ 0∧jF p w wr) (fun _ _ i _=>8-(intOf i).toNat)
  case atStart=>exact⟨0,by omega,rfl,rfl,HA.out,HO.out⟩
  case round=>
   obtain⟨k,hk,rfl,rfl,ha,ho⟩:=hrel
   have HAR:=hid ha
   have HOR:=hid ho
   obtain⟨⟨b0,wh,hb⟩,⟨A',c',e', -, -,hrow⟩, -, -⟩:=ha
   injection e' with e1 e2 e3
   subst e1
   subst e3
   obtain⟨g',o',e4,hcell⟩:=hrow.at_ (by omega)
   injection e4 with e4
   injection e4 with e5 e6
   subst e5;subst e6
   by_cases hlt:k<8
   ·have hj0:wr.cell? ⟨p,0,none⟩=some (.slice (some ⟨g,o,none⟩) l.length c):=hb.cell 0
    have hj1:wr.cell? ⟨p,1,none⟩=some (.int .i64 (at_:Int)):=hb.cell 1
    have hat:at_+k<l.length:=by omega
    have hjb:wr.cell? ⟨g,o+(at_+k),none⟩=some (.int .u8 ((l[at_+k]).toNat:Int)):=hcell _ _ (by rw[List.getElem?_map,List.getElem?_eq_getElem hat];rfl)
    have hjz:k=0→wr.cell? ⟨g,o+at_,none⟩=some (.int .u8 ((l[at_+k]).toNat:Int)):=fun hz=>by subst hz;exact hjb
    have HNT:=hid (lS (l.drop at_) k l[at_+k] (by rw[List.getElem?_drop,List.getElem?_eq_getElem hat]))
    have HNL:=hid (show aH ((l.drop at_).take k)<256^k from Nat.lt_of_lt_of_le (dD _) (Nat.pow_le_pow_right (by decide) (by rw[List.length_take];omega)))
    have HBB:=hid ((l[at_+k]).toNat_lt)
    clear hb hrow hcell
    generalize(l[at_+k]).toNat=bb at*
    generalize aH ((l.drop at_).take k)=nv at*
    have hkk:k=0∨k=1∨k=2∨k=3∨k=4∨k=5∨k=6∨k=7:=by omega
    rcases hkk with rfl|rfl|rfl|rfl|rfl|rfl|rfl|rfl
    ·have HOV:=hid (kC 0 nv bb (by decide) HNL.out HBB.out)
     have PZ:=hjz rfl
     go_upto_region 7 with(fail)
     go_region
     go_wp2_with fail
     go_roundw
     case rel=>
      refine⟨1,by omega,by go_num, ?_,HAR.out.below (aC wr),HOR.out.drew⟩
      rw[HNT.out]
      exact congrArg (Value.int .u64) (by first|exact HOV.out|(have h:=HOV.out;rw[show((256^0:Nat):Int)=1 from rfl,Int.mul_one]at h;exact h))
     case measure=>simp[intOf]
    ·have HOV:=hid (kC 1 nv bb (by decide) HNL.out HBB.out)
     go_upto_region 7 with(fail)
     go_region
     go_wp2_with fail
     go_roundw
     case rel=>
      refine⟨2,by omega,by go_num, ?_,HAR.out.below (aC wr),HOR.out.drew⟩
      rw[HNT.out]
      exact congrArg (Value.int .u64) (by first|exact HOV.out|(have h:=HOV.out;rw[show((256^0:Nat):Int)=1 from rfl,Int.mul_one]at h;exact h))
     case measure=>simp[intOf]
    ·have HOV:=hid (kC 2 nv bb (by decide) HNL.out HBB.out)
     go_upto_region 7 with(fail)
     go_region
     go_wp2_with fail
     go_roundw
     case rel=>
      refine⟨3,by omega,by go_num, ?_,HAR.out.below (aC wr),HOR.out.drew⟩
      rw[HNT.out]
      exact congrArg (Value.int .u64) (by first|exact HOV.out|(have h:=HOV.out;rw[show((256^0:Nat):Int)=1 from rfl,Int.mul_one]at h;exact h))
     case measure=>simp[intOf]
    ·have HOV:=hid (kC 3 nv bb (by decide) HNL.out HBB.out)
     go_upto_region 7 with(fail)
     go_region
     go_wp2_with fail
     go_roundw
     case rel=>
      refine⟨4,by omega,by go_num, ?_,HAR.out.below (aC wr),HOR.out.drew⟩
      rw[HNT.out]
      exact congrArg (Value.int .u64) (by first|exact HOV.out|(have h:=HOV.out;rw[show((256^0:Nat):Int)=1 from rfl,Int.mul_one]at h;exact h))
     case measure=>simp[intOf]
    ·have HOV:=hid (kC 4 nv bb (by decide) HNL.out HBB.out)
     go_upto_region 7 with(fail)
     go_region
     go_wp2_with fail
     go_roundw
     case rel=>
      refine⟨5,by omega,by go_num, ?_,HAR.out.below (aC wr),HOR.out.drew⟩
      rw[HNT.out]
      exact congrArg (Value.int .u64) (by first|exact HOV.out|(have h:=HOV.out;rw[show((256^0:Nat):Int)=1 from rfl,Int.mul_one]at h;exact h))
     case measure=>simp[intOf]
    ·have HOV:=hid (kC 5 nv bb (by decide) HNL.out HBB.out)
     go_upto_region 7 with(fail)
     go_region
     go_wp2_with fail
     go_roundw
     case rel=>
      refine⟨6,by omega,by go_num, ?_,HAR.out.below (aC wr),HOR.out.drew⟩
      rw[HNT.out]
      exact congrArg (Value.int .u64) (by first|exact HOV.out|(have h:=HOV.out;rw[show((256^0:Nat):Int)=1 from rfl,Int.mul_one]at h;exact h))
     case measure=>simp[intOf]
    ·have HOV:=hid (kC 6 nv bb (by decide) HNL.out HBB.out)
     go_upto_region 7 with(fail)
     go_region
     go_wp2_with fail
     go_roundw
     case rel=>
      refine⟨7,by omega,by go_num, ?_,HAR.out.below (aC wr),HOR.out.drew⟩
      rw[HNT.out]
      exact congrArg (Value.int .u64) (by first|exact HOV.out|(have h:=HOV.out;rw[show((256^0:Nat):Int)=1 from rfl,Int.mul_one]at h;exact h))
     case measure=>simp[intOf]
    ·have HOV:=hid (kC 7 nv bb (by decide) HNL.out HBB.out)
     go_upto_region 7 with(fail)
     go_region
     go_wp2_with fail
     go_roundw
     case rel=>
      refine⟨8,by omega,by go_num, ?_,HAR.out.below (aC wr),HOR.out.drew⟩
      rw[HNT.out]
      exact congrArg (Value.int .u64) (by first|exact HOV.out|(have h:=HOV.out;rw[show((256^0:Nat):Int)=1 from rfl,Int.mul_one]at h;exact h))
     case measure=>simp[intOf]
   ·have hk2:k=8:=by omega
    subst hk2
    have hj1:wr.cell? ⟨p,1,none⟩=some (.int .i64 (at_:Int)):=hb.cell 1
    have hz1:wr.frozen? ⟨p,1,none⟩=false:=hb.frozen 1
    have HBK:=hid (show Blk (wr.setCell ⟨p,1,none⟩ (.int .i64 ((at_:Int)+8))) p 129 #[.slice (some ⟨g,o,none⟩) l.length c,.int .i64 ((at_+8:Nat):Int),.int .i64 b0,.int .i64 ((0:Nat):Int),.int .i64 wh]from by
     have h:=hb.aW 1 (.int .i64 ((at_:Int)+8))
     rw[show((at_+8:Nat):Int)=(at_:Int)+8 from by omega]
     exact h)
    have HOF:=hid ((Off.refl (fun i=>i=p) wr).setCell (p:=⟨p,1,none⟩) rfl (.int .i64 ((at_:Int)+8)))
    have HNL:=hid (show aH ((l.drop at_).take 8)<256^8 from Nat.lt_of_lt_of_le (dD _) (Nat.pow_le_pow_right (by decide) (by rw[List.length_take];omega)))
    have HG:=hid (pz (show 8≤(l.drop at_).length from by rw[List.length_drop];omega))
    have hnl:aH ((l.drop at_).take 8)<18446744073709551616:=HNL.out
    generalize hnv:aH ((l.drop at_).take 8)=nv at*
    clear hb hrow hcell
    go_wp2_with fail
    generalize wr.setCell ⟨p,1,none⟩ (.int .i64 ((at_:Int)+8))=wz at HBK HOF⊢
    go_ret
    refine⟨jP (by rw[HG.out]), ?_,HOR.out.trans HOF.out⟩
    rw[HG.out]
    exact⟨at_+8,0,⟨⟨b0,wh,HBK.out⟩,HAR.out.row.off HOF.out HAR.out.wM,by omega,hll⟩,rfl,by rw[List.drop_drop]⟩
 ·have HG:=hid (uV hlen)
  go_wp2_with fail
  go_ret
  exact⟨jP (by rw[HG.out];rfl),by rw[HG.out];exact hs,HO.out⟩
theorem qU{w:World}{p:Nat}{bv:Value}{l:List UInt8}{st:Option (List UInt8)}(h:RdS w p bv l st):
  Calls Tryz.prog 41 #[.pointer (some ⟨p,0,none⟩)] w fun e w'=>e= .returned (.int .u8 ((dF 1 st).1:Int))∧RdS w' p bv l (dF 1 st).2∧jF p w w':=by
 have HP:=hid (PY h);clear h
 go_enter Tryz.func41,Tryz.ntmps41
 go_wp2_with fail
 refine HP.out.mono ?_
 rintro e w1 ⟨rfl,hs,hb⟩
 have HS:=hid (And.intro hs hb);clear hs hb HP
 go_wp2_with fail
 go_ret
 exact⟨rfl,HS.out⟩
theorem kE{w:World}{p:Nat}{bv:Value}{l:List UInt8}{st:Option (List UInt8)}(h:RdS w p bv l st):
  Calls Tryz.prog 42 #[.pointer (some ⟨p,0,none⟩)] w fun e w'=>e= .returned (.int .u16 ((dF 2 st).1:Int))∧RdS w' p bv l (dF 2 st).2∧jF p w w':=by
 have HP:=hid (Ob h);clear h
 go_enter Tryz.func42,Tryz.ntmps42
 go_wp2_with fail
 refine HP.out.mono ?_
 rintro e w1 ⟨rfl,hs,hb⟩
 have HS:=hid (And.intro hs hb);clear hs hb HP
 go_wp2_with fail
 go_ret
 exact⟨rfl,HS.out⟩
theorem iZ{w:World}{p:Nat}{bv:Value}{l:List UInt8}{st:Option (List UInt8)}(h:RdS w p bv l st):
  Calls Tryz.prog 40 #[.pointer (some ⟨p,0,none⟩)] w fun e w'=>e= .returned (.int .u32 ((dF 4 st).1:Int))∧RdS w' p bv l (dF 4 st).2∧jF p w w':=by
 have HP:=hid (Oc h);clear h
 go_enter Tryz.func40,Tryz.ntmps40
 go_wp2_with fail
 refine HP.out.mono ?_
 rintro e w1 ⟨rfl,hs,hb⟩
 have HS:=hid (And.intro hs hb);clear hs hb HP
 go_wp2_with fail
 go_ret
 exact⟨rfl,HS.out⟩
theorem pG{w:World}{p:Nat}{bv:Value}{l:List UInt8}{st:Option (List UInt8)}(h:RdS w p bv l st):
  Calls Tryz.prog 156 #[.pointer (some ⟨p,0,none⟩)] w fun e w'=>e= .returned (.int .u64 ((dF 8 st).1:Int))∧RdS w' p bv l (dF 8 st).2∧jF p w w':=by
 have HP:=hid (Oe h);clear h
 go_enter Tryz.func156,Tryz.ntmps156
 go_wp2_with fail
 refine HP.out.mono ?_
 rintro e w1 ⟨rfl,hs,hb⟩
 have HS:=hid (And.intro hs hb);clear hs hb HP
 go_wp2_with fail
 go_ret
 exact⟨rfl,HS.out⟩
theorem KI(a b:Nat)(ha:a<256)(hb:b<256):bits .or .i64 (a:Int) ((b:Int)*256)=((a+256*b:Nat):Int):=by
 have hx:a ||| b*256<2^64:=Nat.or_lt_two_pow (by omega) (by omega)
 have h2:a ||| b*256=a+256*b:=by
  rw[show b*256=2^8*b by omega,Nat.or_comm,←Nat.two_pow_add_eq_or_of_lt (by omega)]
  omega
 rw[show(b:Int)*256=((b*256:Nat):Int) by omega]
 show IntKind.i64.wrap ((BitVec.ofInt 64 (a:Int) ||| BitVec.ofInt 64 ((b*256:Nat):Int)).toNat:Int)=_
 rw[BitVec.toNat_or,ofInt_u64 a (by omega),ofInt_u64 (b*256) (by omega),IntKind.wrap_i64,h2]
 omega
def KJ(p:Nat)(bv:Value)(l:List UInt8)(st:Option (List UInt8))(w:World)(e:Ending)(w':World):Prop:=jF p w w'∧
 ((∃r,st=some r∧2≤r.length∧2+aH (r.take 2)≤r.length∧e= .returned (.tuple #[.int .i64 ((aH (r.take 2):Nat):Int),.bool true])∧RdS w' p bv l st)∨
  ((∀r,st=some r→r.length<2∨r.length<2+aH (r.take 2))∧(∃n:Int,e= .returned (.tuple #[.int .i64 n,.bool false]))∧RdS w' p bv l none))
theorem qG{w:World}{p:Nat}{bv:Value}{l:List UInt8}{st:Option (List UInt8)}(h:RdS w p bv l st):
  Calls Tryz.prog 197 #[.pointer (some ⟨p,0,none⟩)] w (KJ p bv l st w):=by
 have HR:=hid (ku 2 h)
 clear h
 go_enter Tryz.func197,Tryz.ntmps197
 go_wp2_with fail
 refine HR.out.mono ?_
 rintro e w1 ⟨ho,hr⟩
 have HO:=hid ho;clear ho HR
 rcases hr with⟨r,rfl,hlen,rfl,hs⟩|⟨hlen,rfl,hs⟩
 ·obtain⟨at_,err,h,hs⟩:=hs
  obtain⟨rfl,rfl⟩:=hs
  have HA:=hid h
  have hll:=h.len
  have hle:=h.le
  obtain⟨⟨b0,wh,hb⟩,⟨A,c,rfl,hc,hm,hrow⟩, -, -⟩:=h
  rw[List.length_drop]at hlen
  obtain⟨g,o,rfl,hcell⟩:=hrow.at_ (by omega)
  have k0:w1.cell? ⟨p,0,none⟩=some (.slice (some ⟨g,o,none⟩) l.length c):=hb.cell 0
  have k1:w1.cell? ⟨p,1,none⟩=some (.int .i64 (at_:Int)):=hb.cell 1
  have hc0:w1.cell? ⟨g,o+at_,none⟩=some (.int .u8 ((l[at_]'(by omega)).toNat:Int)):=hcell at_ _ (by rw[List.getElem?_map,List.getElem?_eq_getElem (by omega)];rfl)
  have hc1:w1.cell? ⟨g,o+(at_+1),none⟩=some (.int .u8 ((l[at_+1]'(by omega)).toNat:Int)):=hcell (at_+1) _ (by rw[List.getElem?_map,List.getElem?_eq_getElem (by omega)];rfl)
  have HNV:=hid (show aH ((l.drop at_).take 2)=(l[at_]'(by omega)).toNat+256*(l[at_+1]'(by omega)).toNat from by
   have h1:=lS (l.drop at_) 1 (l[at_+1]'(by omega)) (by rw[List.getElem?_drop,List.getElem?_eq_getElem (by omega)])
   have h0:=lS (l.drop at_) 0 (l[at_]'(by omega)) (by rw[List.getElem?_drop,Nat.add_zero,List.getElem?_eq_getElem (by omega)])
   rw[List.take_zero]at h0
   rw[h1,h0]
   simp[aH]
   omega)
  have ha:=(l[at_]'(by omega)).toNat_lt
  have hb':=(l[at_+1]'(by omega)).toNat_lt
  clear hb hrow hcell
  generalize(l[at_]'(by omega)).toNat=x at*
  generalize(l[at_+1]'(by omega)).toNat=y at*
  have HOC:=hid (KI x y ha hb')
  go_upto_region 3 with(fail)
  go_region
  rw[HOC.out]
  have hnl:x+256*y<65536:=by omega
  generalize hn:x+256*y=n at HNV hnl⊢
  have HA2:=hid (HA.out.below (aC w1))
  have HO2:=hid HO.out.drew
  clear HOC hc0 hc1 k0 k1
  generalize w1.drew=w2 at HA2 HO2⊢
  have hh:=ku (2+n) (st:=some (l.drop at_)) ⟨at_,0,HA2.out,rfl,rfl⟩
  rw[show((2+n:Nat):Int)=2+(n:Int)from by omega]at hh
  have HH:=hid hh
  clear hh hn
  go_wp2_with fail
  refine HH.out.mono ?_
  rintro e w3 ⟨ho,hr⟩
  have HO3:=hid (HO2.out.trans ho)
  clear ho HH
  rcases hr with⟨r,hr,hlen2,rfl,hs⟩|⟨hlen2,rfl,hs⟩
  ·injection hr with hr
   subst hr
   have HL2:=hid hlen2
   clear hlen2
   have qm:=hid (show KJ p (.slice (some ⟨g,o,none⟩) l.length c) l (some (l.drop at_)) w (.returned (.tuple #[.int .i64 (n:Int),.bool true])) w3 from by
    refine⟨HO3.out,.inl ⟨_,rfl,by rw[List.length_drop];omega, ?_, ?_,hs⟩⟩
    ·rw[HNV.out];exact HL2.out
    ·rw[HNV.out])
   go_wp2_with fail
   go_ret2
   exact qm.out
  ·have HL2:=hid (hlen2 _ rfl)
   clear hlen2
   go_wp2_with fail
   go_ret2
   refine⟨HO3.out,.inr ⟨fun r hr=> .inr ?_,⟨n,rfl⟩,hs⟩⟩
   injection hr with hr
   subst hr
   rw[HNV.out]
   exact HL2.out
 ·go_wp2_with fail
  go_ret2
  exact⟨HO.out,.inr ⟨fun r hr=> .inl (hlen r hr),⟨0,rfl⟩,hs⟩⟩
def bJ(st:Option (List UInt8)):ByteArray×Option (List UInt8):=match st with
 |none=>(e0,none)
 |some r=>match aN r with
  |none=>(e0,none)
  |some (s,r)=>(s,some r)
theorem wO{w:World}{g o c:Nat}(l:List UInt8)(h:∀j u,(aX l)[j]? =some u→w.cell? ⟨g,o+j,none⟩=some u):(convert 22 9 (.slice (some ⟨g,o,none⟩) l.length c)).run Tryz.prog w= .ok (.string (ofL l)) w:=by
 refine run_convert_bytes_back (P:=Tryz.prog) w 22 9 5 ⟨g,o,none⟩ c l Tryz.underlying22 Tryz.underlying5 Tryz.underlying9 (fun j hj=> ?_)
 have e:(Addr.mk g o none).add j=⟨g,o+j,none⟩:=by
  unfold Addr.add
  by_cases h0:j=0<;>simp[h0]
 rw[e]
 exact h j _ (by rw[List.getElem?_map,List.getElem?_eq_getElem hj];rfl)
theorem jT{w:World}{p:Nat}{bv:Value}{l:List UInt8}{st:Option (List UInt8)}(hr:Ready w)(h8:8≤p)(h:RdS w p bv l st):
  Calls Tryz.prog 137 #[.pointer (some ⟨p,0,none⟩)] w fun e w'=>e= .returned (.string (bJ st).1)∧RdS w' p bv l (bJ st).2∧jF p w w':=by
 have HC:=hid (qG h)
 have HRD:=hid hr
 clear h hr
 go_enter Tryz.func137,Tryz.ntmps137
 go_wp2_with fail
 refine HC.out.mono ?_
 rintro e w1 ⟨ho,hr⟩
 have HO:=hid ho;clear ho HC
 rcases hr with⟨r,rfl,hlen,hlen2,rfl,hs⟩|⟨hlen,⟨n,rfl⟩,hs⟩
 ·obtain⟨at_,err,h,hs⟩:=hs
  obtain⟨rfl,hdr⟩:=hs
  subst hdr
  have HA:=hid h
  have hll:=h.len
  have hle:=h.le
  obtain⟨⟨b0,wh,hb⟩,⟨A,c,rfl,hc,hm,hrow⟩, -, -⟩:=h
  rw[List.length_drop]at hlen hlen2
  obtain⟨g,o,rfl,hcell⟩:=hrow.at_ (by omega)
  generalize hn:aH ((l.drop at_).take 2)=n at hlen2⊢
  obtain⟨X,hX⟩:∃X,X=(l.drop (at_+2)).take n:=⟨_,rfl⟩
  have hXl:X.length=n:=by rw[hX,List.length_take,List.length_drop];omega
  have hcv:(convert 22 9 (.slice (if c=at_+2 then some ⟨g,o,none⟩else some ⟨g,o+(at_+2),none⟩) (at_+2+n-(at_+2)) (c-(at_+2)))).run Tryz.prog w1.drew= .ok (.string (ofL X)) w1.drew:=by
   rw[show at_+2+n-(at_+2)=X.length by omega]
   by_cases hcz:c=at_+2
   ·rw[if_pos hcz]
    have hX0:X=[]:=List.eq_nil_of_length_eq_zero (by omega)
    rw[hX0]
    exact wO [] (fun j u hj=>by simp at hj)
   ·rw[if_neg hcz]
    refine wO (w:=w1.drew) X (fun j u hj=> ?_)
    rw[hX]at hj
    have hj':j<n:=by
     have:=(List.getElem?_eq_some_iff.1 hj).1
     rw[List.length_map,←hX,hXl]at this
     exact this
    rw[Nat.add_assoc]
    refine hcell (at_+2+j) u ?_
    rw[List.getElem?_map]at hj⊢
    rw[List.getElem?_take_of_lt hj',List.getElem?_drop]at hj
    exact hj
  have U4:(convert 22 9 (.slice (if c=at_+2 then some ⟨g,o,none⟩else some ⟨g,o+(at_+2),none⟩) n (c-(at_+2)))).run Tryz.prog w1.drew= .ok (.string (ofL X)) w1.drew:=by
   rw[show at_+2+n-(at_+2)=n by omega]at hcv
   exact hcv
  have k0:w1.drew.cell? ⟨p,0,none⟩=some (.slice (some ⟨g,o,none⟩) l.length c):=hb.cell 0
  have k1:w1.drew.cell? ⟨p,1,none⟩=some (.int .i64 (at_:Int)):=hb.cell 1
  have j0:w1.cell? ⟨p,0,none⟩=some (.slice (some ⟨g,o,none⟩) l.length c):=hb.cell 0
  have j1:w1.cell? ⟨p,1,none⟩=some (.int .i64 (at_:Int)):=hb.cell 1
  have HX:=hid (And.intro hX (And.intro hXl hn))
  have hlim:at_+2+n≤c:=by omega
  clear hb hrow hcell hX hXl hn
  go_upto_region 4 with(fail)
  go_region
  have HA2:=hid (HA.out.below (aC w1))
  have HO2:=hid HO.out.drew
  have HR2:=hid (HRD.out.low (HO2.out.below (B:=8) (fun i hi=>by omega) HRD.out.eight) (Nat.le_refl 8))
  clear hcv U4 k0 k1 j0 j1
  generalize w1.drew=w2 at HA2 HO2 HR2⊢
  generalize Value.slice (if c=at_+2 then some ⟨g,o,none⟩else some ⟨g,o+(at_+2),none⟩) (at_+2+n-(at_+2)) (c-(at_+2))=sv
  go_wp2_with fail
  refine(qy (ofL X) w2 HR2.out).mono ?_
  rintro e w3 ⟨⟨i,rfl,hi⟩,hb⟩
  have HA3:=hid (HA2.out.below hb)
  have HO3:=hid (HO2.out.trans (Off.of_below hb))
  clear hb
  have HGS:=hid (show aN (l.drop at_)=if good (ofL X)then some (ofL X,l.drop (at_+2+n))else none from by
   obtain⟨e1,e2,e3⟩:=HX.out
   unfold aN bU gJ
   rw[if_pos (by rw[List.length_drop];omega)]
   dsimp only[Option.map]
   rw[e3,if_pos (by rw[List.length_drop,List.length_drop];omega)]
   dsimp only
   rw[List.drop_drop,←e1,List.drop_drop])
  cases hg:good (ofL X)with
  |true=>
   rw[hg]at hi
   have hi0:i<0:=of_decide_eq_true hi
   have HT:=hid (show bJ (some (l.drop at_))=(ofL X,some (l.drop (at_+2+n)))from by
    unfold bJ
    dsimp only
    rw[HGS.out,if_pos hg])
   obtain⟨b1,wh1,hb1⟩:=HA3.out.blk
   have k1:w3.cell? ⟨p,1,none⟩=some (.int .i64 (at_:Int)):=hb1.cell 1
   have z1:w3.frozen? ⟨p,1,none⟩=false:=hb1.frozen 1
   have HBK:=hid (show Blk (w3.setCell ⟨p,1,none⟩ (.int .i64 ((at_:Int)+(2+(n:Int))))) p 129 #[.slice (some ⟨g,o,none⟩) l.length c,.int .i64 ((at_+2+n:Nat):Int),.int .i64 b1,.int .i64 ((0:Nat):Int),.int .i64 wh1]from by
    have h:=hb1.aW 1 (.int .i64 ((at_:Int)+(2+(n:Int))))
    rw[show((at_+2+n:Nat):Int)=(at_:Int)+(2+(n:Int))from by omega]
    exact h)
   have HOF:=hid ((Off.refl (fun i=>i=p) w3).setCell (p:=⟨p,1,none⟩) rfl (.int .i64 ((at_:Int)+(2+(n:Int)))))
   clear hb1 hi hg
   go_wp2_with fail
   generalize w3.setCell ⟨p,1,none⟩ (.int .i64 ((at_:Int)+(2+(n:Int))))=w4 at HBK HOF⊢
   go_ret
   refine⟨Ac (by rw[HT.out]), ?_,HO3.out.trans HOF.out⟩
   rw[HT.out]
   exact⟨at_+2+n,0,⟨⟨b1,wh1,HBK.out⟩,HA3.out.row.off HOF.out HA3.out.wM,by omega,hll⟩,rfl,rfl⟩
  |false=>
   rw[hg]at hi
   have hi0:¬i<0:=of_decide_eq_false hi
   have HT:=hid (show bJ (some (l.drop at_))=(e0,none)from by
    unfold bJ
    dsimp only
    rw[HGS.out,hg]
    rfl)
   clear hi hg
   go_wp2_with fail
   refine(o_ 12 _ (by decide) HA3.out).mono ?_
   rintro e w4 ⟨rfl,ha,ho⟩
   have HA4:=hid ha
   have HO4:=hid (HO3.out.trans ho)
   clear ha ho
   go_wp2_with fail
   go_ret
   refine⟨Ac (by rw[HT.out]), ?_,HO4.out⟩
   rw[HT.out]
   exact⟨at_,12,HA4.out,(show 12≠0 by decide)⟩
 ·have HT:=hid (show bJ st=(e0,none)from by
   cases st with
   |none=>rfl
   |some r=>
    have hr:=hlen r rfl
    unfold bJ aN bU gJ
    dsimp only
    by_cases h2:2≤r.length
    ·rw[if_pos h2]
     dsimp only[Option.map]
     rw[if_neg (by rw[List.length_drop];omega)]
    ·rw[if_neg h2]
     rfl)
  go_wp2_with fail
  go_ret
  exact⟨Ac (by rw[HT.out]),by rw[HT.out];exact hs,HO.out⟩
theorem EL{w:World}{p:Nat}{bv:Value}{l:List UInt8}{at_ err:Nat}(er:Nat)(z:Int)(he:err≠0)(h:RdA w p bv l at_ err):
  Calls Tryz.prog 89 #[.pointer (some ⟨p,0,none⟩),.int .i64 (er:Int),.int .i64 z] w fun e w'=>e= .returned (.tuple #[])∧w=w':=by
 obtain⟨b0,wh,hb⟩:=h.blk
 have k3:w.cell? ⟨p,3,none⟩=some (.int .i64 (err:Int)):=hb.cell 3
 have hne:((err:Int)==0)=false:=by rw[beq_eq_false_iff_ne];omega
 clear hb h
 go_enter Tryz.func89,Tryz.ntmps89
 go_wp2_with fail
 go_end0
 exact⟨rfl,rfl⟩
theorem zn{w:World}{p:Nat}{bv:Value}{l:List UInt8}{st:Option (List UInt8)}(er:Nat)(z:Int)(he:er≠0)(h:RdS w p bv l st):
  Calls Tryz.prog 89 #[.pointer (some ⟨p,0,none⟩),.int .i64 (er:Int),.int .i64 z] w fun e w'=>e= .returned (.tuple #[])∧RdS w' p bv l none∧jF p w w':=by
 obtain⟨at_,err,h,hs⟩:=h
 cases st with
 |none=>
  refine(EL er z hs h).mono ?_
  rintro e w' ⟨rfl,rfl⟩
  exact⟨rfl,⟨at_,err,h,hs⟩,Off.refl _ _⟩
 |some r=>
  obtain⟨rfl, -⟩:=hs
  refine(o_ er z he h).mono ?_
  rintro e w' ⟨rfl,ha,ho⟩
  exact⟨rfl,⟨at_,er,ha,he⟩,ho⟩
theorem ou{w:World}{p:Nat}{bv:Value}{l:List UInt8}{st:Option (List UInt8)}(er:Nat)(he:er≠0)(h:RdS w p bv l st):
  Calls Tryz.prog 256 #[.pointer (some ⟨p,0,none⟩),.int .i64 (er:Int)] w fun e w'=>e= .returned (.tuple #[])∧RdS w' p bv l none∧jF p w w':=by
 have HP:=hid (zn er 0 he h);clear h
 go_enter Tryz.func256,Tryz.ntmps256
 go_wp2_with fail
 refine HP.out.mono ?_
 rintro e w1 ⟨rfl,hs,hb⟩
 have HS:=hid (And.intro hs hb);clear hs hb HP
 go_wp2_with fail
 go_end0
 exact⟨rfl,HS.out⟩
def AX(st:Option (List UInt8)):Option (List UInt8):=match st with
 |some []=>some []
 |_=>none
theorem zo{w:World}{p:Nat}{bv:Value}{l:List UInt8}{st:Option (List UInt8)}(h:RdS w p bv l st):
  Calls Tryz.prog 45 #[.pointer (some ⟨p,0,none⟩)] w fun e w'=>e= .returned (.tuple #[])∧RdS w' p bv l (AX st)∧jF p w w':=by
 have HS:=hid h
 obtain⟨at_,err,h,hs⟩:=h
 have hle:=h.le
 obtain⟨⟨b0,wh,hb⟩,⟨A,c,rfl,hc,hm, -⟩, -,hll⟩:=h
 have k0:w.cell? ⟨p,0,none⟩=some (.slice A l.length c):=hb.cell 0
 have k1:w.cell? ⟨p,1,none⟩=some (.int .i64 (at_:Int)):=hb.cell 1
 clear hb
 by_cases hlt:at_<l.length
 ·have HE:=hid (show AX st=none from by
   cases st with
   |none=>rfl
   |some r=>
    obtain⟨-,rfl⟩:=hs
    cases hd:l.drop at_ with
    |nil=>have:=congrArg List.length hd;rw[List.length_drop]at this;simp at this;omega
    |cons x r=>rfl)
  clear hs
  go_enter Tryz.func45,Tryz.ntmps45
  go_wp2_with fail
  go_region
  go_wp2_with fail
  refine(zn 14 0 (by decide) (HS.out.below (aC w))).mono ?_
  rintro e w2 ⟨rfl,ha,ho⟩
  have HA:=hid (And.intro ha ((Off.refl (fun i=>i=p) w).drew.trans ho))
  clear ha ho
  go_wp2_with fail
  go_end0
  rw[HE.out]
  exact⟨rfl,HA.out⟩
 ·have HE:=hid (show AX st=st from by
   cases st with
   |none=>rfl
   |some r=>
    obtain⟨-,rfl⟩:=hs
    rw[List.drop_eq_nil_of_le (by omega)]
    rfl)
  clear hs
  go_enter Tryz.func45,Tryz.ntmps45
  go_wp2_with fail
  go_region
  go_wp2_with fail
  go_end0
  rw[HE.out]
  exact⟨rfl,HS.out.below (aC w),(Off.refl _ w).drew⟩
theorem sS{w:World}{p:Nat}{bv:Value}{l:List UInt8}{st:Option (List UInt8)}(h:RdS w p bv l st):
  Calls Tryz.prog 46 #[.pointer (some ⟨p,0,none⟩)] w fun e w'=>(∃(er:Nat) (wh:Int),e= .returned (.tuple #[.int .i64 (er:Int),.int .i64 wh])∧(er=0↔st.isSome=true))∧RdS w' p bv l st∧Below w.heap.size w w':=by
 have HS:=hid (h.below (aC w))
 obtain⟨at_,err,h,hs⟩:=h
 obtain⟨b0,wh,hb⟩:=h.blk
 have k3:w.cell? ⟨p,3,none⟩=some (.int .i64 (err:Int)):=hb.cell 3
 have k4:w.cell? ⟨p,4,none⟩=some (.int .i64 wh):=hb.cell 4
 have HE:=hid (show err=0↔st.isSome=true from by
  cases st with
  |none=>exact⟨fun h=>absurd h hs,fun h=>by cases h⟩
  |some r=>exact⟨fun _=>rfl,fun _=>hs.1⟩)
 clear hb hs h
 go_enter Tryz.func46,Tryz.ntmps46
 go_wp2_with fail
 go_region
 go_wp2_with fail
 go_ret2
 exact⟨⟨err,wh,rfl,HE.out⟩,HS.out,aC w⟩
end Go.Proofs.YtkblmloobkiloaaGreatDoor
