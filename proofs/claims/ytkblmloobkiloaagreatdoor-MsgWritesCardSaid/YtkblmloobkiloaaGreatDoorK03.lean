/-
  MW: what the laws of package msg need of them.
-/
import Derived.Test.YtkblmloobkiloaaGreatDoorK00
import Derived.Test.YtkblmloobkiloaaGreatDoorK02
import Derived.IntWalk
import Derived.WalkSmall
import Derived.Lib.AppendStr
set_option maxRecDepth 100000
set_option maxHeartbeats 3200000
namespace Go.Proofs.YtkblmloobkiloaaGreatDoor
open Go.Lib (hid)
open Go.RowKit
structure gZ(w:World)(base p lim:Nat)(bv:Value)(l:List UInt8)(ov:Value)(op:List Nat)(err:Nat):Prop where
 blk:Blk w p 159 #[.int .i64 (lim:Int),bv,ov,.int .i64 (err:Int)]
 own:w.ownsRow base 5 1 bv l.length (aX l)
 opn:w.ownsRow base 3 1 ov op.length (vF op)
 low:base≤p
 len:l.length≤lim
 top:lim≤16777216
 few:op.length≤16
section
variable {w w':World} {base p lim:Nat} {bv ov:Value} {l:List UInt8} {op:List Nat} {err:Nat}
theorem gZ.sz(h:gZ w base p lim bv l ov op err):base<w.heap.size+1:=Nat.lt_succ_of_le (Nat.le_trans h.low (Nat.le_of_lt h.blk.lt))
theorem gZ.le(h:gZ w base p lim bv l ov op err):base≤w.heap.size:=Nat.le_of_lt_succ h.sz
theorem gZ.below(h:gZ w base p lim bv l ov op err)(hb:Below w.heap.size w w'):gZ w' base p lim bv l ov op err:=
 ⟨h.blk.below hb h.blk.lt,own_below h.own hb,own_below h.opn hb,h.low,h.len,h.top,h.few⟩
theorem gZ.fail(h:gZ w base p lim bv l ov op err)(e:Nat):gZ (w.setCell ⟨p,3,none⟩ (.int .i64 (e:Int))) base p lim bv l ov op e:=
 ⟨h.blk.aW 3 _,jl h.own (gI h.own h.blk (by decide)) (fD _ _ _ _),jl h.opn (gI h.opn h.blk (by decide)) (fD _ _ _ _),h.low,h.len,h.top,h.few⟩
theorem gZ.grow{v':Value}{news:List UInt8}(h:gZ w base p lim bv l ov op err)(hl:(l++news).length≤lim)(ho:w'.ownsRow base 5 1 v' (l++news).length (aX (l++news)))(hg:w.grownBy w' bv.ownBlock):
  gZ (w'.setCell ⟨p,1,none⟩ v') base p lim v' (l++news) ov op err:=by
 have hb:=h.blk.grown hg (fun hh=>gI h.own h.blk (by decide) hh.symm)
 have hop:=yX h.opn h.own hg (by decide)
 exact⟨hb.aW 1 _,jl ho (gI ho hb (by decide)) (fD _ _ _ _),jl hop (gI hop hb (by decide)) (fD _ _ _ _),h.low,hl,h.top,h.few⟩
structure Wk(base:Nat)(w w':World):Prop where
 low:Below base w w'
 kept:∀(g:Nat) cs t fr,w.heap[g]? =some (Obj.cells cs t fr)→t≠159→t≠5→t≠3→w'.heap[g]? =w.heap[g]?
theorem Wk.refl(base:Nat)(w:World):Wk base w w:=⟨Below.refl _ _,fun _ _ _ _ _ _ _ _=>rfl⟩
theorem Wk.trans{a b c:World}(h:Wk base a b)(k:Wk base b c):Wk base a c:=
 ⟨h.low.trans k.low,fun g cs t fr hg h1 h2 h3=>(k.kept g cs t fr ((h.kept g cs t fr hg h1 h2 h3).trans hg) h1 h2 h3).trans (h.kept g cs t fr hg h1 h2 h3)⟩
theorem Wk.of_below{a b:World}(h:Below a.heap.size a b)(hb:base≤a.heap.size):Wk base a b:=⟨h.mono hb,fun g _ _ _ hg _ _ _=>h.block g (dP hg)⟩
theorem Wk.drew{a b:World}(h:Wk base a b):Wk base a b.drew:=⟨h.low.drew,h.kept⟩
theorem Wk.alloc{a b:World}(h:Wk base a b)(hb:base≤b.heap.size)(o:Obj):Wk base a (b.alloc o):=h.trans (Wk.of_below ((Below.refl _ _).alloc (Nat.le_refl _) o) hb)
theorem Wk.aW{a b:World}{g i:Nat}{t:TypeId}{cs:Array Value}(h:Wk base a b)(hg:Blk b g t cs)(ht:t=159∨t=5∨t=3)(hb:base≤g)(v:Value):Wk base a (b.setCell ⟨g,i,none⟩ v):=
 h.trans ⟨(Below.refl _ _).setCell (p:=⟨g,i,none⟩) hb v,fun k cs' t' fr hk h1 h2 h3=>Below.heap_setCell _ _ _ _ (by
  rintro rfl
  unfold Blk at hg
  rw[hg]at hk
  injection hk with hk
  injection hk with _ hk
  subst hk
  rcases ht with h|h|h
  ·exact h1 h
  ·exact h2 h
  ·exact h3 h)⟩
theorem Wk.grown{a b c:World}{n size:Nat}{e:TypeId}{v:Value}{xs:List Value}(h:Wk base a b)(ho:b.ownsRow base e size v n xs)(hg:b.grownBy c v.ownBlock)(he:e=5∨e=3)(hb:base≤b.heap.size):Wk base a c:=
 h.trans ⟨(Below.refl _ _).grown hg hb (fun k hk=>(ho.lt k hk).1),fun g cs t fr hk _ h2 h3=>hg.block g (dP hk) (pV ho hk (by
  rcases he with rfl|rfl
  ·exact h2
  ·exact h3))⟩
theorem Wk.blk{a b:World}{g:Nat}{t:TypeId}{cs:Array Value}(h:Wk base a b)(hg:Blk a g t cs)(h1:t≠159)(h2:t≠5)(h3:t≠3):Blk b g t cs:=(h.kept g _ _ _ hg h1 h2 h3).trans hg
theorem gZ.push{v':Value}{news:List UInt8}(h:gZ w base p lim bv l ov op err)(hl:l.length+news.length≤lim)(ho:w'.ownsRow base 5 1 v' (l++news).length (aX (l++news)))(hg:w.grownBy w' bv.ownBlock):
  ∃l2 A2 c2,l2=l++news∧v'= .slice A2 l2.length c2∧w'.frozen? ⟨p,1,none⟩=false∧w'.cell? ⟨p,1,none⟩=some bv∧gZ (w'.setCell ⟨p,1,none⟩ (.slice A2 l2.length c2)) base p lim (.slice A2 l2.length c2) l2 ov op err∧
   (∀W,Wk base W w→Wk base W (w'.setCell ⟨p,1,none⟩ (.slice A2 l2.length c2))):=by
 obtain⟨A2,c2,rfl, -, -⟩:=aJ ho
 have hb:=h.blk.grown hg (fun hh=>gI h.own h.blk (by decide) hh.symm)
 exact⟨_,A2,c2,rfl,rfl,hb.frozen 1,hb.cell 1,h.grow (by rw[List.length_append];exact hl) ho hg,fun W hW=>(hW.grown h.own hg (.inl rfl) h.le).aW hb (.inl rfl) h.low _⟩
theorem gZ.dH(h:gZ w base p lim bv l ov op err):∀k,bv.ownBlock=some k→base≤k:=fun k hk=>(h.own.lt k hk).1
theorem gZ.c0(h:gZ w base p lim bv l ov op err):w.cell? ⟨p,0,none⟩=some (.int .i64 (lim:Int)):=h.blk.cell 0
theorem gZ.c1(h:gZ w base p lim bv l ov op err):w.cell? ⟨p,1,none⟩=some bv:=h.blk.cell 1
theorem gZ.c2(h:gZ w base p lim bv l ov op err):w.cell? ⟨p,2,none⟩=some ov:=h.blk.cell 2
theorem gZ.c3(h:gZ w base p lim bv l ov op err):w.cell? ⟨p,3,none⟩=some (.int .i64 (err:Int)):=h.blk.cell 3
theorem gZ.z(h:gZ w base p lim bv l ov op err)(i:Nat):w.frozen? ⟨p,i,none⟩=false:=h.blk.frozen i
end
def WrS(w:World)(base p lim:Nat)(st:Option (List UInt8))(op:List Nat):Prop:=
 ∃bv l ov op' err,gZ w base p lim bv l ov op' err∧match st with
  |some l'=>err=0∧l=l'∧op'=op
  |none=>err≠0
section
variable {w w':World} {base p lim:Nat} {st:Option (List UInt8)} {op:List Nat}
theorem WrS.of{bv ov:Value}{l:List UInt8}(h:gZ w base p lim bv l ov op 0):WrS w base p lim (some l) op:=⟨bv,l,ov,op,0,h,rfl,rfl,rfl⟩
theorem WrS.bad{bv ov:Value}{l:List UInt8}{op':List Nat}{err:Nat}(h:gZ w base p lim bv l ov op' err)(he:err≠0):WrS w base p lim none op:=⟨bv,l,ov,op',err,h,he⟩
theorem WrS.below(h:WrS w base p lim st op)(hb:Below w.heap.size w w'):WrS w' base p lim st op:=by
 obtain⟨bv,l,ov,op',err,h,hs⟩:=h
 exact⟨bv,l,ov,op',err,h.below hb,hs⟩
theorem WrS.le(h:WrS w base p lim st op):base≤w.heap.size:=by
 obtain⟨bv,l,ov,op',err,h,hs⟩:=h
 exact h.le
end
def dV(lim:Nat)(st:Option (List UInt8))(x:List UInt8):Option (List UInt8):=
 match st with
 |none=>none
 |some l=>if l.length+x.length≤lim then some (l++x)else none
theorem J3{w:World}{base p lim:Nat}{bv ov:Value}{l:List UInt8}{op:List Nat}{err:Nat}(n:Nat)(h:gZ w base p lim bv l ov op err)(he:err≠0):
  Calls Tryz.prog 191 #[.pointer (some ⟨p,0,none⟩),.int .i64 (n:Int)] w fun e w'=>e= .returned (.bool false)∧w=w':=by
 have k3:=h.c3
 have hne:((err:Int) != 0)=true:=by rw[bne_iff_ne];omega
 clear h
 go_enter Tryz.func191,Tryz.ntmps191
 go_wp2
 go_ret
 exact⟨rfl,rfl⟩
theorem J4{w:World}{base p lim:Nat}{bv ov:Value}{l:List UInt8}{op:List Nat}(n:Nat)(h:gZ w base p lim bv l ov op 0)(hn:l.length+n≤lim):
  Calls Tryz.prog 191 #[.pointer (some ⟨p,0,none⟩),.int .i64 (n:Int)] w fun e w'=>e= .returned (.bool true)∧w'=w.drew:=by
 have k0:=h.c0
 have k1:=h.c1
 have k3:=h.c3
 have ht:=h.top
 obtain⟨A,cap,rfl,hc,hm⟩:=aJ h.own
 clear h
 have hgt:¬((lim:Int)-(l.length:Int)<(n:Int)):=by omega
 go_enter Tryz.func191,Tryz.ntmps191
 go_upto_region 3 with(fail)
 go_region
 go_wp2
 go_ret
 exact⟨rfl,rfl⟩
theorem ND{w:World}{base p lim:Nat}{bv ov:Value}{l:List UInt8}{op:List Nat}(n:Nat)(h:gZ w base p lim bv l ov op 0)(hn:lim<l.length+n):
  Calls Tryz.prog 191 #[.pointer (some ⟨p,0,none⟩),.int .i64 (n:Int)] w fun e w'=>e= .returned (.bool false)∧w'=w.drew.setCell ⟨p,3,none⟩ (.int .i64 11):=by
 have k0:=h.c0
 have k1:=h.c1
 have k3:=h.c3
 have z3:w.drew.frozen? ⟨p,3,none⟩=false:=h.z 3
 have ht:=h.top
 have hll:=h.len
 obtain⟨A,cap,rfl,hc,hm⟩:=aJ h.own
 clear h
 have hgt:wrap64 ((lim:Int)-(l.length:Int))<(n:Int):=by rw[IntWalk.wrap64_in _ (by omega)];omega
 go_enter Tryz.func191,Tryz.ntmps191
 go_upto_region 3 with(fail)
 go_region
 go_wp2
 go_ret
 exact⟨rfl,rfl⟩
theorem jZ{w:World}{base p lim:Nat}{st:Option (List UInt8)}{op:List Nat}(n:Nat)(h:WrS w base p lim st op):
  Calls Tryz.prog 191 #[.pointer (some ⟨p,0,none⟩),.int .i64 (n:Int)] w fun e w'=>Wk base w w'∧
   ((∃l,st=some l∧l.length+n≤lim∧e= .returned (.bool true)∧WrS w' base p lim st op)∨((∀l,st=some l→lim<l.length+n)∧e= .returned (.bool false)∧WrS w' base p lim none op)):=by
 obtain⟨bv,l,ov,op',err,h,hs⟩:=h
 cases st with
 |none=>
  refine(J3 n h hs).mono ?_
  rintro e w' ⟨rfl,rfl⟩
  exact⟨Wk.refl _ _,.inr ⟨fun l hl=>(by cases hl),rfl,WrS.bad h hs⟩⟩
 |some l'=>
  obtain⟨rfl,rfl,rfl⟩:=hs
  by_cases hn:l.length+n≤lim
  ·refine(J4 n h hn).mono ?_
   rintro e w' ⟨rfl,rfl⟩
   exact⟨(Wk.refl _ w).drew,.inl ⟨l,rfl,hn,rfl,(WrS.of h).below (aC w)⟩⟩
  ·refine(ND n h (by omega)).mono ?_
   rintro e w' ⟨rfl,rfl⟩
   refine⟨(Wk.refl _ w).drew.aW (h.below (aC w)).blk (.inl rfl) h.low _,.inr ⟨fun l hl=>(by injection hl with hl;subst hl;omega),rfl, ?_⟩⟩
   exact WrS.bad ((h.below (aC w)).fail 11) (by decide)
theorem pX:∀(w k n:Nat),k<w→(le w n).take (k+1)=(le w n).take k++[UInt8.ofNat (n/256^k%256)]
 |0,k,n,h=>by omega
 |w+1,0,n,h=>by simp[le]
 |w+1,k+1,n,h=>by
  rw[le,List.take_succ_cons,List.take_succ_cons,pX w k (n/256) (by omega),Nat.div_div_eq_div_mul,Nat.pow_succ,Nat.mul_comm 256]
  rfl
theorem mJ(w n:Nat):(le w n).take w=le w n:=List.take_of_length_le (by rw[bK];exact Nat.le_refl _)
theorem kU(n:Nat):(n:Int)%256=(((UInt8.ofNat (n%256)).toNat:Nat):Int):=by
 rw[UInt8.toNat_ofNat',Nat.mod_mod]
 omega
theorem gQ{lim:Nat}{l x:List UInt8}(h:l.length+x.length≤lim):dV lim (some l) x=some (l++x):=if_pos h
theorem dX{lim:Nat}{st:Option (List UInt8)}{x:List UInt8}(h:∀l,st=some l→lim<l.length+x.length):dV lim st x=none:=by
 cases st with
 |none=>rfl
 |some l=>exact if_neg (by have:=h l rfl;omega)
theorem PL{w:World}{base p lim:Nat}{st:Option (List UInt8)}{op:List Nat}(n:Nat)(hn:n<256)(h:WrS w base p lim st op):
  Calls Tryz.prog 117 #[.pointer (some ⟨p,0,none⟩),.int .u8 (n:Int),.int .i64 1] w fun e w'=>e= .returned (.tuple #[])∧WrS w' base p lim (dV lim st (le 1 n)) op∧Wk base w w':=by
 have HR:=hid (jZ 1 h)
 have HLE:=hid h.le
 clear h
 go_enter Tryz.func117,Tryz.ntmps117
 go_wp2_with fail
 refine HR.out.mono ?_
 rintro e w1 ⟨hb,hr⟩
 have HB:=hid hb;clear hb HR
 rcases hr with⟨l,rfl,hlen,rfl,hs⟩|⟨hlen,rfl,hs⟩
 ·obtain⟨bv,l0,ov,op',err,h,hs⟩:=hs
  obtain⟨rfl,rfl,rfl⟩:=hs
  have H:=hid h;clear h
  have HN:=hid hn
  have HLEN:=hid hlen;clear hlen
  go_wp2_with fail
  go_loopw [6,14] (fun v i wr=>∃(k:Nat) (bv:Value),k≤1∧i= .int .i64 k∧v= .int .u64 ((n/256^k:Nat):Int)∧gZ wr base p lim bv (l0++(le 1 n).take k) ov op' 0∧Wk base w wr) (fun _ i _=>1-(intOf i).toNat)
  case atStart=>exact⟨0,bv,by omega,rfl,by first|(rw[Nat.pow_zero,Nat.div_one])|(rw[Nat.pow_zero,Nat.div_one];congr 1;omega)|(rw[Nat.pow_zero,Nat.div_one,IntKind.wrap_u64];congr 1;omega),by simpa using H.out,HB.out⟩
  case round=>
   obtain⟨k,bv,hk,rfl,rfl,h,hb⟩:=hrel
   have HA:=hid h;clear h
   have HB:=hid hb;clear hb
   by_cases hlt:k<1
   ·have ha:=HA.out
    clear HA
    generalize hlk:l0++(le 1 n).take k=lk at ha
    have HL:=hid hlk;clear hlk
    have HA:=hid ha;clear ha
    obtain⟨A,cap,rfl,hc,hm⟩:=aJ HA.out.own
    generalize hnk:n/256^k=nk
    have HK:=hid hnk;clear hnk
    have HU:=hid ((aC wr).alloc (Nat.le_refl _) (.cells #[.int .u8 ((nk:Int)%256)] 5))
    have k1:wr.cell? ⟨p,1,none⟩=_:=HA.out.c1
    have HRD:=hid (show Reads (wr.alloc (.cells #[.int .u8 ((nk:Int)%256)] 5)) (wr.heap.size+1) 1 (some ⟨wr.heap.size,0,none⟩) 1 (aX [UInt8.ofNat (nk%256)])from by
     have h:=dI wr 5 [.int .u8 ((nk:Int)%256)] 1 1 rfl
     rw[show aX [UInt8.ofNat (nk%256)]=[.int .u8 ((nk:Int)%256)]from by rw[kU nk];rfl]
     exact h)
    have HA2:=hid (HA.out.below ((Below.refl _ _).alloc (Nat.le_refl _) (.cells #[.int .u8 ((nk:Int)%256)] 5)))
    have hlt2:=HA.out.len
    have Ej:=hid (show lk.length+([UInt8.ofNat (nk%256)]:List UInt8).length≤lim from by
     have:=HLEN.out
     rw[←HL.out,List.length_append,List.length_take,bK]
     simp only[List.length_cons,List.length_nil]
     omega)
    have htop:=HA.out.top
    go_upto_region 5 with(at_builtin;refine kY (.tmp 20) (.tmp 23) rfl rfl base _ _ rfl HA2.out.own (wr.heap.size+1) _ 1 [UInt8.ofNat (nk%256)] rfl HRD.out (show lk.length+1≤_ by omega) HA2.out.le ?_;intro v2 w2 hown hgr hor;obtain⟨l2,A2,c2,hl2,rfl,z1,k1b,hw3,hb3⟩:=HA2.out.push (news:=[UInt8.ofNat (nk%256)]) Ej.out hown hgr;have HL2:=hid hl2;have HW3:=hid hw3;have HB3:=hid (hb3 w (HB.out.alloc HA.out.le _));clear hown hgr hor hw3 hb3 hl2 k1)
    generalize w2.setCell ⟨p,1,none⟩ (.slice A2 l2.length c2)=w3 at HW3 HB3⊢
    clear z1 k1b
    go_wp2_with fail
    go_roundw
    case rel=>
     have hd:n/256^(k+1)=nk/256:=by rw[Nat.pow_succ,←Nat.div_div_eq_div_mul,HK.out]
     refine⟨k+1,.slice A2 l2.length c2,by omega,by go_num, ?_, ?_,HB3.out⟩
     ·rw[hd];congr 1
     ·rw[pX _ _ _ hlt,HK.out,←List.append_assoc,HL.out,←HL2.out];exact HW3.out
    case measure=>simp[intOf];omega
   ·have hkw:k=1:=by omega
    subst hkw
    have HA2:=hid (show WrS wr base p lim (dV lim (some l0) (le 1 n)) op' from by
     have h:=HA.out
     rw[mJ]at h
     rw[gQ (by rw[bK];exact HLEN.out)]
     exact WrS.of h)
    clear HA hlt
    go_wp2_with fail
    go_end0
    exact⟨rfl,HA2.out,HB.out⟩
 ·go_wp2_with fail
  refine bodyPost_ret (results_none rfl _ _ _) rfl ?_
  refine⟨rfl, ?_,HB.out⟩
  rw[dX (fun l hl=>by rw[bK];exact hlen l hl)]
  exact hs
theorem NG{w:World}{base p lim:Nat}{st:Option (List UInt8)}{op:List Nat}(n:Nat)(hn:n<65536)(h:WrS w base p lim st op):
  Calls Tryz.prog 118 #[.pointer (some ⟨p,0,none⟩),.int .u16 (n:Int),.int .i64 2] w fun e w'=>e= .returned (.tuple #[])∧WrS w' base p lim (dV lim st (le 2 n)) op∧Wk base w w':=by
 have HR:=hid (jZ 2 h)
 have HLE:=hid h.le
 clear h
 go_enter Tryz.func118,Tryz.ntmps118
 go_wp2_with fail
 refine HR.out.mono ?_
 rintro e w1 ⟨hb,hr⟩
 have HB:=hid hb;clear hb HR
 rcases hr with⟨l,rfl,hlen,rfl,hs⟩|⟨hlen,rfl,hs⟩
 ·obtain⟨bv,l0,ov,op',err,h,hs⟩:=hs
  obtain⟨rfl,rfl,rfl⟩:=hs
  have H:=hid h;clear h
  have HN:=hid hn
  have HLEN:=hid hlen;clear hlen
  go_wp2_with fail
  go_loopw [6,14] (fun v i wr=>∃(k:Nat) (bv:Value),k≤2∧i= .int .i64 k∧v= .int .u64 ((n/256^k:Nat):Int)∧gZ wr base p lim bv (l0++(le 2 n).take k) ov op' 0∧Wk base w wr) (fun _ i _=>2-(intOf i).toNat)
  case atStart=>exact⟨0,bv,by omega,rfl,by first|(rw[Nat.pow_zero,Nat.div_one])|(rw[Nat.pow_zero,Nat.div_one];congr 1;omega)|(rw[Nat.pow_zero,Nat.div_one,IntKind.wrap_u64];congr 1;omega),by simpa using H.out,HB.out⟩
  case round=>
   obtain⟨k,bv,hk,rfl,rfl,h,hb⟩:=hrel
   have HA:=hid h;clear h
   have HB:=hid hb;clear hb
   by_cases hlt:k<2
   ·have ha:=HA.out
    clear HA
    generalize hlk:l0++(le 2 n).take k=lk at ha
    have HL:=hid hlk;clear hlk
    have HA:=hid ha;clear ha
    obtain⟨A,cap,rfl,hc,hm⟩:=aJ HA.out.own
    generalize hnk:n/256^k=nk
    have HK:=hid hnk;clear hnk
    have HU:=hid ((aC wr).alloc (Nat.le_refl _) (.cells #[.int .u8 ((nk:Int)%256)] 5))
    have k1:wr.cell? ⟨p,1,none⟩=_:=HA.out.c1
    have HRD:=hid (show Reads (wr.alloc (.cells #[.int .u8 ((nk:Int)%256)] 5)) (wr.heap.size+1) 1 (some ⟨wr.heap.size,0,none⟩) 1 (aX [UInt8.ofNat (nk%256)])from by
     have h:=dI wr 5 [.int .u8 ((nk:Int)%256)] 1 1 rfl
     rw[show aX [UInt8.ofNat (nk%256)]=[.int .u8 ((nk:Int)%256)]from by rw[kU nk];rfl]
     exact h)
    have HA2:=hid (HA.out.below ((Below.refl _ _).alloc (Nat.le_refl _) (.cells #[.int .u8 ((nk:Int)%256)] 5)))
    have hlt2:=HA.out.len
    have Ej:=hid (show lk.length+([UInt8.ofNat (nk%256)]:List UInt8).length≤lim from by
     have:=HLEN.out
     rw[←HL.out,List.length_append,List.length_take,bK]
     simp only[List.length_cons,List.length_nil]
     omega)
    have htop:=HA.out.top
    go_upto_region 5 with(at_builtin;refine kY (.tmp 20) (.tmp 23) rfl rfl base _ _ rfl HA2.out.own (wr.heap.size+1) _ 1 [UInt8.ofNat (nk%256)] rfl HRD.out (show lk.length+1≤_ by omega) HA2.out.le ?_;intro v2 w2 hown hgr hor;obtain⟨l2,A2,c2,hl2,rfl,z1,k1b,hw3,hb3⟩:=HA2.out.push (news:=[UInt8.ofNat (nk%256)]) Ej.out hown hgr;have HL2:=hid hl2;have HW3:=hid hw3;have HB3:=hid (hb3 w (HB.out.alloc HA.out.le _));clear hown hgr hor hw3 hb3 hl2 k1)
    generalize w2.setCell ⟨p,1,none⟩ (.slice A2 l2.length c2)=w3 at HW3 HB3⊢
    clear z1 k1b
    go_wp2_with fail
    go_roundw
    case rel=>
     have hd:n/256^(k+1)=nk/256:=by rw[Nat.pow_succ,←Nat.div_div_eq_div_mul,HK.out]
     refine⟨k+1,.slice A2 l2.length c2,by omega,by go_num, ?_, ?_,HB3.out⟩
     ·rw[hd];congr 1
     ·rw[pX _ _ _ hlt,HK.out,←List.append_assoc,HL.out,←HL2.out];exact HW3.out
    case measure=>simp[intOf];omega
   ·have hkw:k=2:=by omega
    subst hkw
    have HA2:=hid (show WrS wr base p lim (dV lim (some l0) (le 2 n)) op' from by
     have h:=HA.out
     rw[mJ]at h
     rw[gQ (by rw[bK];exact HLEN.out)]
     exact WrS.of h)
    clear HA hlt
    go_wp2_with fail
    go_end0
    exact⟨rfl,HA2.out,HB.out⟩
 ·go_wp2_with fail
  refine bodyPost_ret (results_none rfl _ _ _) rfl ?_
  refine⟨rfl, ?_,HB.out⟩
  rw[dX (fun l hl=>by rw[bK];exact hlen l hl)]
  exact hs
theorem NH{w:World}{base p lim:Nat}{st:Option (List UInt8)}{op:List Nat}(n:Nat)(hn:n<4294967296)(h:WrS w base p lim st op):
  Calls Tryz.prog 116 #[.pointer (some ⟨p,0,none⟩),.int .u32 (n:Int),.int .i64 4] w fun e w'=>e= .returned (.tuple #[])∧WrS w' base p lim (dV lim st (le 4 n)) op∧Wk base w w':=by
 have HR:=hid (jZ 4 h)
 have HLE:=hid h.le
 clear h
 go_enter Tryz.func116,Tryz.ntmps116
 go_wp2_with fail
 refine HR.out.mono ?_
 rintro e w1 ⟨hb,hr⟩
 have HB:=hid hb;clear hb HR
 rcases hr with⟨l,rfl,hlen,rfl,hs⟩|⟨hlen,rfl,hs⟩
 ·obtain⟨bv,l0,ov,op',err,h,hs⟩:=hs
  obtain⟨rfl,rfl,rfl⟩:=hs
  have H:=hid h;clear h
  have HN:=hid hn
  have HLEN:=hid hlen;clear hlen
  go_wp2_with fail
  go_loopw [6,14] (fun v i wr=>∃(k:Nat) (bv:Value),k≤4∧i= .int .i64 k∧v= .int .u64 ((n/256^k:Nat):Int)∧gZ wr base p lim bv (l0++(le 4 n).take k) ov op' 0∧Wk base w wr) (fun _ i _=>4-(intOf i).toNat)
  case atStart=>exact⟨0,bv,by omega,rfl,by first|(rw[Nat.pow_zero,Nat.div_one])|(rw[Nat.pow_zero,Nat.div_one];congr 1;omega)|(rw[Nat.pow_zero,Nat.div_one,IntKind.wrap_u64];congr 1;omega),by simpa using H.out,HB.out⟩
  case round=>
   obtain⟨k,bv,hk,rfl,rfl,h,hb⟩:=hrel
   have HA:=hid h;clear h
   have HB:=hid hb;clear hb
   by_cases hlt:k<4
   ·have ha:=HA.out
    clear HA
    generalize hlk:l0++(le 4 n).take k=lk at ha
    have HL:=hid hlk;clear hlk
    have HA:=hid ha;clear ha
    obtain⟨A,cap,rfl,hc,hm⟩:=aJ HA.out.own
    generalize hnk:n/256^k=nk
    have HK:=hid hnk;clear hnk
    have HU:=hid ((aC wr).alloc (Nat.le_refl _) (.cells #[.int .u8 ((nk:Int)%256)] 5))
    have k1:wr.cell? ⟨p,1,none⟩=_:=HA.out.c1
    have HRD:=hid (show Reads (wr.alloc (.cells #[.int .u8 ((nk:Int)%256)] 5)) (wr.heap.size+1) 1 (some ⟨wr.heap.size,0,none⟩) 1 (aX [UInt8.ofNat (nk%256)])from by
     have h:=dI wr 5 [.int .u8 ((nk:Int)%256)] 1 1 rfl
     rw[show aX [UInt8.ofNat (nk%256)]=[.int .u8 ((nk:Int)%256)]from by rw[kU nk];rfl]
     exact h)
    have HA2:=hid (HA.out.below ((Below.refl _ _).alloc (Nat.le_refl _) (.cells #[.int .u8 ((nk:Int)%256)] 5)))
    have hlt2:=HA.out.len
    have Ej:=hid (show lk.length+([UInt8.ofNat (nk%256)]:List UInt8).length≤lim from by
     have:=HLEN.out
     rw[←HL.out,List.length_append,List.length_take,bK]
     simp only[List.length_cons,List.length_nil]
     omega)
    have htop:=HA.out.top
    go_upto_region 5 with(at_builtin;refine kY (.tmp 20) (.tmp 23) rfl rfl base _ _ rfl HA2.out.own (wr.heap.size+1) _ 1 [UInt8.ofNat (nk%256)] rfl HRD.out (show lk.length+1≤_ by omega) HA2.out.le ?_;intro v2 w2 hown hgr hor;obtain⟨l2,A2,c2,hl2,rfl,z1,k1b,hw3,hb3⟩:=HA2.out.push (news:=[UInt8.ofNat (nk%256)]) Ej.out hown hgr;have HL2:=hid hl2;have HW3:=hid hw3;have HB3:=hid (hb3 w (HB.out.alloc HA.out.le _));clear hown hgr hor hw3 hb3 hl2 k1)
    generalize w2.setCell ⟨p,1,none⟩ (.slice A2 l2.length c2)=w3 at HW3 HB3⊢
    clear z1 k1b
    go_wp2_with fail
    go_roundw
    case rel=>
     have hd:n/256^(k+1)=nk/256:=by rw[Nat.pow_succ,←Nat.div_div_eq_div_mul,HK.out]
     refine⟨k+1,.slice A2 l2.length c2,by omega,by go_num, ?_, ?_,HB3.out⟩
     ·rw[hd];congr 1
     ·rw[pX _ _ _ hlt,HK.out,←List.append_assoc,HL.out,←HL2.out];exact HW3.out
    case measure=>simp[intOf];omega
   ·have hkw:k=4:=by omega
    subst hkw
    have HA2:=hid (show WrS wr base p lim (dV lim (some l0) (le 4 n)) op' from by
     have h:=HA.out
     rw[mJ]at h
     rw[gQ (by rw[bK];exact HLEN.out)]
     exact WrS.of h)
    clear HA hlt
    go_wp2_with fail
    go_end0
    exact⟨rfl,HA2.out,HB.out⟩
 ·go_wp2_with fail
  refine bodyPost_ret (results_none rfl _ _ _) rfl ?_
  refine⟨rfl, ?_,HB.out⟩
  rw[dX (fun l hl=>by rw[bK];exact hlen l hl)]
  exact hs
theorem NI{w:World}{base p lim:Nat}{st:Option (List UInt8)}{op:List Nat}(n:Nat)(hn:n<18446744073709551616)(h:WrS w base p lim st op):
  Calls Tryz.prog 203 #[.pointer (some ⟨p,0,none⟩),.int .u64 (n:Int),.int .i64 8] w fun e w'=>e= .returned (.tuple #[])∧WrS w' base p lim (dV lim st (le 8 n)) op∧Wk base w w':=by
 have HR:=hid (jZ 8 h)
 have HLE:=hid h.le
 clear h
 go_enter Tryz.func203,Tryz.ntmps203
 go_wp2_with fail
 refine HR.out.mono ?_
 rintro e w1 ⟨hb,hr⟩
 have HB:=hid hb;clear hb HR
 rcases hr with⟨l,rfl,hlen,rfl,hs⟩|⟨hlen,rfl,hs⟩
 ·obtain⟨bv,l0,ov,op',err,h,hs⟩:=hs
  obtain⟨rfl,rfl,rfl⟩:=hs
  have H:=hid h;clear h
  have HN:=hid hn
  have HLEN:=hid hlen;clear hlen
  go_wp2_with fail
  go_loopw [6,13] (fun v i wr=>∃(k:Nat) (bv:Value),k≤8∧i= .int .i64 k∧v= .int .u64 ((n/256^k:Nat):Int)∧gZ wr base p lim bv (l0++(le 8 n).take k) ov op' 0∧Wk base w wr) (fun _ i _=>8-(intOf i).toNat)
  case atStart=>exact⟨0,bv,by omega,rfl,by first|(rw[Nat.pow_zero,Nat.div_one])|(rw[Nat.pow_zero,Nat.div_one];congr 1;omega)|(rw[Nat.pow_zero,Nat.div_one,IntKind.wrap_u64];congr 1;omega),by simpa using H.out,HB.out⟩
  case round=>
   obtain⟨k,bv,hk,rfl,rfl,h,hb⟩:=hrel
   have HA:=hid h;clear h
   have HB:=hid hb;clear hb
   by_cases hlt:k<8
   ·have ha:=HA.out
    clear HA
    generalize hlk:l0++(le 8 n).take k=lk at ha
    have HL:=hid hlk;clear hlk
    have HA:=hid ha;clear ha
    obtain⟨A,cap,rfl,hc,hm⟩:=aJ HA.out.own
    generalize hnk:n/256^k=nk
    have HK:=hid hnk;clear hnk
    have HU:=hid ((aC wr).alloc (Nat.le_refl _) (.cells #[.int .u8 ((nk:Int)%256)] 5))
    have k1:wr.cell? ⟨p,1,none⟩=_:=HA.out.c1
    have HRD:=hid (show Reads (wr.alloc (.cells #[.int .u8 ((nk:Int)%256)] 5)) (wr.heap.size+1) 1 (some ⟨wr.heap.size,0,none⟩) 1 (aX [UInt8.ofNat (nk%256)])from by
     have h:=dI wr 5 [.int .u8 ((nk:Int)%256)] 1 1 rfl
     rw[show aX [UInt8.ofNat (nk%256)]=[.int .u8 ((nk:Int)%256)]from by rw[kU nk];rfl]
     exact h)
    have HA2:=hid (HA.out.below ((Below.refl _ _).alloc (Nat.le_refl _) (.cells #[.int .u8 ((nk:Int)%256)] 5)))
    have hlt2:=HA.out.len
    have Ej:=hid (show lk.length+([UInt8.ofNat (nk%256)]:List UInt8).length≤lim from by
     have:=HLEN.out
     rw[←HL.out,List.length_append,List.length_take,bK]
     simp only[List.length_cons,List.length_nil]
     omega)
    have htop:=HA.out.top
    go_upto_region 5 with(at_builtin;refine kY (.tmp 19) (.tmp 22) rfl rfl base _ _ rfl HA2.out.own (wr.heap.size+1) _ 1 [UInt8.ofNat (nk%256)] rfl HRD.out (show lk.length+1≤_ by omega) HA2.out.le ?_;intro v2 w2 hown hgr hor;obtain⟨l2,A2,c2,hl2,rfl,z1,k1b,hw3,hb3⟩:=HA2.out.push (news:=[UInt8.ofNat (nk%256)]) Ej.out hown hgr;have HL2:=hid hl2;have HW3:=hid hw3;have HB3:=hid (hb3 w (HB.out.alloc HA.out.le _));clear hown hgr hor hw3 hb3 hl2 k1)
    generalize w2.setCell ⟨p,1,none⟩ (.slice A2 l2.length c2)=w3 at HW3 HB3⊢
    clear z1 k1b
    go_wp2_with fail
    go_roundw
    case rel=>
     have hd:n/256^(k+1)=nk/256:=by rw[Nat.pow_succ,←Nat.div_div_eq_div_mul,HK.out]
     refine⟨k+1,.slice A2 l2.length c2,by omega,by go_num, ?_, ?_,HB3.out⟩
     ·rw[hd];congr 1
     ·rw[pX _ _ _ hlt,HK.out,←List.append_assoc,HL.out,←HL2.out];exact HW3.out
    case measure=>simp[intOf];omega
   ·have hkw:k=8:=by omega
    subst hkw
    have HA2:=hid (show WrS wr base p lim (dV lim (some l0) (le 8 n)) op' from by
     have h:=HA.out
     rw[mJ]at h
     rw[gQ (by rw[bK];exact HLEN.out)]
     exact WrS.of h)
    clear HA hlt
    go_wp2_with fail
    go_end0
    exact⟨rfl,HA2.out,HB.out⟩
 ·go_wp2_with fail
  refine bodyPost_ret (results_none rfl _ _ _) rfl ?_
  refine⟨rfl, ?_,HB.out⟩
  rw[dX (fun l hl=>by rw[bK];exact hlen l hl)]
  exact hs
theorem qO{w:World}{base p lim:Nat}{st:Option (List UInt8)}{op:List Nat}(n:Nat)(hn:n<256)(h:WrS w base p lim st op):
  Calls Tryz.prog 62 #[.pointer (some ⟨p,0,none⟩),.int .u8 (n:Int)] w fun e w'=>e= .returned (.tuple #[])∧WrS w' base p lim (dV lim st (le 1 n)) op∧Wk base w w':=by
 have HP:=hid (PL n hn h);clear h hn
 go_enter Tryz.func62,Tryz.ntmps62
 go_wp2_with fail
 refine HP.out.mono ?_
 rintro e w1 ⟨rfl,hs,hb⟩
 have HS:=hid hs;clear hs HP
 have HB:=hid hb;clear hb
 go_wp2_with fail
 go_end0
 exact⟨rfl,HS.out,HB.out⟩
theorem lg{w:World}{base p lim:Nat}{st:Option (List UInt8)}{op:List Nat}(n:Nat)(hn:n<65536)(h:WrS w base p lim st op):
  Calls Tryz.prog 63 #[.pointer (some ⟨p,0,none⟩),.int .u16 (n:Int)] w fun e w'=>e= .returned (.tuple #[])∧WrS w' base p lim (dV lim st (le 2 n)) op∧Wk base w w':=by
 have HP:=hid (NG n hn h);clear h hn
 go_enter Tryz.func63,Tryz.ntmps63
 go_wp2_with fail
 refine HP.out.mono ?_
 rintro e w1 ⟨rfl,hs,hb⟩
 have HS:=hid hs;clear hs HP
 have HB:=hid hb;clear hb
 go_wp2_with fail
 go_end0
 exact⟨rfl,HS.out,HB.out⟩
theorem iY{w:World}{base p lim:Nat}{st:Option (List UInt8)}{op:List Nat}(n:Nat)(hn:n<4294967296)(h:WrS w base p lim st op):
  Calls Tryz.prog 61 #[.pointer (some ⟨p,0,none⟩),.int .u32 (n:Int)] w fun e w'=>e= .returned (.tuple #[])∧WrS w' base p lim (dV lim st (le 4 n)) op∧Wk base w w':=by
 have HP:=hid (NH n hn h);clear h hn
 go_enter Tryz.func61,Tryz.ntmps61
 go_wp2_with fail
 refine HP.out.mono ?_
 rintro e w1 ⟨rfl,hs,hb⟩
 have HS:=hid hs;clear hs HP
 have HB:=hid hb;clear hb
 go_wp2_with fail
 go_end0
 exact⟨rfl,HS.out,HB.out⟩
theorem oU{w:World}{base p lim:Nat}{st:Option (List UInt8)}{op:List Nat}(n:Nat)(hn:n<18446744073709551616)(h:WrS w base p lim st op):
  Calls Tryz.prog 154 #[.pointer (some ⟨p,0,none⟩),.int .u64 (n:Int)] w fun e w'=>e= .returned (.tuple #[])∧WrS w' base p lim (dV lim st (le 8 n)) op∧Wk base w w':=by
 have HP:=hid (NI n hn h);clear h hn
 go_enter Tryz.func154,Tryz.ntmps154
 go_wp2_with fail
 refine HP.out.mono ?_
 rintro e w1 ⟨rfl,hs,hb⟩
 have HS:=hid hs;clear hs HP
 have HB:=hid hb;clear hb
 go_wp2_with fail
 go_end0
 exact⟨rfl,HS.out,HB.out⟩
theorem B_{w:World}{base p lim:Nat}{st:Option (List UInt8)}{op:List Nat}(hv:Value)(x:List UInt8)(hx:Bys w base hv x)(h:WrS w base p lim st op):
  Calls Tryz.prog 161 #[.pointer (some ⟨p,0,none⟩),hv] w fun e w'=>e= .returned (.tuple #[])∧WrS w' base p lim (dV lim st x) op∧Wk base w w':=by
 have HR:=hid (jZ x.length h);clear h
 obtain⟨A,cap,rfl,hc,hm,hr⟩:=hx
 have HX:=hid hr;clear hr
 go_enter Tryz.func161,Tryz.ntmps161
 go_wp2_with fail
 refine HR.out.mono ?_
 rintro e w1 ⟨hb,hr⟩
 have HB:=hid hb;clear hb HR
 rcases hr with⟨l,rfl,hlen,rfl,hs⟩|⟨hlen,rfl,hs⟩
 ·obtain⟨bv,l0,ov,op',err,h,hs⟩:=hs
  obtain⟨rfl,rfl,rfl⟩:=hs
  have HA:=hid h;clear h
  have HLEN:=hid hlen;clear hlen
  replace HX:=hid (HX.out.below HB.out.low)
  have htop:=HA.out.top
  have hfit:=HLEN.out
  obtain⟨A1,cap1,rfl,hc1,hm1⟩:=aJ HA.out.own
  have k1:w1.cell? ⟨p,1,none⟩=_:=HA.out.c1
  go_upto_region 9 with(at_builtin;refine kY (.tmp 12) (.tmp 13) rfl rfl base _ _ rfl HA.out.own base _ cap x rfl HX.out (by omega) HA.out.le ?_;intro v2 w2 hown hgr hor;obtain⟨l2,A2,c2,hl2,rfl,z1,k1b,hw3,hb3⟩:=HA.out.push (news:=x) HLEN.out hown hgr;have HL2:=hid hl2;have HW3:=hid hw3;have HB3:=hid (hb3 w HB.out);clear hown hgr hor hw3 hb3 hl2 k1)
  go_end0
  refine⟨rfl, ?_,HB3.out⟩
  rw[gQ HLEN.out,←HL2.out]
  exact WrS.of HW3.out
 ·go_wp2_with fail
  go_end0
  refine⟨rfl, ?_,HB.out⟩
  rw[dX hlen]
  exact hs
def oK(lim:Nat)(st:Option (List UInt8))(s:ByteArray):Option (List UInt8):=if s.size≤65535&&good s then dV lim st (fP s)else none
theorem le2(n:Nat):le 2 n=[UInt8.ofNat (n%256),UInt8.ofNat (n/256%256)]:=rfl
theorem sG(n:Nat)(h:n≤65535):aX (le 2 n)=[.int .u8 ((n:Int)%256),.int .u8 ((n:Int)/256)]:=by
 have h2:(n:Int)/256=(((UInt8.ofNat (n/256%256)).toNat:Nat):Int):=by rw[←kU];omega
 rw[le2,h2,kU n]
 rfl
theorem Ih(w:World)(n:Nat)(h:n≤65535):Reads (w.alloc (.cells #[.int .u8 ((n:Int)%256),.int .u8 ((n:Int)/256)] 5)) (w.heap.size+1) 1 (some ⟨w.heap.size,0,none⟩) (le 2 n).length (aX (le 2 n)):=by
 have h1:=dI w 5 [.int .u8 ((n:Int)%256),.int .u8 ((n:Int)/256)] 2 1 rfl
 rw[←sG n h]at h1
 rw[sG n h]at h1
 rw[sG n h]
 exact h1
theorem UK{w:World}{ops:Array Oper}{rest:List Oper}{o:Oper}{a:Act}{Q:Exit→Act→World→Prop}(s x:Operand)(hgd:o.guard=none)
  (ho:o.op= .call {callee:= .builtin .append,args:= #[s,x],argTypes:= #[22,9]})
  (base:Nat) (v:Value) (l:List UInt8) (hs:a.eval s=v) (hown:w.ownsRow base 5 1 v l.length (aX l))
  (news:ByteArray) (hx:a.eval x= .string news) (hlen:l.length+news.size≤140737488355327) (hbase:base≤w.heap.size)
  (h:∀v' w',w'.ownsRow base 5 1 v' (l++news.data.toList).length (aX (l++news.data.toList))→w.grownBy w' v.ownBlock→wpList Tryz.prog ops Q rest (a.put o.dst v') w'):wpList Tryz.prog ops Q (o::rest) a w:=by
 obtain⟨i0,hi0,hz0,hz1,hz2⟩:=info_parts mF
 refine Lib.wpList_append_own_string w hgd s x _ _ ho base 5 i0 Tryz.underlying22 Tryz.underlying9 hi0 hz0 hz1 hz2 v l.length (aX l) hs hown news hx (by unfold maxLen;omega) (by omega) hbase ?_
 intro v' w' h1 h2 _
 refine h v' w' ?_ h2
 rw[List.length_append,gy,Array.length_toList]
 exact h1
theorem nV{w:World}{base p lim:Nat}{st:Option (List UInt8)}{op:List Nat}(s:ByteArray)(hr:Ready w)(hz:s.size≤1099511627776)(h:WrS w base p lim st op):
  Calls Tryz.prog 135 #[.pointer (some ⟨p,0,none⟩),.string s] w fun e w'=>e= .returned (.tuple #[])∧WrS w' base p lim (oK lim st s) op∧Wk base w w':=by
 obtain⟨bv,l,ov,op',err,h,hs⟩:=h
 have HA:=hid h;clear h
 have HRD:=hid hr;clear hr
 cases st with
 |none=>
  have hne:((err:Int) != 0)=true:=by
   rw[bne_iff_ne]
   have:err≠0:=hs
   omega
  have k3:=HA.out.c3
  go_enter Tryz.func135,Tryz.ntmps135
  go_wp2_with fail
  refine bodyPost_ret (results_none rfl _ _ _) rfl ?_
  refine⟨rfl, ?_,Wk.refl _ _⟩
  have:oK lim none s=none:=by unfold oK;split<;>rfl
  rw[this]
  exact WrS.bad HA.out hs
 |some l'=>
  obtain⟨rfl,rfl,rfl⟩:=hs
  have k3:=HA.out.c3
  have z3:=HA.out.z 3
  by_cases hbig:65535<s.size
  ·go_enter Tryz.func135,Tryz.ntmps135
   go_wp2_with fail
   refine bodyPost_ret (results_none rfl _ _ _) rfl ?_
   refine⟨rfl, ?_,(Wk.refl _ _).aW HA.out.blk (.inl rfl) HA.out.low _⟩
   have:oK lim (some l) s=none:=by unfold oK;rw[if_neg];rw[decide_eq_false (by omega)];simp
   rw[this]
   exact WrS.bad (HA.out.fail 13) (by decide)
  ·have hg:=gu s w HRD.out
   cases hgood:good s with
   |false=>
    rw[hgood]at hg
    have HG:=hid hg;clear hg
    have HGG:=hid hgood;clear hgood
    have Em:=hid hbig
    go_enter Tryz.func135,Tryz.ntmps135
    go_wp2_with fail
    refine HG.out.mono ?_
    rintro e w1 ⟨rfl,hb⟩
    have HA1:=hid (HA.out.below hb)
    have HB:=hid (Wk.of_below hb HA.out.le);clear hb k3 z3
    have z3:=HA1.out.z 3
    have k3:=HA1.out.c3
    go_wp2_with fail
    refine bodyPost_ret (results_none rfl _ _ _) rfl ?_
    refine⟨rfl, ?_,HB.out.aW HA1.out.blk (.inl rfl) HA1.out.low _⟩
    have:oK lim (some l) s=none:=by unfold oK;rw[HGG.out,if_neg];simp
    rw[this]
    exact WrS.bad (HA1.out.fail 12) (by decide)
   |true=>
    rw[hgood]at hg
    have HG:=hid hg;clear hg
    have HGG:=hid (show oK lim (some l) s=dV lim (some l) (fP s)from by unfold oK;rw[hgood,if_pos];rw[decide_eq_true (by omega)];rfl);clear hgood
    go_enter Tryz.func135,Tryz.ntmps135
    go_wp2_with fail
    refine HG.out.mono ?_
    rintro e w1 ⟨rfl,hb⟩
    have HA1:=hid (HA.out.below hb)
    have HB:=hid (Wk.of_below hb HA.out.le);clear hb k3 z3
    have hr:=jZ (2+s.size) (WrS.of HA1.out)
    rw[show((2+s.size:Nat):Int)=2+(s.size:Int)from by omega]at hr
    have HR:=hid hr;clear hr
    go_wp2_with fail
    refine HR.out.mono ?_
    rintro e w2 ⟨hb,hr⟩
    have HB2:=hid (HB.out.trans hb);clear hb HR HA1 HB
    rcases hr with⟨l0,hl0,hlen,rfl,hs⟩|⟨hlen,rfl,hs⟩
    ·injection hl0 with hl0
     subst hl0
     obtain⟨bv,l0,ov,op',err,h,hs⟩:=hs
     obtain⟨rfl,rfl,rfl⟩:=hs
     have HA:=hid h;clear h
     have HLEN:=hid hlen
     have htop:=HA.out.top
     obtain⟨A1,cap1,rfl,hc1,hm1⟩:=aJ HA.out.own
     have k1:w2.cell? ⟨p,1,none⟩=_:=HA.out.c1
     have HA3:=hid (HA.out.below ((Below.refl _ _).alloc (Nat.le_refl _) (.cells #[.int .u8 ((s.size:Int)%256),.int .u8 ((s.size:Int)/256)] 5)))
     have HR2:=hid (Ih w2 s.size (by omega))
     have HSZ:=hid (show l0.length+(le 2 s.size).length≤lim from by rw[bK];omega)
     go_upto_region 7 with(at_builtin;refine kY (.tmp 30) (.tmp 38) rfl rfl base _ _ rfl HA3.out.own (w2.heap.size+1) _ 2 (le 2 s.size) rfl HR2.out (by rw[bK];omega) HA3.out.le ?_;intro v3 w3 hown hgr hor;obtain⟨l2,A2,c2,hl2,rfl,z1,k1b,hw3,hb3⟩:=HA3.out.push (news:=le 2 s.size) HSZ.out hown hgr;have HL2:=hid hl2;have HW3:=hid hw3;have HB3:=hid (hb3 w (HB2.out.alloc HA.out.le _));clear hown hgr hor hw3 hb3 hl2 k1)
     generalize w3.setCell ⟨p,1,none⟩ (.slice A2 l2.length c2)=w4 at HW3 HB3⊢
     clear z1 k1b HR2 HA3 HA HB2
     have k1:w4.cell? ⟨p,1,none⟩=_:=HW3.out.c1
     have HLN:=hid (show l2.length=l0.length+2 from by rw[HL2.out,List.length_append,bK])
     have HS2:=hid (show l2.length+s.data.toList.length≤lim from by rw[HLN.out,Array.length_toList];have:=HLEN.out;show l0.length+2+s.size≤lim;omega)
     go_wp2_with(at_builtin;refine UK (.tmp 46) (.tmp 47) rfl rfl base _ _ rfl HW3.out.own s rfl (by have:=HLN.out;omega) HW3.out.le ?_;intro v5 w5 hown hgr;obtain⟨l3,A3,c3,hl3,rfl,z1,k1b,hw3,hb3⟩:=HW3.out.push (news:=s.data.toList) HS2.out hown hgr;have HL3:=hid hl3;have HW5:=hid hw3;have HB5:=hid (hb3 w HB3.out);clear hown hgr hw3 hb3 hl3 k1)
     go_end0
     refine⟨rfl, ?_,HB5.out⟩
     rw[HGG.out,gQ (by rw[ji];exact HLEN.out)]
     rw[show l0++fP s=l3 from by rw[HL3.out,HL2.out,List.append_assoc];rfl]
     exact WrS.of HW5.out
    ·go_wp2_with fail
     go_end0
     refine⟨rfl, ?_,HB2.out⟩
     rw[HGG.out,dX (fun l1 hl1=>by rw[ji];exact hlen l1 hl1)]
     exact hs
def RQ(st:Option (List UInt8))(w:World)(e:Ending)(w':World):Prop:=match st with
 |some l=>∃v,e= .returned (.tuple #[v,.int .i64 0])∧w'.ownsRow w.heap.size 5 1 v l.length (aX l)
 |none=>∃er:Nat,er≠0∧e= .returned (.tuple #[.slice none 0 0,.int .i64 (er:Int)])
theorem gZ.RU{w w':World}{base p lim:Nat}{bv ov:Value}{l:List UInt8}{op:List Nat}{err:Nat}{v':Value}{n:Nat}(h:gZ w base p lim bv l ov op err)(hf:op.length+1≤16)(ho:w'.ownsRow base 3 1 v' (op++[n]).length (vF (op++[n])))(hg:w.grownBy w' ov.ownBlock):
  ∃k2 A2 c2,v'= .slice A2 k2 c2∧w'.frozen? ⟨p,2,none⟩=false∧w'.cell? ⟨p,2,none⟩=some ov∧gZ (w'.setCell ⟨p,2,none⟩ (.slice A2 k2 c2)) base p lim bv l (.slice A2 k2 c2) (op++[n]) err∧
   (∀W,Wk base W w→Wk base W (w'.setCell ⟨p,2,none⟩ (.slice A2 k2 c2))):=by
 obtain⟨A2,c2,rfl, -, -⟩:=aJ ho
 have hb:=h.blk.grown hg (fun hh=>gI h.opn h.blk (by decide) hh.symm)
 have hbo:=yX h.own h.opn hg (by decide)
 refine⟨_,A2,c2,rfl,hb.frozen 2,hb.cell 2,⟨hb.aW 2 _,jl hbo (gI hbo hb (by decide)) (fD _ _ _ _),jl ho (gI ho hb (by decide)) (fD _ _ _ _),h.low,h.len,h.top,by rw[List.length_append];exact hf⟩,fun W hW=>(hW.grown h.opn hg (.inr rfl) h.le).aW hb (.inl rfl) h.low _⟩
theorem rE{w:World}{base p lim:Nat}{st:Option (List UInt8)}{op:List Nat}(h:WrS w base p lim st op)(hop:op.length<16):
  Calls Tryz.prog 258 #[.pointer (some ⟨p,0,none⟩)] w fun e w'=>(∃n:Nat,e= .returned (.int .i64 (n:Int))∧WrS w' base p lim (dV lim st [0,0]) (op++[n])∧n≤16777216∧∀l,dV lim st [0,0]=some l→l.length=n+2)∧Wk base w w':=by
 have HR:=hid (jZ 2 h);clear h
 go_enter Tryz.func258,Tryz.ntmps258
 go_wp2_with fail
 refine HR.out.mono ?_
 rintro e w1 ⟨hb,hr⟩
 have HB:=hid hb;clear hb HR
 rcases hr with⟨l,rfl,hlen,rfl,hs⟩|⟨hlen,rfl,hs⟩
 ·obtain⟨bv,l0,ov,op',err,h,hs⟩:=hs
  obtain⟨rfl,rfl,rfl⟩:=hs
  have HA:=hid h;clear h
  have HLEN:=hid hlen;clear hlen
  have htop:=HA.out.top
  have hfit:=HLEN.out
  obtain⟨A1,cap1,rfl,hc1,hm1⟩:=aJ HA.out.own
  have k1:w1.cell? ⟨p,1,none⟩=_:=HA.out.c1
  have HA3:=hid (HA.out.below ((Below.refl _ _).alloc (Nat.le_refl _) (.cells #[.int .u8 0,.int .u8 0] 5)))
  have HR2:=hid (show Reads (w1.alloc (.cells #[.int .u8 0,.int .u8 0] 5)) (w1.heap.size+1) 1 (some ⟨w1.heap.size,0,none⟩) ([0,0]:List UInt8).length (aX [0,0])from dI w1 5 [.int .u8 0,.int .u8 0] 2 1 rfl)
  go_upto_region 5 with(at_builtin;refine kY (.tmp 16) (.tmp 17) rfl rfl base _ _ rfl HA3.out.own (w1.heap.size+1) _ 2 [0,0] rfl HR2.out (show l0.length+2≤_ by omega) HA3.out.le ?_;intro v3 w3 hown hgr hor;obtain⟨l2,A2,c2,hl2,rfl,z1,k1b,hw3,hb3⟩:=HA3.out.push (news:=[0,0]) HLEN.out hown hgr;have HL2:=hid hl2;have HW3:=hid hw3;have HB3:=hid (hb3 w (HB.out.alloc HA.out.le _));clear hown hgr hor hw3 hb3 hl2 k1)
  generalize w3.setCell ⟨p,1,none⟩ (.slice A2 l2.length c2)=w4 at HW3 HB3⊢
  clear z1 k1b HR2 HA3 HA HB
  have k2:w4.cell? ⟨p,2,none⟩=_:=HW3.out.c2
  obtain⟨A4,cap4,rfl,hc4,hm4⟩:=aJ HW3.out.opn
  have HA5:=hid (HW3.out.below ((Below.refl _ _).alloc (Nat.le_refl _) (.cells #[.int .i64 (l0.length:Int)] 3)))
  have HR2:=hid (show Reads (w4.alloc (.cells #[.int .i64 (l0.length:Int)] 3)) (w4.heap.size+1) 1 (some ⟨w4.heap.size,0,none⟩) [l0.length].length (vF [l0.length])from dI w4 3 [.int .i64 (l0.length:Int)] 1 1 rfl)
  go_wp2_with(at_builtin;refine PK (.tmp 25) (.tmp 27) rfl rfl base _ _ rfl HA5.out.opn (w4.heap.size+1) _ 1 [l0.length] rfl HR2.out (show op'.length+1≤_ by omega) HA5.out.le ?_;intro v5 w5 hown hgr hor;obtain⟨n5,A5,c5,rfl,z1,k1b,hw3,hb3⟩:=HA5.out.RU (by omega) hown hgr;have HW5:=hid hw3;have HB5:=hid (hb3 w (HB3.out.alloc HW3.out.le _));clear hown hgr hor hw3 hb3 k2)
  go_ret
  refine⟨⟨l0.length,rfl, ?_,by omega,fun l hl=> ?_⟩,HB5.out⟩
  ·rw[gQ HLEN.out,←HL2.out]
   exact WrS.of HW5.out
  ·rw[gQ HLEN.out]at hl
   injection hl with hl
   rw[←hl,List.length_append]
   rfl
 ·go_wp2_with fail
  go_ret
  refine⟨⟨0,rfl, ?_,by omega,fun l hl=> ?_⟩,HB.out⟩
  ·rw[dX hlen]
   obtain⟨bv,l,ov,op',err,h,hs⟩:=hs
   exact WrS.bad h hs
  ·rw[dX hlen]at hl
   cases hl
def patch(n:Nat)(l:List UInt8):List UInt8:=l.take n++(le 2 (l.length-n-2)++l.drop (n+2))
def Cb(n:Nat)(st:Option (List UInt8)):Option (List UInt8):=
 match st with
 |none=>none
 |some l=>if l.length-n-2≤65535 then some (patch n l)else none
theorem Ii(n m:Nat)(l:List UInt8)(h:l.length=n+2+m):(l.set n (UInt8.ofNat (m%256))).set (n+1) (UInt8.ofNat (m/256%256))=patch n l:=by
 unfold patch
 rw[show l.length-n-2=m by omega,le2]
 have h1:l=l.take n++l.drop n:=(List.take_append_drop n l).symm
 obtain⟨x,y,c,hd⟩:∃x y c,l.drop n=x::y::c:=by
  have hl:(l.drop n).length=2+m:=by rw[List.length_drop];omega
  match h2:l.drop n with
  | []=>rw[h2]at hl;exact absurd hl (by rw[List.length_nil];omega)
  | [x]=>rw[h2]at hl;exact absurd hl (by rw[List.length_singleton];omega)
  |x::y::c=>exact⟨x,y,c,rfl⟩
 have hd2:l.drop (n+2)=c:=by rw[←List.drop_drop,hd];rfl
 have ht:(l.take n).length=n:=by rw[List.length_take];omega
 rw[hd2]
 conv=>lhs;rw[h1,hd]
 generalize l.take n=a at ht
 subst ht
 rw[List.set_append_right _ _ (Nat.le_refl _),Nat.sub_self,List.set_cons_zero,List.set_append_right _ _ (by omega),show a.length+1-a.length=1 by omega]
 rfl
theorem gZ.RV{w:World}{base p lim g cap n:Nat}{l:List UInt8}{ov:Value}{op:List Nat}{err:Nat}(h:gZ w base p lim (.slice (some ⟨g,0,none⟩) n cap) l ov op err)(hn:n=l.length)(i:Nat)(b:UInt8):
  gZ (w.setCell ⟨g,i,none⟩ (.int .u8 (b.toNat:Int))) base p lim (.slice (some ⟨g,0,none⟩) n cap) (l.set i b) ov op err∧∀W,Wk base W w→Wk base W (w.setCell ⟨g,i,none⟩ (.int .u8 (b.toNat:Int))):=by
 subst hn
 have hgp:p≠g:=fun hh=>gI h.own h.blk (by decide) (by rw[hh];rfl)
 have hs:=h.own.stored i (.int .u8 (b.toNat:Int))
 have hog:ov.ownBlock≠some g:=by
  intro hh
  rcases h.own.2 with⟨h',_⟩|⟨g',cap',cur,h',_,hg',_⟩
  ·simp at h'
  ·injection h' with h1 _ _
   injection h1 with h1
   injection h1 with h1 _ _
   subst h1
   exact pV h.opn hg' (by decide) hh.symm
 obtain⟨cur,hgb⟩:∃cur,Blk w g 5 cur:=by
  rcases h.own.2 with⟨h',_⟩|⟨g',cap',cur,h',_,hg',_⟩
  ·simp at h'
  ·injection h' with h1 _ _
   injection h1 with h1
   injection h1 with h1 _ _
   subst h1
   exact⟨cur,hg'⟩
 refine⟨⟨h.blk.far (p:=⟨g,i,none⟩) hgp _, ?_,jl h.opn hog (fD _ _ _ _),h.low,by rw[List.length_set];exact h.len,h.top,h.few⟩,fun W hW=>hW.aW hgb (.inr (.inl rfl)) (h.own.lt g rfl).1 _⟩
 rw[List.length_set,show aX (l.set i b)=(aX l).set i (.int .u8 (b.toNat:Int))from List.map_set ..]
 exact hs.1
theorem gZ.UL{w:World}{base p lim g cap:Nat}{bv:Value}{l:List UInt8}{op:List Nat}{n:Nat}{err:Nat}(h:gZ w base p lim bv l (.slice (some ⟨g,0,none⟩) (op.length+1) cap) (op++[n]) err):
  gZ (w.setCell ⟨p,2,none⟩ (.slice (some ⟨g,0,none⟩) op.length cap)) base p lim bv l (.slice (some ⟨g,0,none⟩) op.length cap) op err:=by
 have ho:=h.opn
 rw[List.length_append,vF,List.map_append]at ho
 have ho2:=ownsRow_pop (n:=op.length) (size:=1) (by simp) ho
 exact⟨h.blk.aW 2 _,jl h.own (gI h.own h.blk (by decide)) (fD _ _ _ _),jl ho2 (gI ho2 h.blk (by decide)) (fD _ _ _ _),h.low,h.len,h.top,by have:=h.few;rw[List.length_append]at this;exact Nat.le_of_succ_le this⟩
theorem rF{w:World}{base p lim:Nat}{st:Option (List UInt8)}{op:List Nat}(n:Nat)(hn:n≤16777216)(h:WrS w base p lim st (op++[n]))(hl:∀l,st=some l→n+2≤l.length):
  Calls Tryz.prog 260 #[.pointer (some ⟨p,0,none⟩),.int .i64 (n:Int)] w fun e w'=>e= .returned (.tuple #[])∧WrS w' base p lim (Cb n st) op∧Wk base w w':=by
 obtain⟨bv,l,ov,op',err,h,hs⟩:=h
 have HA:=hid h;clear h
 cases st with
 |none=>
  have hne:((err:Int) != 0)=true:=by
   rw[bne_iff_ne]
   have:err≠0:=hs
   omega
  have k3:=HA.out.c3
  go_enter Tryz.func260,Tryz.ntmps260
  go_wp2_with fail
  refine bodyPost_ret (results_none rfl _ _ _) rfl ?_
  exact⟨rfl,WrS.bad HA.out hs,Wk.refl _ _⟩
 |some l'=>
  obtain⟨rfl,rfl,rfl⟩:=hs
  have hll:=hl l rfl
  obtain⟨m,hm⟩:∃m,l.length=n+2+m:=⟨l.length-n-2,by omega⟩
  have k1:=HA.out.c1
  have k2:=HA.out.c2
  have k3:=HA.out.c3
  have z3:=HA.out.z 3
  have htop:=HA.out.top
  have hlen:=HA.out.len
  have hfew:=HA.out.few
  obtain⟨A1,cap1,rfl,hc1,hm1⟩:=aJ HA.out.own
  obtain⟨A2,cap2,rfl,hc2,hm2⟩:=aJ HA.out.opn
  obtain⟨g1,rfl⟩:∃g,A1=some ⟨g,0,none⟩:=by
   rcases HA.out.own.2 with⟨h',h0⟩|⟨g',cap',cur,h',_,_,_⟩
   ·omega
   ·injection h' with h1 _ _
    exact⟨g',h1⟩
  obtain⟨g2,rfl⟩:∃g,A2=some ⟨g,0,none⟩:=by
   rcases HA.out.opn.2 with⟨h',h0⟩|⟨g',cap',cur,h',_,_,_⟩
   ·rw[List.length_append]at h0;simp at h0
   ·injection h' with h1 _ _
    exact⟨g',h1⟩
  have ko:w.cell? ⟨g2,op.length,none⟩=some (.int .i64 (n:Int)):=by
   rw[HA.out.opn.cellAt op.length (by rw[List.length_append,List.length_singleton];omega)]
   simp[vF]
  have HOP:=hid (show(op++[n]).length=op.length+1 from by rw[List.length_append];rfl)
  rw[HOP.out]at k2 hfew hc2
  have HM:=hid hm
  have WV:n+2+m≤l.length:=Nat.le_of_eq hm.symm
  have HAS:=hid (show gZ w base p lim (.slice (some ⟨g1,0,none⟩) l.length cap1) l (.slice (some ⟨g2,0,none⟩) (op.length+1) cap2) (op++[n]) 0 from by have:=HA.out;rw[HOP.out]at this;exact this);clear HA
  have hsub:(l.length:Int)-(n:Int)-2=(m:Int):=by omega
  clear hm
  by_cases hbig:65535<m
  ·go_enter Tryz.func260,Tryz.ntmps260
   go_wp2_with fail
   refine bodyPost_ret (results_none rfl _ _ _) rfl ?_
   refine⟨rfl, ?_,(Wk.refl _ _).aW HAS.out.blk (.inl rfl) HAS.out.low _⟩
   have:Cb n (some l)=none:=if_neg (by have:=HM.out;omega)
   rw[this]
   exact WrS.bad (HAS.out.fail 13) (by decide)
  ·have kb0:w.cell? ⟨g1,n,none⟩=some (.int .u8 ((l.getD n 0).toNat:Int)):=by
    rw[HAS.out.own.cellAt n (by omega),List.getElem?_map,List.getElem?_eq_getElem (by omega)]
    simp[List.getD,List.getElem?_eq_getElem (show n<l.length by omega)]
   have zb0:w.frozen? ⟨g1,n,none⟩=false:=HAS.out.own.frozenAt n
   go_enter Tryz.func260,Tryz.ntmps260
   go_upto_region 8 with(fail)
   obtain⟨hw1,hb1⟩:=HAS.out.RV rfl n (UInt8.ofNat (m%256))
   rw[←kU m]at hw1 hb1
   have HW1:=hid hw1
   have HB1:=hid (hb1 w (Wk.refl _ _));clear hw1 hb1
   generalize w.setCell ⟨g1,n,none⟩ (.int .u8 ((m:Int)%256))=w1 at HW1 HB1⊢
   clear k1 k2 k3 z3 ko kb0 zb0
   have k1:w1.cell? ⟨p,1,none⟩=some (.slice (some ⟨g1,0,none⟩) l.length cap1):=HW1.out.c1
   have kb0:w1.cell? ⟨g1,n+1,none⟩=some (.int .u8 (((l.set n (UInt8.ofNat (m%256))).getD (n+1) 0).toNat:Int)):=by
    have ho:=HW1.out.own
    rw[List.length_set]at ho
    rw[ho.cellAt (n+1) (by omega),List.getElem?_map,List.getElem?_eq_getElem (by rw[List.length_set];omega)]
    simp[List.getD,List.getElem?_eq_getElem (show n+1<(l.set n (UInt8.ofNat (m%256))).length by rw[List.length_set];omega)]
   have zb0:w1.frozen? ⟨g1,n+1,none⟩=false:=by
    have ho:=HW1.out.own
    rw[List.length_set]at ho
    exact ho.frozenAt (n+1)
   have HZ1:=hid kb0;clear kb0
   obtain⟨bx,hbx⟩:∃bx:Int,w1.cell? ⟨g1,n+1,none⟩=some (.int .u8 bx):=⟨_,HZ1.out⟩
   clear HZ1
   go_upto_region 9 with(fail)
   obtain⟨hw2,hb2⟩:=HW1.out.RV (by rw[List.length_set]) (n+1) (UInt8.ofNat (m/256%256))
   rw[←show(m:Int)/256=(((UInt8.ofNat (m/256%256)).toNat:Nat):Int)from by rw[←kU];omega,Ii n m l HM.out]at hw2
   rw[←show(m:Int)/256=(((UInt8.ofNat (m/256%256)).toNat:Nat):Int)from by rw[←kU];omega]at hb2
   have HW2:=hid hw2
   have HB2:=hid (hb2 w HB1.out);clear hw2 hb2
   generalize w1.setCell ⟨g1,n+1,none⟩ (.int .u8 ((m:Int)/256))=w2 at HW2 HB2⊢
   clear k1 hbx zb0
   have k2:w2.cell? ⟨p,2,none⟩=some (.slice (some ⟨g2,0,none⟩) (op.length+1) cap2):=HW2.out.c2
   have z2:=HW2.out.z 2
   go_wp2_with fail
   go_end0
   refine⟨rfl, ?_,HB2.out.aW HW2.out.blk (.inl rfl) HW2.out.low _⟩
   have:Cb n (some l)=some (patch n l):=if_pos (by have:=HM.out;omega)
   rw[this]
   exact WrS.of HW2.out.UL
theorem uD(lim:Nat)(hl:lim≤16777216)(w:World):
  Calls Tryz.prog 60 #[.int .i64 (lim:Int)] w fun e w'=>e= .returned (.tuple #[.pointer (some ⟨w.heap.size,0,none⟩),.int .i64 0])∧w'=w.alloc (.cells #[.int .i64 (lim:Int),.slice none 0 0,.slice none 0 0,.int .i64 0] 159):=by
 have h0:¬(lim:Int)<0:=by omega
 have h1:¬(16777216:Int)<(lim:Int):=by omega
 go_enter Tryz.func60,Tryz.ntmps60
 go_wp2_with fail
 go_ret2
 exact⟨rfl,rfl⟩
theorem WrS.new(lim:Nat)(hl:lim≤16777216)(w:World):WrS (w.alloc (.cells #[.int .i64 (lim:Int),.slice none 0 0,.slice none 0 0,.int .i64 0] 159)) w.heap.size w.heap.size lim (some []) []:=
 WrS.of (bv:= .slice none 0 0) (ov:= .slice none 0 0) ⟨Blk.new _ _ _,dS _ _ _ _,dS _ _ _ _,Nat.le_refl _,Nat.zero_le _,hl,Nat.zero_le _⟩
theorem Ak{w:World}{base p lim:Nat}{st:Option (List UInt8)}(h:WrS w base p lim st []):
  Calls Tryz.prog 64 #[.pointer (some ⟨p,0,none⟩)] w fun e w'=>Below w.heap.size w w'∧RQ st w e w':=by
 obtain⟨bv,l,ov,op',err,h,hs⟩:=h
 have HA:=hid h;clear h
 cases st with
 |none=>
  have hne:((err:Int) != 0)=true:=by
   rw[bne_iff_ne]
   have:err≠0:=hs
   omega
  have k3:=HA.out.c3
  have k3':w.drew.cell? ⟨p,3,none⟩=some (.int .i64 (err:Int)):=k3
  go_enter Tryz.func64,Tryz.ntmps64
  go_upto_region 2 with(fail)
  go_region
  go_wp2_with fail
  go_ret2
  exact⟨aC w,err,hs,rfl⟩
 |some l'=>
  obtain⟨rfl,rfl,rfl⟩:=hs
  have k1:=HA.out.c1
  have k2:=HA.out.c2
  have k3:=HA.out.c3
  have htop:=HA.out.top
  have hlen:=HA.out.len
  obtain⟨A1,cap1,rfl,hc1,hm1⟩:=aJ HA.out.own
  obtain⟨A2,cap2,rfl,hc2,hm2⟩:=aJ HA.out.opn
  have HR:=hid (Reads.iH HA.out.own)
  go_enter Tryz.func64,Tryz.ntmps64
  go_wp2_with(at_builtin;refine kY (.const (.slice none 0 0)) (.tmp 22) rfl rfl w.heap.size (.slice none 0 0) [] rfl (dS _ _ _ _) w.heap.size _ cap1 l rfl HR.out (by show 0+l.length≤_;omega) (Nat.le_refl _) ?_;intro v2 w2 hown hgr hor;have HO:=hid hown;have HB:=hid ((Below.refl w.heap.size w).grown hgr (Nat.le_refl _) (fun k hk=>by cases hk));clear hown hgr hor)
  go_ret2
  exact⟨HB.out,v2,rfl,HO.out⟩
end Go.Proofs.YtkblmloobkiloaaGreatDoor
