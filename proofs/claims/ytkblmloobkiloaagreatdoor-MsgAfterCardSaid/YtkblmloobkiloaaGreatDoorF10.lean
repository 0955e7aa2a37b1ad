/-
  MR6 MRL MR7 MT4: what the laws of package msg need of them.
-/
import Derived.Test.YtkblmloobkiloaaGreatDoorF00
import Derived.Test.YtkblmloobkiloaaGreatDoorF09
import Derived.Deep.Light
import Derived.Deep.RegionHeld3
import Derived.Test.YtkblmloobkiloaaGreatDoorF03
import Derived.Test.YtkblmloobkiloaaGreatDoorF05
import Derived.BigRegion
import Derived.Test.YtkblmloobkiloaaGreatDoorF08
set_option maxRecDepth 100000
set_option maxHeartbeats 3200000
namespace Go.Proofs.YtkblmloobkiloaaGreatDoor
open Go.Lib (hid)
open Go.RowKit
theorem uO{w:World}(hv:Value)(x:List UInt8)(hx:Bys w w.heap.size hv x)(hl:x.length≤16777216):
  Calls Tryz.prog 39 #[hv] w fun e w'=>∃p bv,e= .returned (.pointer (some ⟨p,0,none⟩))∧w.heap.size≤p∧RdS w' p bv x (some x)∧Below w.heap.size w w':=by
 obtain⟨A,cap,rfl,hc,hm,hr⟩:=hx
 have HR:=hid hr;clear hr
 go_enter Tryz.func39,Tryz.ntmps39
 go_wp2_with(at_builtin;refine kY (.const (.slice none 0 0)) (.tmp 3) rfl rfl w.heap.size (.slice none 0 0) [] rfl (dS _ _ _ _) w.heap.size _ cap x rfl HR.out (by show 0+x.length≤_;omega) (Nat.le_refl _) ?_;intro v2 w2 hown hgr hor;have HO:=hid hown;have HB:=hid ((Below.refl w.heap.size w).grown hgr (Nat.le_refl _) (fun k hk=>by cases hk));clear hown hgr hor;obtain⟨A2,cap2,rfl,hc2,hm2⟩:=aJ HO.out)
 go_ret
 obtain⟨W,hW⟩:∃W,W=w2.alloc (Obj.cells #[Value.slice A2 x.length cap2,Value.int IntKind.i64 0,Value.int IntKind.i64 0,Value.int IntKind.i64 0,Value.int IntKind.i64 0] 129):=⟨_,rfl⟩
 rw[←hW]
 have hb2:Below w2.heap.size w2 W:=by rw[hW];exact(Below.refl _ _).alloc (Nat.le_refl _) _
 refine⟨w2.heap.size,.slice A2 x.length cap2,rfl,HB.out.size,⟨0,0,⟨⟨0,0,by rw[hW];exact Blk.new _ _ _⟩, ?_,Nat.zero_le _,hl⟩,rfl,rfl⟩,HB.out.trans (hb2.mono HB.out.size)⟩
 exact qo.keep (w:=w2) ⟨A2,cap2,rfl,by simpa using hc2,hm2,Row.iH HO.out⟩ fun g cur fr hg=>hb2.block g (dP hg)
theorem P_{ops:Array Oper}{o:Oper}{a:Act}{w:World}{K:Act→World→Prop}{Q:Exit→Act→World→Prop}{E:Prop}(x:Operand)(hgd:o.guard=none)
  (ho:o.op= .call {callee:= .builtin .append,args:= #[.const (.slice none 0 0),x],argTypes:= #[22,22]})
  (B:Nat) (A:Option Addr) (c:Nat) (news:List UInt8) (hx:a.eval x= .slice A news.length c) (hr:Reads w B 1 A news.length (aX news)) (hlen:news.length≤16777216)
  (h:∀v' w',w'.ownsRow w.heap.size 5 1 v' news.length (aX news)→Below w.heap.size w w'→K (a.put o.dst v') w'):
  if Region.wanted o (yielded ops a.tmps)=true then Oper.wp Tryz.prog o a w K Q else E:=by
 obtain⟨i0,hi0,hz0,hz1,hz2⟩:=info_parts mF
 refine oJ w hgd _ x _ ho w.heap.size 5 i0 _ 1 1 Tryz.underlying22 hi0 hz0 hz1 hz2 rfl (by omega) (.slice none 0 0) 0 [] rfl (dS _ _ _ _) B A news.length c (aX news) hx hr (sF news) (by unfold maxLen;omega) (by omega) (Nat.le_refl _) ?_
 intro v' w' h1 h2 _
 rw[Nat.zero_add,List.nil_append]at h1
 exact h v' w' h1 ((Below.refl _ _).grown h2 (Nat.le_refl _) (fun k hk=>by cases hk))
theorem Og{P:Program}{ops:Array Oper}{Q:Exit→Act→World→Prop}{md:Region.Mode}{S:World→Prop}{i:Nat}{oi:Oper}{v:Value}{fuel:Nat}{listed:Array Bool}{a:Act}{w:World}(d:Nat)(hi:ops[i]? =some oi)(hd:oi.dst=some d)
  (hs:Region.noSelect ops=true) (hf:Region.free md ops listed i=true) (hr:(Region.ready md ops listed).contains i=true)
  (hQ:∀c a w,Q (.panic c) (a.put (some d) v) w→Q (.panic c) a w) (hy:YieldsIf P ops S oi v a) (hS:S w)
  (h:wpAnyH P md ops Q S fuel (listed.setIfInBounds i true) (a.put (some d) v) w):wpAnyH P md ops Q S (fuel+1) listed a w:=
 wpAnyH_take hi hs hf hr (by rw[hd];exact hQ) hy hS (by rw[hd];exact h)
theorem dH{w:World}{base n size:Nat}{e:TypeId}{v:Value}{xs:List Value}(h:w.ownsRow base e size v n xs):∀k,v.ownBlock=some k→base≤k:=by
 intro k hk
 rcases h.2 with⟨rfl, -⟩|⟨g,cap,cur,rfl,hb, -⟩
 ·cases hk
 ·injection hk with hk
  exact hk▸hb
theorem iw{w:World}{base base' n size:Nat}{e:TypeId}{v:Value}{xs:List Value}(h:w.ownsRow base e size v n xs)(hb:base'≤base):w.ownsRow base' e size v n xs:=by
 refine⟨h.1, ?_⟩
 rcases h.2 with h0|⟨g,cap,cur,rfl,hg,r⟩
 ·exact .inl h0
 ·exact .inr ⟨g,cap,cur,rfl,Nat.le_trans hb hg,r⟩
abbrev AY(A:Option Addr)(k n m:Nat):Value:= .slice (if m=k then A else A.map (·.add k)) n (m-k)
theorem Addr.CZ(g o k:Nat):(some (Addr.mk g o none)).map (·.add k)=some ⟨g,o+k,none⟩:=by
 show some _=some _
 unfold Addr.add
 by_cases h0:k=0<;>simp[h0]
theorem qo.sub{w:World}{A:Option Addr}{c:Nat}{l:List UInt8}(k n m:Nat)(h:qo w (.slice A l.length c) l)(hk:k+n≤l.length)(hm:k+n≤m)(hmc:m≤c):qo w (AY A k n m) ((l.drop k).take n):=by
 obtain⟨A',c',e,h1,h2,h3⟩:=h
 injection e with e1 e2 e3
 subst e1 e3
 have hl:((l.drop k).take n).length=n:=by rw[List.length_take,List.length_drop];omega
 refine⟨if m=k then A else A.map (·.add k),m-k,(by rw[hl]),(by rw[hl];omega),(by omega),(by rw[jQ,Nat.mul_one]),fun hn=> ?_⟩
 rw[hl]at hn
 obtain⟨g,o,cur,fr,rfl,hg,hc⟩:=h3.2 (by omega)
 rw[if_neg (by omega)]
 refine⟨g,o+k,cur,fr,Addr.CZ g o k,hg,fun j u hj=> ?_⟩
 have hj':j<n:=by
  have:=(List.getElem?_eq_some_iff.1 hj).1
  rw[List.length_map,hl]at this
  exact this
 rw[Nat.add_assoc]
 refine hc (k+j) u ?_
 rw[List.getElem?_map]at hj⊢
 rw[List.getElem?_take_of_lt hj',List.getElem?_drop]at hj
 exact hj
theorem qo.reads{w:World}{A:Option Addr}{n c:Nat}{l:List UInt8}(h:qo w (.slice A n c) l):Reads w w.heap.size 1 A n (aX l):=by
 obtain⟨A',c',e, -, -,hr⟩:=h
 injection e with e1 e2 e3
 subst e1 e2 e3
 exact hr.reads
def dn(st:Option (List UInt8))(n:Nat):List UInt8×Option (List UInt8):=match st with
 |none=>([],none)
 |some r=>match gJ n r with
  |none=>([],none)
  |some (x,r)=>(x,some r)
theorem gU{r:List UInt8}{n:Nat}(h:n≤r.length):dn (some r) n=(r.take n,some (r.drop n)):=by
 unfold dn gJ
 dsimp only
 rw[if_pos h]
theorem jB{st:Option (List UInt8)}{n:Nat}(h:∀r,st=some r→r.length<n):dn st n=([],none):=by
 cases st with
 |none=>rfl
 |some r=>
  unfold dn gJ
  dsimp only
  rw[if_neg (by have:=h r rfl;omega)]
theorem C9{w:World}{p:Nat}{bv:Value}{l:List UInt8}{st:Option (List UInt8)}(n:Nat)(h:RdS w p bv l st):
  Calls Tryz.prog 163 #[.pointer (some ⟨p,0,none⟩),.int .i64 (n:Int)] w fun e w'=>(∃v,e= .returned v∧w'.ownsRow w.heap.size 5 1 v (dn st n).1.length (aX (dn st n).1))∧RdS w' p bv l (dn st n).2∧jF p w w':=by
 have HC:=hid (ku n h)
 clear h
 have hn0:¬(n:Int)<0:=by omega
 go_enter Tryz.func163,Tryz.ntmps163
 go_wp2_with fail
 refine HC.out.mono ?_
 rintro e w1 ⟨ho,hr⟩
 have HO:=hid ho;clear ho HC
 rcases hr with⟨r,rfl,hlen,rfl,hs⟩|⟨hlen,rfl,hs⟩
 ·obtain⟨at_,err,h,hs⟩:=hs
  obtain⟨rfl,hdr⟩:=hs
  subst hdr
  have HA:=hid h
  have hll:=h.len
  have hle:=h.le
  obtain⟨⟨b0,wh,hb⟩,⟨A,c,rfl,hc,hm,hrow⟩, -, -⟩:=h
  rw[List.length_drop]at hlen
  obtain⟨X,hX⟩:∃X,X=(l.drop at_).take n:=⟨_,rfl⟩
  have hXl:X.length=n:=by rw[hX,List.length_take,List.length_drop];omega
  have k0:w1.cell? ⟨p,0,none⟩=some (.slice A l.length c):=hb.cell 0
  have k1:w1.cell? ⟨p,1,none⟩=some (.int .i64 (at_:Int)):=hb.cell 1
  clear hb
  have HP:=hid HA.out.lt
  have hkn:at_+n≤l.length:=by omega
  have hnc:at_+n≤c:=by omega
  go_upto_region 5 with(fail)
  refine wp_region_held_drew (S:=fun wx=>Below w1.heap.size w1 wx) (by kernel_rfl) (aC w1) (fun hHeld=> ?_)
  generalize w1.drew=wd at hHeld⊢
  refine tk 14 0 (.pointer (some ⟨p,0,none⟩)) ?_
  refine tk 15 1 (.pointer (some ⟨p,0,none⟩)) ?_
  refine tk 16 2 (.pointer (some ⟨p,0,none⟩)) ?_
  refine tk2 17 3 (.slice A l.length c) rfl (fun wq hSw=>by have k0:=(hSw.cell (p:=⟨p,0,none⟩) HP.out).trans k0;go_simp) ?_
  refine tk 18 4 (.pointer (some ⟨p,0,none⟩)) ?_
  refine tk 19 5 (.pointer (some ⟨p,0,none⟩)) ?_
  refine tk 20 6 (.pointer (some ⟨p,1,none⟩)) ?_
  refine tk2 21 7 (.int .i64 (at_:Int)) rfl (fun wq hSw=>by have k1:=(hSw.cell (p:=⟨p,1,none⟩) HP.out).trans k1;go_simp) ?_
  refine tk 22 8 (.pointer (some ⟨p,0,none⟩)) ?_
  refine tk 23 9 (.pointer (some ⟨p,0,none⟩)) ?_
  refine tk 24 10 (.pointer (some ⟨p,1,none⟩)) ?_
  refine tk2 25 11 (.int .i64 (at_:Int)) rfl (fun wq hSw=>by have k1:=(hSw.cell (p:=⟨p,1,none⟩) HP.out).trans k1;go_simp) ?_
  refine tk 26 12 (.int .i64 (n:Int)) ?_
  refine tk2 27 13 (.int .i64 ((at_:Int)+(n:Int))) rfl (fun wq hSw=>by go_simp<;>exact IntWalk.i64_in _ (by omega)) ?_
  refine tk2 28 14 (AY A at_ n c) rfl (fun wq hSw=>by go_simp;rw[if_pos (by omega),if_pos (by omega),show((at_:Int)+(n:Int)).toNat-at_=n from by omega]) ?_
  refine wpAnyH_ready (rs:=[15]) (by kernel_rfl) (by simp) ?_
  refine AllReadyH.cons rfl (fun K hK=> ?_) AllReadyH.nil
  have hRD:=(qo.sub at_ n c (HA.out.below hHeld).row hkn hnc (Nat.le_refl _)).reads
  rw[←hX]at hRD
  rw[←hXl]at hRD
  refine P_ (.tmp 28) rfl rfl wd.heap.size _ (c-at_) X (by rw[hXl];rfl) (by rw[hXl]at hRD⊢;exact hRD) (by omega) ?_
  clear hRD
  intro v2 w2 hown hb
  have HB2:=hid (hHeld.trans (hb.mono hHeld.size))
  have HOWN:=hid (iw hown hHeld.size)
  clear hown
  refine hK.out _ _ HB2.out (fun cO=> ?_)
  clear hK hHeld cO hb
  refine tk 5 16 v2 ?_
  refine wpAnyH_done (by kernel_rfl) ?_ _
  obtain⟨b1,wh1,hb1⟩:=(HA.out.below HB2.out).blk
  clear k0 k1
  have k1:w2.cell? ⟨p,1,none⟩=some (.int .i64 (at_:Int)):=hb1.cell 1
  have z1:w2.frozen? ⟨p,1,none⟩=false:=hb1.frozen 1
  have HBK:=hid (show Blk (w2.setCell ⟨p,1,none⟩ (.int .i64 ((at_:Int)+(n:Int)))) p 129 #[.slice A l.length c,.int .i64 ((at_+n:Nat):Int),.int .i64 b1,.int .i64 ((0:Nat):Int),.int .i64 wh1]from by
   have h:=hb1.aW 1 (.int .i64 ((at_:Int)+(n:Int)))
   rw[show((at_+n:Nat):Int)=(at_:Int)+(n:Int)from by omega]
   exact h)
  have HOF:=hid ((Off.refl (fun i=>i=p) w2).setCell (p:=⟨p,1,none⟩) rfl (.int .i64 ((at_:Int)+(n:Int))))
  have HOW:=hid (HOF.out.own HOWN.out (fun k hk=>by have h1:=dH HOWN.out k hk;have h2:=HP.out;omega))
  have HT:=hid (show dn (some (l.drop at_)) n=(X,some (l.drop (at_+n)))from by rw[gU (by rw[List.length_drop];exact hlen),hX,List.drop_drop])
  have HRW:=hid ((HA.out.below HB2.out).row.off HOF.out (HA.out.below HB2.out).wM)
  have HOO:=hid (HO.out.trans ((Off.of_below HB2.out).trans HOF.out))
  have HSZ:=hid HO.out.size
  clear hb1 HOWN
  go_wp2_with fail
  generalize w2.setCell ⟨p,1,none⟩ (.int .i64 ((at_:Int)+(n:Int)))=w4 at HBK HOF HOW HRW HOO⊢
  go_ret
  rw[HT.out]
  exact⟨⟨v2,rfl,iw HOW.out HSZ.out⟩,⟨at_+n,0,⟨⟨b1,wh1,HBK.out⟩,HRW.out,by omega,hll⟩,rfl,rfl⟩,HOO.out⟩
 ·have HT:=hid (jB hlen)
  go_wp2_with fail
  go_ret
  rw[HT.out]
  exact⟨⟨_,rfl,dS _ _ _ _⟩,hs,HO.out⟩
end Go.Proofs.YtkblmloobkiloaaGreatDoor
namespace Go.Proofs.YtkblmloobkiloaaGreatDoor
open Go.Lib (hid)
def kF{α:Type}(z:α)(one:List UInt8→Option (α×List UInt8))(st:Option (List UInt8)):α×Option (List UInt8):=match st with
 |none=>(z,none)
 |some r=>match one r with
  |none=>(z,none)
  |some (x,r)=>(x,some r)
theorem EM:bJ=kF e0 aN:=by
 funext st
 cases st with
 |none=>rfl
 |some r=>
  unfold bJ kF
  dsimp only
  cases aN r<;>rfl
theorem IL{n:Nat}{r:List UInt8}(h:r.length<n):gJ n r=none:=if_neg (by omega)
theorem KL{n:Nat}{r:List UInt8}(h:n≤r.length):gJ n r=some (r.take n,r.drop n):=if_pos h
theorem sU(k:Nat):dF k none=(0,none):=rfl
theorem lT{k:Nat}{r:List UInt8}(h:k≤r.length):dF k (some r)=(aH (r.take k),some (r.drop k)):=by
 unfold dF bU
 dsimp only
 rw[KL h]
 rfl
theorem lY{k:Nat}{r:List UInt8}(h:r.length<k):dF k (some r)=(0,none):=by
 unfold dF bU
 dsimp only
 rw[IL h]
 rfl
def KN(st:Option (List UInt8)):Qd×Option (List UInt8):=
 match(dF 8 (dF 4 (dF 1 st).2).2).2 with
 |none=>(zq,none)
 |some r=>(⟨(dF 1 st).1,(dF 4 (dF 1 st).2).1,(dF 8 (dF 4 (dF 1 st).2).2).1⟩,some r)
abbrev iU(st:Option (List UInt8)):Qd×Option (List UInt8):=kF zq dR st
theorem KO(st:Option (List UInt8)):KN st=iU st:=by
 cases st with
 |none=>rfl
 |some r=>
  unfold KN iU kF dR
  dsimp only
  by_cases h1:1≤r.length
  ·rw[lT h1]
   dsimp only
   by_cases h4:4≤(r.drop 1).length
   ·rw[lT h4]
    dsimp only
    by_cases h8:8≤((r.drop 1).drop 4).length
    ·rw[lT h8]
     simp only[List.length_drop,List.drop_drop]at h4 h8⊢
     rw[if_pos (by omega)]
    ·rw[lY (by omega)]
     simp only[List.length_drop,List.drop_drop]at h4 h8⊢
     rw[if_neg (by omega)]
   ·rw[lY (by omega),sU]
    simp only[List.length_drop]at h4⊢
    rw[if_neg (by omega)]
  ·rw[lY (by omega),sU,sU]
   rw[if_neg (by omega)]
def oM(st:Option (List UInt8)):Option (List UInt8)×Option (List UInt8):=match st with
 |none=>(none,none)
 |some r=>if 2≤r.length∧2+aH (r.take 2)≤r.length then(some ((r.drop 2).take (aH (r.take 2))),some (r.drop (2+aH (r.take 2))))else(none,none)
def recC(p:Option (List UInt8)):Sta×Option (List UInt8):=
 let a:=dF 2 p
 let b:=dF 4 a.2
 let q:=iU b.2
 let c:=dF 4 q.2
 let d:=dF 4 c.2
 let e:=dF 4 d.2
 let f:=dF 8 e.2
 let s:=bJ f.2
 let t:=bJ s.2
 let u:=bJ t.2
 let v:=bJ u.2
 (⟨a.1,b.1,q.1,c.1,d.1,e.1,f.1,s.1,t.1,u.1,v.1⟩,AX v.2)
def mQ(st:Option (List UInt8)):Sta×Option (List UInt8):=
 match(recC (oM st).1).2 with
 |none=>(zst,none)
 |some _=>((recC (oM st).1).1,(oM st).2)
def stO(st:Option (List UInt8)):Sta×Option (List UInt8):=
 match(dF 2 st).2 with
 |none=>(zst,none)
 |some r=>if(dF 2 st).1=r.length then mQ (some r)else(zst,none)
def jk{α:Type}(one:Option (List UInt8)→α×Option (List UInt8)):Nat→Option (List UInt8)→List α×Option (List UInt8)
 |0,st=>([],st)
 |n+1,st=>((one st).1::(jk one n (one st).2).1,(jk one n (one st).2).2)
def jC{α:Type}(one:Option (List UInt8)→α×Option (List UInt8))(st:Option (List UInt8)):List α×Option (List UInt8):=
 if 16<(dF 2 st).1 then([],none)else jk one (dF 2 st).1 (dF 2 st).2
theorem qV{α:Type}(z:α)(one:List UInt8→Option (α×List UInt8)):∀n,(jk (kF z one) n none).2=none
 |0=>rfl
 |n+1=>by
  show(jk (kF z one) n none).2=none
  exact qV z one n
theorem wP{α:Type}(z:α)(one:List UInt8→Option (α×List UInt8)):∀n r,match getMany one n r with
  |some (xs,r')=>jk (kF z one) n (some r)=(xs,some r')
  |none=>(jk (kF z one) n (some r)).2=none
 |0,r=>rfl
 |n+1,r=>by
  unfold getMany jk
  cases h:one r with
  |none=>
   have e:kF z one (some r)=(z,none):=by unfold kF;dsimp only;rw[h]
   dsimp only
   rw[e]
   exact qV z one n
  |some p=>
   obtain⟨x,r1⟩:=p
   have e:kF z one (some r)=(x,some r1):=by unfold kF;dsimp only;rw[h]
   have ih:=wP z one n r1
   dsimp only
   rw[e]
   dsimp only
   cases h2:getMany one n r1 with
   |none=>
    rw[h2]at ih
    exact ih
   |some p2=>
    obtain⟨xs,r2⟩:=p2
    rw[h2]at ih
    dsimp only at ih⊢
    rw[ih]
theorem sV{α:Type}(one:Option (List UInt8)→α×Option (List UInt8)):∀n st,(jk one n st).1.length=n
 |0,_=>rfl
 |n+1,st=>by
  show((one st).1::(jk one n (one st).2).1).length=_
  rw[List.length_cons,sV one n]
theorem qW{α:Type}(one:Option (List UInt8)→α×Option (List UInt8)):∀n st,jk one (n+1) st=((jk one n st).1++[(one (jk one n st).2).1],(one (jk one n st).2).2)
 |0,st=>rfl
 |n+1,st=>by
  have ih:=qW one n (one st).2
  rw[jk,ih]
  rfl
theorem wQ{α:Type}(z:α)(one:List UInt8→Option (α×List UInt8))(r:List UInt8):match fF one r with
  |some (xs,r')=>jC (kF z one) (some r)=(xs,some r')
  |none=>(jC (kF z one) (some r)).2=none:=by
 unfold fF jC
 cases h:bU 2 r with
 |none=>
  have e:dF 2 (some r)=(0,none):=by unfold dF;dsimp only;rw[h]
  dsimp only
  rw[e]
  exact qV z one 0
 |some p=>
  obtain⟨n,r1⟩:=p
  have e:dF 2 (some r)=(n,some r1):=by unfold dF;dsimp only;rw[h]
  dsimp only
  rw[e]
  dsimp only
  by_cases h16:16<n
  ·rw[if_pos h16,if_pos h16]
  ·rw[if_neg h16,if_neg h16]
   exact wP z one n r1
def fJ(m:Mg)(st:Option (List UInt8)):Fld→Mg×Option (List UInt8)
 | .names=>({m with names:=(jC bJ st).1},(jC bJ st).2)
 | .aV=>({m with aV:=(jC iU st).1},(jC iU st).2)
 | .qid=>({m with qid:=(iU st).1},(iU st).2)
 | .data=>({m with data:=(dn (dF 4 st).2 (dF 4 st).1).1},(dn (dF 4 st).2 (dF 4 st).1).2)
 | .stat=>({m with stat:=(stO st).1},(stO st).2)
 |f=>if f.isText then(m.bV (bJ st).1 f,(bJ st).2)else(m.aG (dF f.width st).1 f,(dF f.width st).2)
def iE:List Fld→Mg→Option (List UInt8)→Mg×Option (List UInt8)
 | [],m,st=>(m,st)
 |f::fs,m,st=>iE fs (fJ m st f).1 (fJ m st f).2
theorem rP:∀(fs:List Fld) (f:Fld) (m:Mg) (st:Option (List UInt8)),iE (fs++[f]) m st=fJ (iE fs m st).1 (iE fs m st).2 f
 | [],_,_,_=>rfl
 |g::fs,f,m,st=>rP fs f (fJ m st g).1 (fJ m st g).2
def fin(x:Option (Mg×List UInt8)):Option Mg:=match x with
 |some (m,[])=>some m
 |_=>none
def EN(x:Mg×Option (List UInt8)):Option Mg:=match AX x.2 with
 |some _=>some x.1
 |none=>none
theorem IQ{x:Mg×Option (List UInt8)}(h:x.2=none):EN x=none:=by unfold EN;rw[h];rfl
theorem EO{m:Mg}{r:List UInt8}{f:Fld}(hf:f≠ .stat):match nD m r f with
  |some (m',r')=>fJ m (some r) f=(m',some r')
  |none=>(fJ m (some r) f).2=none:=by
 have hnum:∀k,match bU k r with
   |some (n,r')=>dF k (some r)=(n,some r')
   |none=>(dF k (some r)).2=none:=by
  intro k
  unfold dF
  cases h:bU k r<;>simp[h]
 have htxt:match aN r with
   |some (s,r')=>bJ (some r)=(s,some r')
   |none=>(bJ (some r)).2=none:=by
  unfold bJ
  cases h:aN r<;>simp[h]
 have hN:∀g:Fld,g.isText=false→(∀l,nD m l g=(bU g.width l).map fun p=>(m.aG p.1 g,p.2))→(∀st,fJ m st g=(m.aG (dF g.width st).1 g,(dF g.width st).2))→(match nD m r g with
   |some (m',r')=>fJ m (some r) g=(m',some r')
   |none=>(fJ m (some r) g).2=none):=by
  intro g _ h1 h2
  rw[h1,h2]
  have:=hnum g.width
  cases h:bU g.width r with
  |none=>rw[h]at this;exact this
  |some p=>rw[h]at this;simp only[Option.map_some]at this⊢;rw[this]
 have hT:∀g:Fld,(∀l,nD m l g=(aN l).map fun p=>(m.bV p.1 g,p.2))→(∀st,fJ m st g=(m.bV (bJ st).1 g,(bJ st).2))→(match nD m r g with
   |some (m',r')=>fJ m (some r) g=(m',some r')
   |none=>(fJ m (some r) g).2=none):=by
  intro g h1 h2
  rw[h1,h2]
  cases h:aN r with
  |none=>rw[h]at htxt;exact htxt
  |some p=>rw[h]at htxt;simp only[Option.map_some]at htxt⊢;rw[htxt]
 cases f with
 |stat=>exact absurd rfl hf
 |names=>
  have:=wQ e0 aN r
  unfold nD fJ
  rw[EM]
  cases h:fF aN r with
  |none=>rw[h]at this;exact this
  |some p=>rw[h]at this;simp only[Option.map_some]at this⊢;rw[this]
 |aV=>
  have:=wQ zq dR r
  unfold nD fJ
  cases h:fF dR r with
  |none=>rw[h]at this;exact this
  |some p=>rw[h]at this;simp only[Option.map_some]at this⊢;rw[show jC iU (some r)=_ from this]
 |qid=>
  unfold nD fJ
  cases h:dR r with
  |none=>show(kF zq dR (some r)).2=none;unfold kF;dsimp only;rw[h]
  |some p=>show(_,(kF zq dR (some r)).2)=_;unfold iU kF;dsimp only;rw[h]
 |data=>
  have h4:=hnum 4
  unfold nD fJ
  cases h:bU 4 r with
  |none=>
   rw[h]at h4
   dsimp only at h4⊢
   rw[h4]
   rfl
  |some p=>
   obtain⟨n,r1⟩:=p
   rw[h]at h4
   dsimp only at h4⊢
   rw[h4]
   unfold dn
   dsimp only
   cases h2:gJ n r1 with
   |none=>rfl
   |some p2=>rfl
 |version=>exact hT .version (fun _=>rfl) (fun _=>rfl)
 |uname=>exact hT .uname (fun _=>rfl) (fun _=>rfl)
 |bF=>exact hT .bF (fun _=>rfl) (fun _=>rfl)
 |bH=>exact hT .bH (fun _=>rfl) (fun _=>rfl)
 |name=>exact hT .name (fun _=>rfl) (fun _=>rfl)
 |bI=>exact hN .bI rfl (fun _=>rfl) (fun _=>rfl)
 |dB=>exact hN .dB rfl (fun _=>rfl) (fun _=>rfl)
 |fid=>exact hN .fid rfl (fun _=>rfl) (fun _=>rfl)
 |aU=>exact hN .aU rfl (fun _=>rfl) (fun _=>rfl)
 |aQ=>exact hN .aQ rfl (fun _=>rfl) (fun _=>rfl)
 |perm=>exact hN .perm rfl (fun _=>rfl) (fun _=>rfl)
 |count=>exact hN .count rfl (fun _=>rfl) (fun _=>rfl)
 |aT=>exact hN .aT rfl (fun _=>rfl) (fun _=>rfl)
 |mode=>exact hN .mode rfl (fun _=>rfl) (fun _=>rfl)
 |offset=>exact hN .offset rfl (fun _=>rfl) (fun _=>rfl)
theorem EP(m:Mg)(f:Fld):(fJ m none f).2=none:=by cases f<;>rfl
theorem rQ:∀(fs:List Fld) (m:Mg),(iE fs m none).2=none
 | [],_=>rfl
 |f::fs,m=>by
  show(iE fs (fJ m none f).1 (fJ m none f).2).2=none
  rw[EP]
  exact rQ fs _
theorem IU(st:Option (List UInt8)):(match st with|none=>none|some l=>iI l)=match(bJ (bJ (bJ (bJ st).2).2).2).2 with
  |none=>none
  |some r=>some (((bJ st).1,(bJ (bJ st).2).1,(bJ (bJ (bJ st).2).2).1,(bJ (bJ (bJ (bJ st).2).2).2).1),r):=by
 cases st with
 |none=>rfl
 |some l=>
  unfold iI
  dsimp only
  cases h1:aN l with
  |none=>
   have e:bJ (some l)=(e0,none):=by unfold bJ;dsimp only;rw[h1]
   rw[e];rfl
  |some p1=>
   obtain⟨a,r1⟩:=p1
   have e:bJ (some l)=(a,some r1):=by unfold bJ;dsimp only;rw[h1]
   rw[e]
   dsimp only
   cases h2:aN r1 with
   |none=>
    have e:bJ (some r1)=(e0,none):=by unfold bJ;dsimp only;rw[h2]
    rw[e];rfl
   |some p2=>
    obtain⟨b,r2⟩:=p2
    have e:bJ (some r1)=(b,some r2):=by unfold bJ;dsimp only;rw[h2]
    rw[e]
    dsimp only
    cases h3:aN r2 with
    |none=>
     have e:bJ (some r2)=(e0,none):=by unfold bJ;dsimp only;rw[h3]
     rw[e];rfl
    |some p3=>
     obtain⟨c,r3⟩:=p3
     have e:bJ (some r2)=(c,some r3):=by unfold bJ;dsimp only;rw[h3]
     rw[e]
     dsimp only
     cases h4:aN r3 with
     |none=>
      have e:bJ (some r3)=(e0,none):=by unfold bJ;dsimp only;rw[h4]
      rw[e]
     |some p4=>
      obtain⟨d,r4⟩:=p4
      have e:bJ (some r3)=(d,some r4):=by unfold bJ;dsimp only;rw[h4]
      rw[e]
def Pos(l:List UInt8)(n:Nat)(st:Option (List UInt8)):Prop:=(n≤l.length∧st=some (l.drop n))∨(l.length<n∧st=none)
theorem Pos.num{l:List UInt8}{n:Nat}{st:Option (List UInt8)}(h:Pos l n st)(k:Nat):Pos l (n+k) (dF k st).2:=by
 rcases h with⟨h,rfl⟩|⟨h,rfl⟩
 ·by_cases hk:k≤(l.drop n).length
  ·rw[lT hk]
   rw[List.length_drop]at hk
   exact .inl ⟨by omega,by rw[List.drop_drop]⟩
  ·rw[lY (by omega)]
   rw[List.length_drop]at hk
   exact .inr ⟨by omega,rfl⟩
 ·exact .inr ⟨by omega,rfl⟩
theorem Pos.qid{l:List UInt8}{n:Nat}{st:Option (List UInt8)}(h:Pos l n st):Pos l (n+13) (iU st).2:=by
 rcases h with⟨h,rfl⟩|⟨h,rfl⟩
 ·unfold iU kF dR
  dsimp only
  by_cases hk:13≤(l.drop n).length
  ·rw[if_pos hk]
   rw[List.length_drop]at hk
   exact .inl ⟨by omega,by dsimp only;rw[List.drop_drop]⟩
  ·rw[if_neg hk]
   rw[List.length_drop]at hk
   exact .inr ⟨by omega,rfl⟩
 ·exact .inr ⟨by omega,rfl⟩
theorem ER{l:List UInt8}(h:l.length<39):(recC (some l)).2=none:=by
 have h0:Pos l 0 (some l):= .inl ⟨Nat.zero_le _,by rw[List.drop_zero]⟩
 have h1:=((((((h0.num 2).num 4).qid).num 4).num 4).num 4).num 8
 rcases h1 with⟨h1, -⟩|⟨-,h1⟩
 ·omega
 ·unfold recC
  dsimp only
  rw[h1]
  rfl
theorem KP{l:List UInt8}(h:13≤l.length):iU (some l)=(⟨aH (l.take 1),aH ((l.drop 1).take 4),aH ((l.drop 5).take 8)⟩,some (l.drop 13)):=by
 unfold iU kF dR
 dsimp only
 rw[if_pos h]
theorem IV{r:List UInt8}(h:41≤r.length):recC (some (r.drop 2))=
  (⟨aH ((r.drop 2).take 2),aH ((r.drop 4).take 4),⟨aH ((r.drop 8).take 1),aH ((r.drop 9).take 4),aH ((r.drop 13).take 8)⟩,aH ((r.drop 21).take 4),aH ((r.drop 25).take 4),aH ((r.drop 29).take 4),aH ((r.drop 33).take 8),
   (bJ (some (r.drop 41))).1,(bJ (bJ (some (r.drop 41))).2).1,(bJ (bJ (bJ (some (r.drop 41))).2).2).1,(bJ (bJ (bJ (bJ (some (r.drop 41))).2).2).2).1⟩,AX (bJ (bJ (bJ (bJ (some (r.drop 41))).2).2).2).2):=by
 have hs:∀n k,n+k≤41→dF k (some (r.drop n))=(aH ((r.drop n).take k),some (r.drop (n+k))):=by
  intro n k hk
  rw[lT (by rw[List.length_drop];omega),List.drop_drop]
 unfold recC
 rw[hs 2 2 (by omega)]
 dsimp only
 rw[hs 4 4 (by omega)]
 dsimp only
 rw[KP (by rw[List.length_drop];omega)]
 simp only[List.drop_drop]
 rw[hs 21 4 (by omega)]
 dsimp only
 rw[hs 25 4 (by omega)]
 dsimp only
 rw[hs 29 4 (by omega)]
 dsimp only
 rw[hs 33 8 (by omega)]
theorem AZ{l r:List UInt8}{x:ByteArray×ByteArray×ByteArray×ByteArray}(h:iI l=some (x,r)):8≤l.length:=by
 obtain⟨a,b,c,d⟩:=x
 have e:=(yw h).1
 rw[e]
 simp only[List.length_append,ji]
 omega
theorem IW(m:Mg)(r:List UInt8):EN ({m with stat:=(mQ (some r)).1},(mQ (some r)).2)=fin ((fV r).map fun s=>({m with stat:=s},[])):=by
 by_cases hp:2≤r.length∧2+aH (r.take 2)≤r.length
 ·have e:oM (some r)=(some ((r.drop 2).take (aH (r.take 2))),some (r.drop (2+aH (r.take 2)))):=if_pos hp
  by_cases hk:2+aH (r.take 2)=r.length
  ·have e2:(r.drop 2).take (aH (r.take 2))=r.drop 2:=List.take_of_length_le (by rw[List.length_drop];omega)
   have e3:r.drop (2+aH (r.take 2))=[]:=List.drop_eq_nil_of_le (by omega)
   rw[e2,e3]at e
   unfold mQ
   rw[e]
   dsimp only
   by_cases h41:r.length<41
   ·rw[ER (by rw[List.length_drop];omega)]
    unfold fV
    rw[if_pos (by omega)]
    rfl
   ·rw[IV (by omega)]
    have ht:=IU (some (r.drop 41))
    dsimp only at ht⊢
    unfold fV
    by_cases h49:r.length<49
    ·rw[if_pos h49]
     have hno:∀x,iI (r.drop 41)=some x→False:=by
      rintro⟨x,r'⟩ hx
      have:=AZ hx
      rw[List.length_drop]at this
      omega
     cases hg:(bJ (bJ (bJ (bJ (some (r.drop 41))).2).2).2).2 with
     |none=>rfl
     |some y=>
      rw[hg]at ht
      exact absurd ht (fun h=>hno _ h)
    ·rw[if_neg h49,if_neg (by omega),ht]
     cases hg:(bJ (bJ (bJ (bJ (some (r.drop 41))).2).2).2).2 with
     |none=>rfl
     |some y=>
      cases y with
      |nil=>rfl
      |cons a y=>rfl
  ·have hne:∃a t,r.drop (2+aH (r.take 2))=a::t:=by
    cases hd:r.drop (2+aH (r.take 2))with
    |nil=>
     have:=congrArg List.length hd
     rw[List.length_drop,List.length_nil]at this
     omega
    |cons a t=>exact⟨a,t,rfl⟩
   obtain⟨a,t,ht⟩:=hne
   have hR:fV r=none:=by
    unfold fV
    by_cases h49:r.length<49
    ·rw[if_pos h49]
    ·rw[if_neg h49,if_pos (by omega)]
   rw[hR]
   unfold mQ
   rw[e,ht]
   dsimp only
   cases hc:(recC (some ((r.drop 2).take (aH (r.take 2))))).2<;>rfl
 ·have e:oM (some r)=(none,none):=if_neg hp
  have hR:fV r=none:=by
   unfold fV
   by_cases h49:r.length<49
   ·rw[if_pos h49]
   ·rw[if_neg h49,if_pos (by omega)]
  rw[hR]
  unfold mQ
  rw[e]
  rfl
theorem KQ(m:Mg)(r:List UInt8):EN ({m with stat:=(stO (some r)).1},(stO (some r)).2)=fin ((kH r).map fun p=>({m with stat:=p.1},p.2)):=by
 unfold stO kH
 cases h:bU 2 r with
 |none=>
  have e:dF 2 (some r)=(0,none):=by unfold dF;dsimp only;rw[h]
  rw[e]
  rfl
 |some p=>
  obtain⟨n,r1⟩:=p
  have e:dF 2 (some r)=(n,some r1):=by unfold dF;dsimp only;rw[h]
  rw[e]
  dsimp only
  by_cases hn:n=r1.length
  ·rw[if_pos hn,if_pos hn,IW]
   cases fV r1<;>rfl
  ·rw[if_neg hn,if_neg hn]
   rfl
def nM:List Fld→Bool
 | []=>true
 | .stat::fs=>fs.isEmpty
 |_::fs=>nM fs
theorem qH{f:Fld}{fs:List Fld}(h:nM (f::fs)=true):(f= .stat∧fs=[])∨(f≠ .stat∧nM fs=true):=by
 cases f<;>first|exact .inr ⟨fun e=>(by cases e),h⟩|exact .inl ⟨rfl,List.isEmpty_iff.1 h⟩
theorem zu{k:Nat}{fs:List Fld}(h:bQ k=some fs):nM fs=true:=by
 unfold bQ at h
 split at h<;>first|(injection h with h;subst h;rfl)|cases h
theorem uh:∀(fs:List Fld),nM fs=true→∀(m:Mg) (r:List UInt8),EN (iE fs m (some r))=fin (getAll fs m r)
 | [],_,m,r=>by
  unfold iE getAll
  cases r<;>rfl
 |f::fs,hl,m,r=>by
  rcases qH hl with⟨rfl,rfl⟩|⟨hf,hl⟩
  ·have h:=KQ m r
   have e1:iE [.stat] m (some r)=({m with stat:=(stO (some r)).1},(stO (some r)).2):=rfl
   rw[e1,h]
   have e2:nD m r .stat=(kH r).map fun p=>({m with stat:=p.1},p.2):=rfl
   unfold getAll
   rw[e2]
   cases kH r with
   |none=>rfl
   |some p=>rfl
  ·have h:=EO (m:=m) (r:=r) hf
   unfold iE getAll
   cases hg:nD m r f with
   |none=>
    rw[hg]at h
    dsimp only at h⊢
    rw[h]
    exact IQ (rQ fs _)
   |some p=>
    obtain⟨m',r'⟩:=p
    rw[hg]at h
    dsimp only at h⊢
    rw[h]
    exact uh fs hl m' r'
theorem Oh(l:List UInt8):dec l=if l.length<7∨65536<l.length then(head 0 0,31)else
  if aH (l.take 4)≠l.length then(head 0 0,31)else
  match bQ (aH ((l.drop 4).take 1))with
  |none=>(head (aH ((l.drop 4).take 1)) (aH ((l.drop 5).take 2)),32)
  |some fs=>match EN (iE fs (head (aH ((l.drop 4).take 1)) (aH ((l.drop 5).take 2))) (some (l.drop 7)))with
   |some m=>(m,0)
   |none=>(head (aH ((l.drop 4).take 1)) (aH ((l.drop 5).take 2)),33):=by
 unfold dec
 split
 ·rfl
 split
 ·rfl
 cases h:bQ (aH ((l.drop 4).take 1))with
 |none=>rfl
 |some fs=>
  dsimp only
  rw[uh fs (zu h)]
  generalize getAll fs _ _=x
  unfold fin
  match x with
  |none=>rfl
  |some (m,[])=>rfl
  |some (m,a::t)=>rfl
open Go.RowKit
theorem bf{fn:Func}{tmps:Array Value}{w:World}{q i:Nat}{ty:TypeId}{l:List Value}{d:TypeDesc}(hr:fn.results= #[.cell i ty])(hu:Tryz.prog.underlying ty=some d)(hd:d.isRow=true)(hs:(Tryz.prog.info? ty).map (·.size)=some l.length)(h2:tmps.getD i undef= .pointer (some ⟨q,0,none⟩))(hk:Blk w q ty l.toArray):
  (results fn tmps).run Tryz.prog w= .ok (.agg l.toArray) w:=by
 have h2':tmps[i]?.getD undef= .pointer (some ⟨q,0,none⟩):=by simpa using h2
 have hl7:(loadVar ty ⟨q,0,none⟩).run Tryz.prog w= .ok (.agg l.toArray) w:=
  run_loadVar_mid w q 0 ty l _ (Blk.range hk 0 l (by simp)) hu hd hs
 simp[results,hr,h2',asAddr,hl7]
theorem RdS.lt{w:World}{p:Nat}{bv:Value}{l:List UInt8}{st:Option (List UInt8)}(h:RdS w p bv l st):p<w.heap.size:=by
 obtain⟨_,_,h,_⟩:=h
 exact h.lt
theorem RdS.wM{w:World}{p:Nat}{bv:Value}{l:List UInt8}{st:Option (List UInt8)}(h:RdS w p bv l st):∀g cur fr,g=p→w.heap[g]? ≠some (Obj.cells cur 5 fr):=by
 obtain⟨_,_,h,_⟩:=h
 exact h.wM
theorem RdS.off{S:Nat→Prop}{w w':World}{p:Nat}{bv:Value}{l:List UInt8}{st:Option (List UInt8)}(h:RdS w p bv l st)(ho:Off S w w')(hp:¬S p)(hu:∀g cur fr,S g→w.heap[g]? ≠some (Obj.cells cur 5 fr)):RdS w' p bv l st:=by
 obtain⟨a,e,h,hs⟩:=h
 obtain⟨b0,wh,hk⟩:=h.blk
 exact⟨a,e,⟨⟨b0,wh,ho.blk hk hp⟩,h.row.off ho hu,h.le,h.len⟩,hs⟩
theorem dZ{w:World}{q:Nat}{t:TypeId}{cs:Array Value}(h:Blk w q t cs)(ht:t≠5):∀g cur fr,g=q→w.heap[g]? ≠some (Obj.cells cur 5 fr):=by
 rintro g cur fr rfl hg
 unfold Blk at h
 rw[h]at hg
 injection hg with hg
 injection hg with _ hg
 exact ht hg
theorem KR{w:World}:∀g cur fr,w.heap.size≤g→w.heap[g]? ≠some (Obj.cells cur 5 fr):=by
 intro g cur fr hg h
 exact absurd (dP h) (by omega)
theorem ES{w:World}{p:Nat}{bv:Value}{l:List UInt8}{st:Option (List UInt8)}(h:RdS w p bv l st):
  Calls Tryz.prog 261 #[.pointer (some ⟨p,0,none⟩)] w fun e w'=>e= .returned (.int .i64 (((st.getD []).length:Nat):Int))∧RdS w' p bv l st∧Below w.heap.size w w':=by
 have HS:=hid h
 obtain⟨at_,err,h,hs⟩:=h
 have hll:=h.len
 have hle:=h.le
 obtain⟨⟨b0,wh,hb⟩,⟨A,c,rfl,hc,hm, -⟩, -, -⟩:=h
 have k0:w.cell? ⟨p,0,none⟩=some (.slice A l.length c):=hb.cell 0
 have k1:w.cell? ⟨p,1,none⟩=some (.int .i64 (at_:Int)):=hb.cell 1
 have k3:w.cell? ⟨p,3,none⟩=some (.int .i64 (err:Int)):=hb.cell 3
 have j0:w.drew.cell? ⟨p,0,none⟩=some (.slice A l.length c):=hb.cell 0
 have j1:w.drew.cell? ⟨p,1,none⟩=some (.int .i64 (at_:Int)):=hb.cell 1
 clear hb
 cases st with
 |none=>
  have hne:((err:Int) != 0)=true:=by rw[bne_iff_ne];have h:err≠0:=hs;omega
  clear hs
  go_enter Tryz.func261,Tryz.ntmps261
  go_wp2_with fail
  go_ret
  exact⟨rfl,HS.out,Below.refl _ _⟩
 |some r=>
  obtain⟨rfl,rfl⟩:=hs
  go_enter Tryz.func261,Tryz.ntmps261
  go_upto_region 3 with(fail)
  go_region
  go_wp2_with fail
  go_ret
  refine⟨jP ?_,HS.out.below (aC w),aC w⟩
  rw[Option.getD_some,List.length_drop]
  omega
def SC(p:Nat)(bv:Value)(l:List UInt8)(st:Option (List UInt8))(w:World)(e:Ending)(w':World):Prop:=
 ∃q pv x,e= .returned (.pointer (some ⟨q,0,none⟩))∧w.heap.size≤q∧RdS w' q pv x (oM st).1∧RdS w' p bv l (oM st).2∧jF p w w'
theorem ET{w:World}{p:Nat}{bv:Value}{l:List UInt8}{st:Option (List UInt8)}(h:RdS w p bv l st):
  Calls Tryz.prog 280 #[.pointer (some ⟨p,0,none⟩)] w (SC p bv l st w):=by
 have HC:=hid (qG h)
 clear h
 go_enter Tryz.func280,Tryz.ntmps280
 go_wp2_with fail
 refine HC.out.mono ?_
 rintro e w1 ⟨ho,hr⟩
 have HO:=hid ho;clear ho HC
 rcases hr with⟨r,rfl,hlen,hlen2,rfl,hs⟩|⟨hlen,⟨n,rfl⟩,hs⟩
 ·obtain⟨at_,err,h,hs⟩:=hs
  obtain⟨rfl,hdr⟩:=hs
  subst hdr
  have HA:=hid h
  have hll:=h.len
  have hle:=h.le
  obtain⟨⟨b0,wh,hb⟩,⟨A,c,rfl,hc,hm,hrow⟩, -, -⟩:=h
  have HL:=hid (And.intro hlen hlen2)
  rw[List.length_drop]at hlen hlen2
  obtain⟨g,o,rfl,hcell⟩:=hrow.at_ (by omega)
  clear hcell hrow
  generalize hn:aH ((l.drop at_).take 2)=n at hlen2⊢
  have HN:=hid hn;clear hn
  have k1:w1.cell? ⟨p,1,none⟩=some (.int .i64 (at_:Int)):=hb.cell 1
  have z1:w1.frozen? ⟨p,1,none⟩=false:=hb.frozen 1
  have HBK:=hid (show Blk (w1.setCell ⟨p,1,none⟩ (.int .i64 ((at_:Int)+2+(n:Int)))) p 129 #[.slice (some ⟨g,o,none⟩) l.length c,.int .i64 ((at_+2+n:Nat):Int),.int .i64 b0,.int .i64 ((0:Nat):Int),.int .i64 wh]from by
   have h:=hb.aW 1 (.int .i64 ((at_:Int)+2+(n:Int)))
   rw[show((at_+2+n:Nat):Int)=(at_:Int)+2+(n:Int)from by omega]
   exact h)
  have HOF:=hid ((Off.refl (fun i=>i=p) w1).setCell (p:=⟨p,1,none⟩) rfl (.int .i64 ((at_:Int)+2+(n:Int))))
  have HRW:=hid (HA.out.row.off HOF.out HA.out.wM)
  clear hb
  go_upto_region 6 with(fail)
  clear k1 z1
  generalize w1.setCell ⟨p,1,none⟩ (.int .i64 ((at_:Int)+2+(n:Int)))=w2 at HBK HOF HRW⊢
  have k0:w2.cell? ⟨p,0,none⟩=some (.slice (some ⟨g,o,none⟩) l.length c):=HBK.out.cell 0
  have k1:w2.cell? ⟨p,1,none⟩=some (.int .i64 ((at_+2+n:Nat):Int)):=HBK.out.cell 1
  have k2:w2.cell? ⟨p,2,none⟩=some (.int .i64 b0):=HBK.out.cell 2
  have j0:w2.drew.cell? ⟨p,0,none⟩=some (.slice (some ⟨g,o,none⟩) l.length c):=HBK.out.cell 0
  have j1:w2.drew.cell? ⟨p,1,none⟩=some (.int .i64 ((at_+2+n:Nat):Int)):=HBK.out.cell 1
  have j2:w2.drew.cell? ⟨p,2,none⟩=some (.int .i64 b0):=HBK.out.cell 2
  have hlim:at_+2+n≤c:=by omega
  have HX:=hid (show qo w2 (.slice (if n=0 then some ⟨g,o,none⟩else some ⟨g,o+(at_+2),none⟩) n n) ((l.drop (at_+2)).take n)from by
   have h:=qo.sub (at_+2) n (at_+2+n) HRW.out (by omega) (Nat.le_refl _) hlim
   have e:AY (some ⟨g,o,none⟩) (at_+2) n (at_+2+n)= .slice (if n=0 then some ⟨g,o,none⟩else some ⟨g,o+(at_+2),none⟩) n n:=by
    unfold AY
    rw[show at_+2+n-(at_+2)=n by omega,Addr.CZ]
    by_cases h0:n=0
    ·rw[if_pos h0,if_pos (by omega)]
    ·rw[if_neg h0,if_neg (by omega)]
   rw[←e]
   exact h)
  have HXL:=hid (show((l.drop (at_+2)).take n).length≤16777216 from by rw[List.length_take,List.length_drop];omega)
  have HPT:=hid (show oM (some (l.drop at_))=(some ((l.drop (at_+2)).take n),some (l.drop (at_+2+n)))from by
   unfold oM
   dsimp only
   rw[HN.out,if_pos ⟨HL.out.1,by have:=HL.out.2;rw[HN.out]at this;exact this⟩,List.drop_drop,List.drop_drop,Nat.add_assoc])
  have hle2:at_+2+n≤l.length:=by omega
  go_region
  all_goals(
   generalize Value.slice (if n=0 then some (Addr.mk g o none)else some ⟨g,o+(at_+2),none⟩) n n=X at HX⊢
   generalize wrap64 (b0+((at_:Int)+2))=E
   obtain⟨W,hW⟩:∃W,W=(w2.alloc (Obj.cells #[X,.int .i64 0,.int .i64 E,.int .i64 0,.int .i64 0] 129)).drew:=⟨_,rfl⟩
   rw[←hW]
   have hb2:Below w2.heap.size w2 W:=by rw[hW];exact((Below.refl _ _).alloc (Nat.le_refl _) _).drew
   have HW:=hid (show Blk W w2.heap.size 129 #[X,.int .i64 0,.int .i64 E,.int .i64 0,.int .i64 0]from by rw[hW];exact(Blk.new _ _ _).drew)
   have HB2:=hid hb2
   clear hb2 hW k0 k1 k2 j0 j1 j2
   go_wp2_with fail
   all_goals(
    go_ret
    refine⟨w2.heap.size,X,(l.drop (at_+2)).take n,rfl,Nat.le_trans HO.out.size HOF.out.size, ?_, ?_,(HO.out.trans HOF.out).trans (Off.of_below HB2.out)⟩
    ·rw[HPT.out]
     exact⟨0,0,⟨⟨E,0,HW.out⟩,HX.out.keep fun g cur fr hg=>HB2.out.block g (dP hg),Nat.zero_le _,HXL.out⟩,rfl,List.drop_zero⟩
    ·rw[HPT.out]
     exact⟨at_+2+n,0,⟨⟨b0,wh,Blk.below HBK.out HB2.out (Blk.lt HBK.out)⟩,HRW.out.keep fun g cur fr hg=>HB2.out.block g (dP hg),hle2,hll⟩,rfl,rfl⟩))
 ·have HP:=hid (show oM st=(none,none)from by
   cases st with
   |none=>rfl
   |some r=>
    refine if_neg ?_
    rintro⟨h1,h2⟩
    rcases hlen r rfl with h|h<;>omega)
  have HS:=hid hs
  obtain⟨at_,err,h,hs⟩:=hs
  obtain⟨b0,wh,hb⟩:=h.blk
  have k3:w1.cell? ⟨p,3,none⟩=some (.int .i64 (err:Int)):=hb.cell 3
  have k4:w1.cell? ⟨p,4,none⟩=some (.int .i64 wh):=hb.cell 4
  have j3:w1.drew.cell? ⟨p,3,none⟩=some (.int .i64 (err:Int)):=hb.cell 3
  have j4:w1.drew.cell? ⟨p,4,none⟩=some (.int .i64 wh):=hb.cell 4
  have HE:=hid (show err≠0 from hs)
  clear hb h hs
  go_upto_region 3 with(fail)
  go_region
  obtain⟨W,hW⟩:∃W,W=(w1.alloc (Obj.cells #[.slice none 0 0,.int .i64 0,.int .i64 wh,.int .i64 (err:Int),.int .i64 wh] 129)).drew:=⟨_,rfl⟩
  rw[←hW]
  have hb2:Below w1.heap.size w1 W:=by rw[hW];exact((Below.refl _ _).alloc (Nat.le_refl _) _).drew
  have HW:=hid (show Blk W w1.heap.size 129 #[.slice none 0 0,.int .i64 0,.int .i64 wh,.int .i64 (err:Int),.int .i64 wh]from by rw[hW];exact(Blk.new _ _ _).drew)
  have HB2:=hid hb2
  clear hb2 hW k3 k4 j3 j4
  go_wp2_with fail
  go_ret
  refine⟨w1.heap.size,.slice none 0 0,[],rfl,HO.out.size, ?_, ?_,HO.out.trans (Off.of_below HB2.out)⟩
  ·rw[HP.out]
   exact⟨0,err,⟨⟨wh,wh,HW.out⟩,⟨none,0,rfl,Nat.le_refl _,Nat.zero_le _,Row.none_⟩,Nat.le_refl _,Nat.zero_le _⟩,HE.out⟩
  ·rw[HP.out]
   exact HS.out.below HB2.out
theorem rU:(Tryz.prog.info? 37).map (·.size)=some 3:=by kernel_rfl
theorem Off.toR{p z:Nat}{w w':World}(h:Off (fun i=>i=p∨z≤i) w w')(hz:w.heap.size≤z):jF p w w':=h.mono fun k hk hs=>hs.resolve_right (by omega)
theorem Off.toN{p z:Nat}{w w':World}(h:jF p w w'):Off (fun i=>i=p∨z≤i) w w':=h.mono fun _ _ hs=> .inl hs
theorem ny{w:World}{p:Nat}{bv:Value}{l:List UInt8}{st:Option (List UInt8)}(h:RdS w p bv l st):
  Calls Tryz.prog 173 #[.pointer (some ⟨p,0,none⟩)] w fun e w'=>e= .returned (qdV (iU st).1)∧RdS w' p bv l (iU st).2∧jF p w w':=by
 have HN:=hid (Blk.new w 37 #[.int .u8 0,.int .u32 0,.int .u64 0])
 have HS:=hid (h.below ((Below.refl _ _).alloc (Nat.le_refl _) (.cells #[.int .u8 0,.int .u32 0,.int .u64 0] 37)))
 have HO:=hid ((Off.refl (fun i=>i=p∨w.heap.size≤i) w).alloc (.cells #[.int .u8 0,.int .u32 0,.int .u64 0] 37))
 have HLT:=hid h.lt
 have HQ:=hid (KO st)
 clear h
 go_enter Tryz.func173,Tryz.ntmps173
 go_upto_region 1 with(fail)
 generalize w.alloc (.cells #[.int .u8 0,.int .u32 0,.int .u64 0] 37)=w0 at HS HN HO⊢
 generalize hz:w.heap.size=z at HN HLT HO⊢
 have HZ:=hid hz;clear hz
 go_wp2_with fail
 refine(qU HS.out).mono ?_
 rintro e w1 ⟨rfl,hs,hb⟩
 have HS1:=hid hs
 have HN1:=hid (hb.blk HN.out (by have:=HLT.out;omega))
 have HO1:=hid (HO.out.trans hb.toN)
 clear hs hb HS HN HO
 go_wp2_with fail
 refine(iZ HS1.out).mono ?_
 rintro e w2 ⟨rfl,hs,hb⟩
 have HS2:=hid hs
 have HN2:=hid (hb.blk HN1.out (by have:=HLT.out;omega))
 have HO2:=hid (HO1.out.trans hb.toN)
 clear hs hb HS1 HN1 HO1
 go_wp2_with fail
 refine(pG HS2.out).mono ?_
 rintro e w3 ⟨rfl,hs,hb⟩
 have HS3:=hid hs
 have HN3:=hid (hb.blk HN2.out (by have:=HLT.out;omega))
 have HO3:=hid (HO2.out.trans hb.toN)
 clear hs hb HS2 HN2 HO2
 go_wp2_with fail
 refine(sS HS3.out).mono ?_
 rintro e w4 ⟨⟨er,wh,rfl,he⟩,hs,hb⟩
 have HS4:=hid hs
 have HN4:=hid (Blk.below HN3.out hb (Blk.lt HN3.out))
 have HO4:=hid (HO3.out.trans (Off.of_below hb))
 clear hs hb HS3 HN3 HO3
 unfold KN at HQ
 generalize(dF 1 st).1=v1 at*
 generalize(dF 4 (dF 1 st).2).1=v2 at*
 generalize(dF 8 (dF 4 (dF 1 st).2).2).1=v3 at*
 generalize(dF 8 (dF 4 (dF 1 st).2).2).2=fst at*
 cases fst with
 |none=>
  have hne:((er:Int) != 0)=true:=by
   rw[bne_iff_ne]
   intro h0
   have h1:=he.1 (by omega)
   cases h1
  have HR:=hid (show(iU st).1=zq∧(iU st).2=none from by rw[←HQ.out];exact⟨rfl,rfl⟩)
  clear he HQ
  have k0:w4.cell? ⟨z,0,none⟩=some (.int .u8 0):=HN4.out.cell 0
  have k1:w4.cell? ⟨z,1,none⟩=some (.int .u32 0):=HN4.out.cell 1
  have k2:w4.cell? ⟨z,2,none⟩=some (.int .u64 0):=HN4.out.cell 2
  have f0:w4.frozen? ⟨z,0,none⟩=false:=HN4.out.frozen 0
  have f1:w4.frozen? ⟨z,1,none⟩=false:=HN4.out.frozen 1
  have f2:w4.frozen? ⟨z,2,none⟩=false:=HN4.out.frozen 2
  have hso:=fun(S:Nat→Prop) (hS:S z)=>(((Off.refl S w4).setCell (p:=⟨z,0,none⟩) hS (.int .u8 0)).setCell (p:=⟨z,1,none⟩) hS (.int .u32 0)).setCell (p:=⟨z,2,none⟩) hS (.int .u64 0)
  have HN5:=hid (show Blk (((w4.setCell ⟨z,0,none⟩ (.int .u8 0)).setCell ⟨z,1,none⟩ (.int .u32 0)).setCell ⟨z,2,none⟩ (.int .u64 0)) z 37 #[.int .u8 0,.int .u32 0,.int .u64 0]from((HN4.out.aW 0 (.int .u8 0)).aW 1 (.int .u32 0)).aW 2 (.int .u64 0))
  have HO5:=hid (HO4.out.trans (hso (fun i=>i=p∨z≤i) (.inr (Nat.le_refl _))))
  have HS5:=hid (HS4.out.off (hso (fun i=>i=z) rfl) (by have:=HLT.out;omega) (dZ HN4.out (by decide)))
  clear hso
  go_wp2_with fail
  clear k0 k1 k2 f0 f1 f2
  generalize((w4.setCell ⟨z,0,none⟩ (.int .u8 0)).setCell ⟨z,1,none⟩ (.int .u32 0)).setCell ⟨z,2,none⟩ (.int .u64 0)=w5 at HN5 HO5 HS5⊢
  refine bodyPost_ret (bf (l:=[.int .u8 0,.int .u32 0,.int .u64 0]) rfl Tryz.underlying37 rfl rU rfl HN5.out) rfl ⟨?_, ?_,HO5.out.toR (by have:=HZ.out;omega)⟩
  ·rw[HR.out.1];try rfl
  ·rw[HR.out.2]
   exact HS5.out
 |some r=>
  have hne:((er:Int) != 0)=false:=by
   rw[he.2 rfl]
   rfl
  have HR:=hid (show(iU st).1=⟨v1,v2,v3⟩∧(iU st).2=some r from by rw[←HQ.out];exact⟨rfl,rfl⟩)
  clear he HQ
  have k0:w4.cell? ⟨z,0,none⟩=some (.int .u8 0):=HN4.out.cell 0
  have k1:w4.cell? ⟨z,1,none⟩=some (.int .u32 0):=HN4.out.cell 1
  have k2:w4.cell? ⟨z,2,none⟩=some (.int .u64 0):=HN4.out.cell 2
  have f0:w4.frozen? ⟨z,0,none⟩=false:=HN4.out.frozen 0
  have f1:w4.frozen? ⟨z,1,none⟩=false:=HN4.out.frozen 1
  have f2:w4.frozen? ⟨z,2,none⟩=false:=HN4.out.frozen 2
  have hso:=fun(S:Nat→Prop) (hS:S z)=>(((Off.refl S w4).setCell (p:=⟨z,0,none⟩) hS (.int .u8 (v1:Int))).setCell (p:=⟨z,1,none⟩) hS (.int .u32 (v2:Int))).setCell (p:=⟨z,2,none⟩) hS (.int .u64 (v3:Int))
  have HN5:=hid (show Blk (((w4.setCell ⟨z,0,none⟩ (.int .u8 (v1:Int))).setCell ⟨z,1,none⟩ (.int .u32 (v2:Int))).setCell ⟨z,2,none⟩ (.int .u64 (v3:Int))) z 37 #[.int .u8 (v1:Int),.int .u32 (v2:Int),.int .u64 (v3:Int)]from((HN4.out.aW 0 (.int .u8 (v1:Int))).aW 1 (.int .u32 (v2:Int))).aW 2 (.int .u64 (v3:Int)))
  have HO5:=hid (HO4.out.trans (hso (fun i=>i=p∨z≤i) (.inr (Nat.le_refl _))))
  have HS5:=hid (HS4.out.off (hso (fun i=>i=z) rfl) (by have:=HLT.out;omega) (dZ HN4.out (by decide)))
  clear hso
  go_wp2_with fail
  clear k0 k1 k2 f0 f1 f2
  generalize((w4.setCell ⟨z,0,none⟩ (.int .u8 (v1:Int))).setCell ⟨z,1,none⟩ (.int .u32 (v2:Int))).setCell ⟨z,2,none⟩ (.int .u64 (v3:Int))=w5 at HN5 HO5 HS5⊢
  refine bodyPost_ret (bf (l:=[.int .u8 (v1:Int),.int .u32 (v2:Int),.int .u64 (v3:Int)]) rfl Tryz.underlying37 rfl rU rfl HN5.out) rfl ⟨?_, ?_,HO5.out.toR (by have:=HZ.out;omega)⟩
  ·rw[HR.out.1];try rfl
  ·rw[HR.out.2]
   exact HS5.out
open Go.Lib (decDigits)
theorem eH{n:Nat}(h:n<18446744073709551616):IntKind.u64.wrap (n:Int)=(n:Int):=by
 rw[IntKind.wrap_u64]
 omega
theorem jD(n:Nat)(h:n<18446744073709551616):(ofL (decDigits n)).size≤20:=by
 rw[dU,Lib.decDigits_length]
 by_cases h0:n=0
 ·subst h0
  have:=Lib.decDigits_length 0
  have h1:(Lib.decDigits 0).length=1:=by simp[Lib.decDigits]
  omega
 ·have:=Lib.numDigits_eq n (by omega) h
  split at this<;>omega
end Go.Proofs.YtkblmloobkiloaaGreatDoor
