/-
  MR7 MR8 MR9 MRA MRB MC: what the laws of package msg need of them.
-/
import Derived.Test.YtkblmloobkiloaaGreatDoorK00
import Derived.Test.YtkblmloobkiloaaGreatDoorK06
import Derived.Test.YtkblmloobkiloaaGreatDoorK04
import Derived.BigRegion
import Derived.Test.YtkblmloobkiloaaGreatDoorK05
import Derived.Great.BuildSlice
import Derived.Deep.RegionHeld3
import Derived.WalkSpells
set_option maxRecDepth 100000
set_option maxHeartbeats 1600000
namespace Go.Proofs.YtkblmloobkiloaaGreatDoor
open Go.Lib (hid)
open Go.RowKit
theorem bf{fn:Func}{tmps:Array Value}{w:World}{q i:Nat}{ty:TypeId}{l:List Value}{d:TypeDesc}(hr:fn.results= #[.cell i ty])(hu:Tryz.prog.underlying ty=some d)(hd:d.isRow=true)(hs:(Tryz.prog.info? ty).map (·.size)=some l.length)(h2:tmps.getD i undef= .pointer (some ⟨q,0,none⟩))(hk:Blk w q ty l.toArray):
  (results fn tmps).run Tryz.prog w= .ok (.agg l.toArray) w:=by
 have h2':tmps[i]?.getD undef= .pointer (some ⟨q,0,none⟩):=by simpa using h2
 have hl7:(loadVar ty ⟨q,0,none⟩).run Tryz.prog w= .ok (.agg l.toArray) w:=
  run_loadVar_mid w q 0 ty l _ (Blk.range hk 0 l (by simp)) hu hd hs
 simp[results,hr,h2',asAddr,hl7]
theorem RdS.lt{w:World}{p:Nat}{bv:Value}{l:List UInt8}{st:Option (List UInt8)}(h:RdS w p bv l st):p<w.heap.size:=by
 obtain⟨_,_,h,_⟩:=h
 exact h.lt
theorem RdS.off{S:Nat→Prop}{w w':World}{p:Nat}{bv:Value}{l:List UInt8}{st:Option (List UInt8)}(h:RdS w p bv l st)(ho:Off S w w')(hp:¬S p)(hu:∀g cur fr,S g→w.heap[g]? ≠some (Obj.cells cur 5 fr)):RdS w' p bv l st:=by
 obtain⟨a,e,h,hs⟩:=h
 obtain⟨b0,wh,hk⟩:=h.blk
 exact⟨a,e,⟨⟨b0,wh,ho.blk hk hp⟩,h.row.off ho hu,h.le,h.len⟩,hs⟩
theorem dZ{w:World}{q:Nat}{t:TypeId}{cs:Array Value}(h:Blk w q t cs)(ht:t≠5):∀g cur fr,g=q→w.heap[g]? ≠some (Obj.cells cur 5 fr):=by
 rintro g cur fr rfl hg
 unfold Blk at h
 rw[h]at hg
 injection hg with hg
 injection hg with _ hg
 exact ht hg
theorem Off.toN{p z:Nat}{w w':World}(h:jF p w w'):Off (fun i=>i=p∨z≤i) w w':=h.mono fun _ _ hs=> .inl hs
theorem lJ(n0 n1 n2 n3 n4 n5 n6 n7 n8:Int)(a b c d:ByteArray):([.int .u16 n0,.int .u32 n1,.int .u8 n2,.int .u32 n3,.int .u64 n4,.int .u32 n5,.int .u32 n6,.int .u32 n7,.int .u64 n8,.string a,.string b,.string c,.string d]:List Value).toArray.all (·.oneCell')=true:=by simp[Value.oneCell']
theorem Blk.noT{w:World}{q:Nat}{t e:TypeId}{cs:Array Value}(h:Blk w q t cs)(ht:t≠e):∀g cur fr,g=q→w.heap[g]? ≠some (Obj.cells cur e fr):=by
 rintro g cur fr rfl hg
 unfold Blk at h
 rw[h]at hg
 injection hg with hg
 injection hg with _ hg
 exact ht hg
theorem dL{S:Nat→Prop}{w w':World}{base n size:Nat}{e:TypeId}{v:Value}{xs:List Value}(ho:Off S w w')(h:w.ownsRow base e size v n xs)(hn:∀i cur fr,S i→w.heap[i]? ≠some (Obj.cells cur e fr)):w'.ownsRow base e size v n xs:=by
 refine ho.own h fun k hk hs=> ?_
 rcases h.2 with⟨rfl, -⟩|⟨g,cap,cur,rfl,hb,hg, -⟩
 ·cases hk
 ·injection hk with hk
  have hk:g=k:=hk
  subst hk
  exact hn g cur _ hs hg
theorem bZ{w:World}{base n size:Nat}{e e':TypeId}{v:Value}{xs:List Value}(h:w.ownsRow base e size v n xs)(he:e≠e'):∀g cur fr,v.ownBlock=some g→w.heap[g]? ≠some (Obj.cells cur e' fr):=by
 intro g cur' fr hk hx
 rcases h.2 with⟨rfl, -⟩|⟨g',cap,cur,rfl,hb,hg, -⟩
 ·cases hk
 ·injection hk with hk
  have hk:g'=g:=hk
  subst hk
  rw[hg]at hx
  injection hx with hx
  injection hx with _ hx
  exact he hx
theorem Off.grown{S:Nat→Prop}{a b c:World}{row:Option Nat}(h:Off S a b)(hg:b.grownBy c row)(hr:∀g,row=some g→S g):Off S a c:=
 h.trans ⟨hg.os,hg.tape,hg.output,hg.size,fun k hk hn=>hg.block k hk fun e=>hn (hr k e.symm)⟩
theorem aI{w w':World}{base n size:Nat}{e:TypeId}{v:Value}{xs:List Value}(h:w.ownsRow base e size v n xs)(hb:Below w.heap.size w w'):w'.ownsRow base e size v n xs:=
 (Off.of_below (S:=fun _=>False) hb).own h (fun _ _ h=>h)
structure OL(w:World)(base:Nat)(m:Mg)(vn vq vd:Value):Prop where
 n:w.ownsRow base 9 1 vn m.names.length (h_ m.names)
 q:w.ownsRow base 37 3 vq m.aV.length (ng m.aV)
 d:w.ownsRow base 5 1 vd m.data.length (aX m.data)
theorem OL.off{S:Nat→Prop}{w w':World}{base:Nat}{m:Mg}{vn vq vd:Value}(h:OL w base m vn vq vd)(ho:Off S w w')(hs:∀i cur fr e,S i→(e=9∨e=37∨e=5)→w.heap[i]? ≠some (Obj.cells cur e fr)):OL w' base m vn vq vd:=
 ⟨dL ho h.n fun i cur fr hS=>hs i cur fr _ hS (.inl rfl),dL ho h.q fun i cur fr hS=>hs i cur fr _ hS (.inr (.inl rfl)),dL ho h.d fun i cur fr hS=>hs i cur fr _ hS (.inr (.inr rfl))⟩
theorem RdS.noT{w:World}{p:Nat}{bv:Value}{l:List UInt8}{st:Option (List UInt8)}{e:TypeId}(h:RdS w p bv l st)(he:129≠e):∀g cur fr,g=p→w.heap[g]? ≠some (Obj.cells cur e fr):=by
 obtain⟨_,_,h,_⟩:=h
 obtain⟨_,_,hb⟩:=h.blk
 exact hb.noT he
theorem OL.rd{w w':World}{p base:Nat}{m:Mg}{vn vq vd bv:Value}{l:List UInt8}{st:Option (List UInt8)}(h:OL w base m vn vq vd)(hr:RdS w p bv l st)(ho:jF p w w'):OL w' base m vn vq vd:=
 h.off ho fun i cur fr e hS he=>by
  rcases he with rfl|rfl|rfl<;>exact hr.noT (by decide) i cur fr hS
theorem OL.qp{w w':World}{q base:Nat}{m m2:Mg}{vn vq vd xn xq xd:Value}(h:OL w base m vn vq vd)(hm:aK w q m2 xn xq xd)(ho:Off (fun i=>i=q) w w'):OL w' base m vn vq vd:=
 h.off ho fun i cur fr e hS he=>by
  rcases he with rfl|rfl|rfl<;>exact Blk.noT hm (by decide) i cur fr hS
theorem OL.below{w w':World}{base:Nat}{m:Mg}{vn vq vd:Value}(h:OL w base m vn vq vd)(hb:Below w.heap.size w w'):OL w' base m vn vq vd:=⟨aI h.n hb,aI h.q hb,aI h.d hb⟩
theorem RdS.ne{w:World}{p q:Nat}{bv:Value}{l:List UInt8}{st:Option (List UInt8)}{t:TypeId}{cs:Array Value}(h:RdS w p bv l st)(hm:Blk w q t cs)(ht:129≠t):p≠q:=fun e=>h.noT ht q _ _ e.symm hm
def gY(p q base:Nat)(bv:Value)(l:List UInt8)(m:Mg)(st:Option (List UInt8))(w:World)(w':World):Prop:=
 RdS w' p bv l st∧(∃vn vq vd,aK w' q m vn vq vd∧OL w' base m vn vq vd)∧Off (fun i=>i=p∨i=q) w w'
theorem gY.end_{w w1 w':World}{p q base:Nat}{bv vn vq vd xn xq xd:Value}{l:List UInt8}{m m':Mg}{st:Option (List UInt8)}(h:RdS w1 p bv l st)(hm:aK w1 q m vn vq vd)(ho:OL w1 base m' xn xq xd)(h1:jF p w w1)(hb:aK w' q m' xn xq xd)(hoff:Off (fun i=>i=q) w1 w'):gY p q base bv l m' st w w':=
 ⟨h.off hoff (h.ne hm (by decide)) (dZ hm (by decide)),⟨xn,xq,xd,hb,ho.qp hm hoff⟩,(h1.mono fun _ _ h=> .inl h).trans (hoff.mono fun _ _ h=> .inr h)⟩
theorem aK.aW{w:World}{q:Nat}{m m':Mg}{vn vq vd xn xq xd:Value}(hm:aK w q m vn vq vd)(i:Nat)(v:Value)(e:(aF m vn vq vd).toArray.setIfInBounds i v=(aF m' xn xq xd).toArray):aK (w.setCell ⟨q,i,none⟩ v) q m' xn xq xd:=by
 have h:=Blk.aW hm i v
 rw[e]at h
 exact h
theorem bM(w:World)(q i:Nat)(v:Value):Off (fun k=>k=q) w (w.setCell ⟨q,i,none⟩ v):=(Off.refl (fun k=>k=q) w).setCell (p:=⟨q,i,none⟩) (show q=q from rfl) v
theorem zx(m:Mg)(n:Nat)(vn vq vd:Value):(aF m vn vq vd).toArray.setIfInBounds 2 (.int .u32 (n:Int))=(aF (m.aG n .bI) vn vq vd).toArray:=by kernel_rfl
theorem uj(m:Mg)(s:ByteArray)(vn vq vd:Value):(aF m vn vq vd).toArray.setIfInBounds 3 (.string s)=(aF (m.bV s .version) vn vq vd).toArray:=by kernel_rfl
theorem Dn(m:Mg)(n:Nat)(vn vq vd:Value):(aF m vn vq vd).toArray.setIfInBounds 4 (.int .u32 (n:Int))=(aF (m.aG n .dB) vn vq vd).toArray:=by kernel_rfl
theorem zy(m:Mg)(s:ByteArray)(vn vq vd:Value):(aF m vn vq vd).toArray.setIfInBounds 5 (.string s)=(aF (m.bV s .uname) vn vq vd).toArray:=by kernel_rfl
theorem zA(m:Mg)(s:ByteArray)(vn vq vd:Value):(aF m vn vq vd).toArray.setIfInBounds 6 (.string s)=(aF (m.bV s .bF) vn vq vd).toArray:=by kernel_rfl
theorem zB(m:Mg)(s:ByteArray)(vn vq vd:Value):(aF m vn vq vd).toArray.setIfInBounds 7 (.string s)=(aF (m.bV s .bH) vn vq vd).toArray:=by kernel_rfl
theorem xg(m:Mg)(n:Nat)(vn vq vd:Value):(aF m vn vq vd).toArray.setIfInBounds 8 (.int .u16 (n:Int))=(aF (m.aG n .aT) vn vq vd).toArray:=by kernel_rfl
theorem GR(m:Mg)(n:Nat)(vn vq vd:Value):(aF m vn vq vd).toArray.setIfInBounds 9 (.int .u32 (n:Int))=(aF (m.aG n .fid) vn vq vd).toArray:=by kernel_rfl
theorem xk(m:Mg)(n:Nat)(vn vq vd:Value):(aF m vn vq vd).toArray.setIfInBounds 10 (.int .u32 (n:Int))=(aF (m.aG n .aU) vn vq vd).toArray:=by kernel_rfl
theorem Dp(m:Mg)(n:Nat)(vn vq vd:Value):(aF m vn vq vd).toArray.setIfInBounds 16 (.int .u8 (n:Int))=(aF (m.aG n .mode) vn vq vd).toArray:=by kernel_rfl
theorem xu(m:Mg)(n:Nat)(vn vq vd:Value):(aF m vn vq vd).toArray.setIfInBounds 17 (.int .u32 (n:Int))=(aF (m.aG n .aQ) vn vq vd).toArray:=by kernel_rfl
theorem Dq(m:Mg)(s:ByteArray)(vn vq vd:Value):(aF m vn vq vd).toArray.setIfInBounds 18 (.string s)=(aF (m.bV s .name) vn vq vd).toArray:=by kernel_rfl
theorem set_perm(m:Mg)(n:Nat)(vn vq vd:Value):(aF m vn vq vd).toArray.setIfInBounds 19 (.int .u32 (n:Int))=(aF (m.aG n .perm) vn vq vd).toArray:=by kernel_rfl
theorem xw(m:Mg)(n:Nat)(vn vq vd:Value):(aF m vn vq vd).toArray.setIfInBounds 20 (.int .u64 (n:Int))=(aF (m.aG n .offset) vn vq vd).toArray:=by kernel_rfl
theorem zC(m:Mg)(n:Nat)(vn vq vd:Value):(aF m vn vq vd).toArray.setIfInBounds 21 (.int .u32 (n:Int))=(aF (m.aG n .count) vn vq vd).toArray:=by kernel_rfl
theorem sZ(m:Mg)(x:List ByteArray)(vn vq vd v:Value):(aF m vn vq vd).toArray.setIfInBounds 11 v=(aF {m with names:=x} v vq vd).toArray:=by kernel_rfl
theorem xA(m:Mg)(x:List Qd)(vn vq vd v:Value):(aF m vn vq vd).toArray.setIfInBounds 12 v=(aF {m with aV:=x} vn v vd).toArray:=by kernel_rfl
theorem xB(m:Mg)(x:List UInt8)(vn vq vd v:Value):(aF m vn vq vd).toArray.setIfInBounds 22 v=(aF {m with data:=x} vn vq v).toArray:=by kernel_rfl
theorem Bh(m:Mg)(x:Qd)(vn vq vd:Value):(((aF m vn vq vd).toArray.setIfInBounds 13 (.int .u8 (x.kind:Int))).setIfInBounds 14 (.int .u32 (x.vers:Int))).setIfInBounds 15 (.int .u64 (x.path:Int))=(aF {m with qid:=x} vn vq vd).toArray:=by kernel_rfl
theorem qc(m:Mg)(x:Sta)(vn vq vd:Value):over (aF m vn vq vd).toArray 23 (stL x)=(aF {m with stat:=x} vn vq vd).toArray:=by kernel_rfl
theorem uY(s:Sta):(stL s).toArray.all (·.oneCell')=true:=lJ ..
def lK(w:World)(lo hi:Nat)(v:Value)(fs:List Fld):Prop:=∃A c,v= .slice A fs.length c∧fs.length≤c∧c≤maxLen∧∀k f,fs[k]? =some f→∃ad,A=some ad∧lo≤ad.block∧ad.block<hi∧w.cell? (ad.add k)=some (.int .u8 (f.ix:Int))
theorem qg(a:Addr)(k:Nat):(a.add k).block=a.block:=by
 unfold Addr.add
 split<;>rfl
theorem lK.keep{w w':World}{lo hi:Nat}{v:Value}{fs:List Fld}(h:lK w lo hi v fs)(hk:∀i,lo≤i→i<hi→w'.heap[i]? =w.heap[i]?):lK w' lo hi v fs:=by
 obtain⟨A,c,e,h1,h2,h3⟩:=h
 refine⟨A,c,e,h1,h2,fun k f hf=> ?_⟩
 obtain⟨ad,rfl,hl,hh,hc⟩:=h3 k f hf
 refine⟨ad,rfl,hl,hh, ?_⟩
 rw[←hc]
 exact World.cell?_of_block (hk _ (by rw[qg];exact hl) (by rw[qg];exact hh))
theorem lK.at_{w:World}{lo hi n c:Nat}{A:Option Addr}{fs:List Fld}(h:lK w lo hi (.slice A n c) fs){k:Nat}{f:Fld}(hf:fs[k]? =some f):∃ad,A=some ad∧w.cell? (ad.add k)=some (.int .u8 (f.ix:Int)):=by
 obtain⟨A',c',e, -, -,h3⟩:=h
 injection e with e1 e2 e3
 subst e1
 obtain⟨ad,h1, -, -,h4⟩:=h3 k f hf
 exact⟨ad,h1,h4⟩
theorem Fa(r n:Nat)(hr:r<27):mP n r= .slice none 0 0∨∃j c,mP n r= .slice (some ⟨n+j,0,none⟩) c c:=by
 match r,hr with
 |0,_=>exact .inr ⟨0,_,rfl⟩
 |1,_=>exact .inr ⟨1,_,rfl⟩
 |2,_=>exact .inr ⟨2,_,rfl⟩
 |3,_=>exact .inr ⟨3,_,rfl⟩
 |4,_=>exact .inr ⟨4,_,rfl⟩
 |5,_=>exact .inr ⟨5,_,rfl⟩
 |6,_=>exact .inr ⟨6,_,rfl⟩
 |7,_=>exact .inr ⟨7,_,rfl⟩
 |8,_=>exact .inl rfl
 |9,_=>exact .inr ⟨8,_,rfl⟩
 |10,_=>exact .inr ⟨9,_,rfl⟩
 |11,_=>exact .inr ⟨10,_,rfl⟩
 |12,_=>exact .inr ⟨11,_,rfl⟩
 |13,_=>exact .inr ⟨12,_,rfl⟩
 |14,_=>exact .inr ⟨13,_,rfl⟩
 |15,_=>exact .inr ⟨14,_,rfl⟩
 |16,_=>exact .inr ⟨15,_,rfl⟩
 |17,_=>exact .inr ⟨16,_,rfl⟩
 |18,_=>exact .inr ⟨17,_,rfl⟩
 |19,_=>exact .inr ⟨18,_,rfl⟩
 |20,_=>exact .inl rfl
 |21,_=>exact .inr ⟨19,_,rfl⟩
 |22,_=>exact .inl rfl
 |23,_=>exact .inr ⟨20,_,rfl⟩
 |24,_=>exact .inr ⟨21,_,rfl⟩
 |25,_=>exact .inr ⟨22,_,rfl⟩
 |26,_=>exact .inl rfl
 |r+27,h=>exact absurd h (by omega)
theorem lK.of{w:World}{lo B:Nat}{v:Value}{fs:List Fld}(h:jq w B v fs)(hv:v= .slice none 0 0∨∃j c,v= .slice (some ⟨lo+j,0,none⟩) c c):lK w lo B v fs:=by
 have h0:=h
 obtain⟨A,c,rfl,h1,h2, -⟩:=h
 refine⟨A,c,rfl,h1,h2,fun k f hf=> ?_⟩
 obtain⟨ad,rfl,hb,hc⟩:=h0.at_ hf
 rcases hv with hv|⟨j,c',hv⟩
 ·cases hv
 ·injection hv with hv
  injection hv with hv
  subst hv
  exact⟨_,rfl,Nat.le_add_right _ _,hb,hc⟩
def I9(k:Nat)(w:World)(e:Ending)(w':World):Prop:=match bQ k with
 |some fs=>∃v,e= .returned (.tuple #[.agg #[.int .u8 (k:Int),.string (ofL (fO k)),v],.bool true])∧lK w' w.heap.size w'.heap.size v fs
 |none=>e= .returned (.tuple #[.agg #[.int .u8 0,.string ⟨#[]⟩,.slice none 0 0],.bool false])
theorem lK.wide{w:World}{lo lo' hi hi':Nat}{v:Value}{fs:List Fld}(h:lK w lo hi v fs)(h1:lo'≤lo)(h2:hi≤hi'):lK w lo' hi' v fs:=by
 obtain⟨A,c,e,h3,h4,h5⟩:=h
 refine⟨A,c,e,h3,h4,fun k f hf=> ?_⟩
 obtain⟨ad,rfl,hl,hh,hc⟩:=h5 k f hf
 exact⟨ad,rfl,Nat.le_trans h1 hl,Nat.lt_of_lt_of_le hh h2,hc⟩
theorem xC(k:Nat)(w:World):Calls Tryz.prog 43 #[.int .u8 (k:Int)] w fun e w'=>Below w.heap.size w w'∧I9 k w e w':=by
 refine(ug (k:Int) w).mono ?_
 rintro e w' ⟨hb,n,hn1,hn2,hk,⟨hi,rfl⟩|⟨hi,rfl⟩⟩
 ·refine⟨hb, ?_⟩
  obtain⟨fs,h1,h2,h3⟩:=uU _ hi
  rw[o9 _ hi]at h1 h2
  unfold I9
  rw[show((k:Int)).toNat=k from rfl]at h1 h2
  rw[h1]
  exact⟨_,by rw[o9 _ hi,h2],(lK.of ((h3 w' n hk).more hn2) (Fa _ n hi)).wide hn1 (Nat.le_refl _)⟩
 ·refine⟨hb, ?_⟩
  unfold I9
  cases hf:bQ k with
  |none=>rfl
  |some fs=>
   obtain⟨-, -,h1,h2⟩:=iP hf
   have:=wL (k-100) (by omega) (by rw[show 100+(k-100)=k by omega,hf];simp)
   rw[show 100+(k-100)=k by omega,hi]at this
   exact absurd this (by decide)
abbrev mgN(m:Mg):List Value:=aF m (.slice none 0 0) (.slice none 0 0) (.slice none 0 0)
theorem bW(m:Mg)(k t:Nat)(vn vq vd:Value):over (mgN (head k t)).toArray 0 (aF m vn vq vd)=(aF m vn vq vd).toArray:=by kernel_rfl
theorem bT(m:Mg){vn vq vd:Value}(h1:vn.oneCell'=true)(h2:vq.oneCell'=true)(h3:vd.oneCell'=true):(aF m vn vq vd).toArray.all (·.oneCell')=true:=by
 simp only[List.all_toArray,List.all_cons,h1,h2,h3]
 rfl
theorem OL.nil_(w:World)(base:Nat)(k t:Nat):OL w base (head k t) (.slice none 0 0) (.slice none 0 0) (.slice none 0 0):=⟨dS _ _ _ _,dS _ _ _ _,dS _ _ _ _⟩
theorem bG{w:World}{base n size:Nat}{e:TypeId}{v:Value}{xs:List Value}(h:w.ownsRow base e size v n xs):v.oneCell'=true:=by
 obtain⟨A,c,rfl, -⟩:=aJ h
 rfl
theorem acS{w:World}(v:Value)(l:List UInt8)(hx:Bys w w.heap.size v l)(hl:l.length≤16777216):
  Calls Tryz.prog 165 #[v] w fun e w'=>(∃v',e= .returned v'∧w'.ownsRow w.heap.size 5 1 v' l.length (aX l))∧Below w.heap.size w w':=by
 obtain⟨A,c,rfl,hc,hm,hr⟩:=hx
 cases A with
 |none=>
  have h0:l=[]:=by
   cases l with
   |nil=>rfl
   |cons x l=>
    obtain⟨ad,h, -⟩:=hr.2 (by simp)
    cases h
  subst h0
  clear hr
  have qn:∀(w:World) (a:Option Addr) (n c n' c':Nat),(binOp .eql 22 (.slice a n c) (.slice none n' c')).run Tryz.prog w= .ok (.bool a.isNone) w:=fun w a n c n' c'=>Lib.run_eql_slice_nil w _ _ a n c n' c' Tryz.underlying22
  go_enter Tryz.func165,Tryz.ntmps165
  go_wp2_with fail
  go_ret
  exact⟨⟨_,rfl,dS _ _ _ _⟩,Below.refl _ _⟩
 |some ad=>
  have hup:Below w.heap.size w (w.alloc (.cells #[] 5)):=(Below.refl _ _).alloc (Nat.le_refl _) _
  have HR:=hid (hr.below hup)
  have HB:=hid hup
  have HL:=hid (show([]:List UInt8).length+l.length≤140737488355327 from by simp only[List.length_nil];omega)
  have HOWN:=hid (show(w.alloc (.cells #[] 5)).ownsRow w.heap.size 5 1 (.slice (some ⟨w.heap.size,0,none⟩) 0 0) ([]:List UInt8).length (aX [])from⟨rfl,.inr ⟨w.heap.size,0, #[],rfl,Nat.le_refl _,Blk.new w 5 #[],Nat.le_refl _,Nat.zero_le _,rfl,rfl⟩⟩)
  clear hr hup
  have qn:∀(w:World) (a:Option Addr) (n c n' c':Nat),(binOp .eql 22 (.slice a n c) (.slice none n' c')).run Tryz.prog w= .ok (.bool a.isNone) w:=fun w a n c n' c'=>Lib.run_eql_slice_nil w _ _ a n c n' c' Tryz.underlying22
  go_enter Tryz.func165,Tryz.ntmps165
  go_wp2_with(at_builtin;refine kY (.tmp 5) (.tmp 6) rfl rfl w.heap.size _ [] rfl HOWN.out w.heap.size _ c l rfl HR.out HL.out HB.out.size ?_;intro v2 w2 hown hgr hor;have HO:=hid hown;have HB2:=hid (HB.out.trans ((Below.refl w.heap.size (w.alloc (.cells #[] 5))).grown hgr HB.out.size (fun k hk=>dH HOWN.out k hk)));clear hown hgr hor;obtain⟨A2,cap2,rfl,hc2,hm2⟩:=aJ HO.out)
  go_ret
  exact⟨⟨_,rfl,by have h:=HO.out;rw[List.nil_append]at h;exact h⟩,HB2.out⟩
theorem acJ{w:World}(v:Value)(l:List ByteArray)(hx:iW w w.heap.size v l)(hl:l.length≤16777216):
  Calls Tryz.prog 215 #[v] w fun e w'=>(∃v',e= .returned v'∧w'.ownsRow w.heap.size 9 1 v' l.length (h_ l))∧Below w.heap.size w w':=by
 obtain⟨A,c,rfl,hc,hm,hr⟩:=hx
 cases A with
 |none=>
  have h0:l=[]:=by
   cases l with
   |nil=>rfl
   |cons x l=>
    obtain⟨ad,h, -⟩:=hr.2 (by simp)
    cases h
  subst h0
  clear hr
  have qn:∀(w:World) (a:Option Addr) (n c n' c':Nat),(binOp .eql 33 (.slice a n c) (.slice none n' c')).run Tryz.prog w= .ok (.bool a.isNone) w:=fun w a n c n' c'=>Lib.run_eql_slice_nil w _ _ a n c n' c' Tryz.underlying33
  go_enter Tryz.func215,Tryz.ntmps215
  go_wp2_with fail
  go_ret
  exact⟨⟨_,rfl,dS _ _ _ _⟩,Below.refl _ _⟩
 |some ad=>
  have hup:Below w.heap.size w (w.alloc (.cells #[] 9)):=(Below.refl _ _).alloc (Nat.le_refl _) _
  have HR:=hid (hr.below hup)
  have HB:=hid hup
  have HL:=hid (show([]:List ByteArray).length+l.length≤8796093022207 from by simp only[List.length_nil];omega)
  have HOWN:=hid (show(w.alloc (.cells #[] 9)).ownsRow w.heap.size 9 1 (.slice (some ⟨w.heap.size,0,none⟩) 0 0) ([]:List ByteArray).length (h_ [])from⟨rfl,.inr ⟨w.heap.size,0, #[],rfl,Nat.le_refl _,Blk.new w 9 #[],Nat.le_refl _,Nat.zero_le _,rfl,rfl⟩⟩)
  clear hr hup
  have qn:∀(w:World) (a:Option Addr) (n c n' c':Nat),(binOp .eql 33 (.slice a n c) (.slice none n' c')).run Tryz.prog w= .ok (.bool a.isNone) w:=fun w a n c n' c'=>Lib.run_eql_slice_nil w _ _ a n c n' c' Tryz.underlying33
  go_enter Tryz.func215,Tryz.ntmps215
  go_wp2_with(at_builtin;refine oQ (.tmp 5) (.tmp 6) rfl rfl w.heap.size _ [] rfl HOWN.out w.heap.size _ c l rfl HR.out HL.out HB.out.size ?_;intro v2 w2 hown hgr hor;have HO:=hid hown;have HB2:=hid (HB.out.trans ((Below.refl w.heap.size (w.alloc (.cells #[] 9))).grown hgr HB.out.size (fun k hk=>dH HOWN.out k hk)));clear hown hgr hor;obtain⟨A2,cap2,rfl,hc2,hm2⟩:=aJ HO.out)
  go_ret
  exact⟨⟨_,rfl,by have h:=HO.out;rw[List.nil_append]at h;exact h⟩,HB2.out⟩
theorem acK{w:World}(v:Value)(l:List Qd)(hx:lX w w.heap.size v l)(hl:l.length≤16777216):
  Calls Tryz.prog 228 #[v] w fun e w'=>(∃v',e= .returned v'∧w'.ownsRow w.heap.size 37 3 v' l.length (ng l))∧Below w.heap.size w w':=by
 obtain⟨A,c,rfl,hc,hm,hr⟩:=hx
 cases A with
 |none=>
  have h0:l=[]:=by
   cases l with
   |nil=>rfl
   |cons x l=>
    obtain⟨ad,h, -⟩:=hr.2 (by simp)
    cases h
  subst h0
  clear hr
  have qn:∀(w:World) (a:Option Addr) (n c n' c':Nat),(binOp .eql 34 (.slice a n c) (.slice none n' c')).run Tryz.prog w= .ok (.bool a.isNone) w:=fun w a n c n' c'=>Lib.run_eql_slice_nil w _ _ a n c n' c' Tryz.underlying34
  go_enter Tryz.func228,Tryz.ntmps228
  go_wp2_with fail
  go_ret
  exact⟨⟨_,rfl,dS _ _ _ _⟩,Below.refl _ _⟩
 |some ad=>
  have hup:Below w.heap.size w (w.alloc (.cells #[] 37)):=(Below.refl _ _).alloc (Nat.le_refl _) _
  have HR:=hid (hr.below hup)
  have HB:=hid hup
  have HL:=hid (show([]:List Qd).length+l.length≤8796093022207 from by simp only[List.length_nil];omega)
  have HOWN:=hid (show(w.alloc (.cells #[] 37)).ownsRow w.heap.size 37 3 (.slice (some ⟨w.heap.size,0,none⟩) 0 0) ([]:List Qd).length (ng [])from⟨rfl,.inr ⟨w.heap.size,0, #[],rfl,Nat.le_refl _,Blk.new w 37 #[],Nat.le_refl _,Nat.zero_le _,rfl,rfl⟩⟩)
  clear hr hup
  have qn:∀(w:World) (a:Option Addr) (n c n' c':Nat),(binOp .eql 34 (.slice a n c) (.slice none n' c')).run Tryz.prog w= .ok (.bool a.isNone) w:=fun w a n c n' c'=>Lib.run_eql_slice_nil w _ _ a n c n' c' Tryz.underlying34
  go_enter Tryz.func228,Tryz.ntmps228
  go_wp2_with(at_builtin;refine Ai (.tmp 5) (.tmp 6) rfl rfl w.heap.size _ [] rfl HOWN.out w.heap.size _ c l rfl HR.out HL.out HB.out.size ?_;intro v2 w2 hown hgr hor;have HO:=hid hown;have HB2:=hid (HB.out.trans ((Below.refl w.heap.size (w.alloc (.cells #[] 37))).grown hgr HB.out.size (fun k hk=>dH HOWN.out k hk)));clear hown hgr hor;obtain⟨A2,cap2,rfl,hc2,hm2⟩:=aJ HO.out)
  go_ret
  exact⟨⟨_,rfl,by have h:=HO.out;rw[List.nil_append]at h;exact h⟩,HB2.out⟩
theorem cell_far(w:World){b o c i:Nat}(h:b≠c)(v:Value):(w.setCell ⟨c,i,none⟩ v).cell? ⟨b,o,none⟩=w.cell? ⟨b,o,none⟩:=
 World.cell?_of_block (Below.heap_setCell _ _ _ _ h)
theorem ab6{w:World}{c q b o K:Nat}{old:Value}{x:Nat}(hent:∀args w,Sem.run Tryz.prog (callFunc K args) w= .ok (.enter K args) w)(hat:∀q w,Calls Tryz.prog K #[.pointer (some ⟨q,0,none⟩)] w fun e w'=>e= .returned (.pointer (some ⟨q,o,none⟩))∧w=w')(hcq:q≠c)(hcb:b≠c)(kb:w.cell? ⟨b,0,none⟩=some (fv K #[]))(kq:w.cell? ⟨q,o,none⟩=some (.int .u32 (x:Int)))(kc:w.cell? ⟨c,o,none⟩=some old)(zc:w.frozen? ⟨c,o,none⟩=false):
  Calls Tryz.prog 129 #[.pointer (some ⟨c,0,none⟩),.pointer (some ⟨q,0,none⟩),.pointer (some ⟨b,0,none⟩)] w fun e w'=>e= .returned (.tuple #[])∧∃w1,Below w.heap.size w w1∧w'=w1.setCell ⟨c,o,none⟩ (.int .u32 (x:Int)):=by
 have HAT:=hid hat
 have HC:=hid (show w.drew.cell? ⟨c,o,none⟩=some old∧w.drew.frozen? ⟨c,o,none⟩=false from⟨kc,zc⟩)
 have aen:=hid (show∀wx:World,(wx.cell? ⟨b,0,none⟩=some (fv K #[])∧wx.cell? ⟨q,o,none⟩=some (.int .u32 (x:Int)))→((wx.setCell ⟨c,o,none⟩ (.int .u32 (x:Int))).cell? ⟨b,0,none⟩=some (fv K #[])∧(wx.setCell ⟨c,o,none⟩ (.int .u32 (x:Int))).cell? ⟨q,o,none⟩=some (.int .u32 (x:Int)))from fun wx h=>⟨(cell_far wx hcb _).trans h.1,(cell_far wx hcq _).trans h.2⟩)
 have QO:=hid (show∃w1,Below w.heap.size w w1∧w.drew.setCell ⟨c,o,none⟩ (.int .u32 (x:Int))=w1.setCell ⟨c,o,none⟩ (.int .u32 (x:Int))from⟨_,aC w,rfl⟩)
 clear hat
 go_enter Tryz.func129,Tryz.ntmps129
 go_upto_region 0 with(fail)
 refine wp_region_held_drew (S:=fun wx=>wx.cell? ⟨b,0,none⟩=some (fv K #[])∧wx.cell? ⟨q,o,none⟩=some (.int .u32 (x:Int))) (by kernel_rfl) ⟨kb,kq⟩ (fun hHeld=> ?_)
 clear kb kq kc zc hcq hcb
 generalize w.drew=wd at hHeld HC QO⊢
 refine tk2 5 0 (.func (.func K) #[] #[]) rfl (fun wq hSw=>by have kb:=hSw.1;go_simp) ?_
 refine tk 6 1 (.pointer (some ⟨c,0,none⟩)) ?_
 refine tk2 8 3 (.func (.func K) #[] #[]) rfl (fun wq hSw=>by have kb:=hSw.1;go_simp) ?_
 refine tk 9 4 (.pointer (some ⟨q,0,none⟩)) ?_
 refine wpAnyH_ready (rs:=[2]) (by kernel_rfl) (by simp) ?_
 refine AllReadyH.cons rfl (fun K hK=> ?_) AllReadyH.nil
 rw[if_pos (by rfl)]
 go_simp
 (with_reducible refine(HAT.out c wd).mono ?_)
 rintro e w' ⟨rfl,rfl⟩
 dsimp only
 refine hK.out _ _ hHeld (fun hHeld=> ?_)
 clear hK
 refine wpAnyH_ready (rs:=[5]) (by kernel_rfl) (by simp) ?_
 refine AllReadyH.cons rfl (fun K hK=> ?_) AllReadyH.nil
 rw[if_pos (by rfl)]
 go_simp
 (with_reducible refine(HAT.out q wd).mono ?_)
 rintro e w' ⟨rfl,rfl⟩
 dsimp only
 refine hK.out _ _ hHeld (fun hHeld=> ?_)
 clear hK
 refine tk 11 6 (.pointer (some ⟨q,o,none⟩)) ?_
 refine tk2 12 7 (.int .u32 (x:Int)) rfl (fun wq hSw=>by have kq:=hSw.2;go_simp) ?_
 refine tk 13 8 (.pointer (some ⟨c,o,none⟩)) ?_
 refine wpAnyH_ready (rs:=[9]) (by kernel_rfl) (by simp) ?_
 refine AllReadyH.cons rfl (fun K hK=> ?_) AllReadyH.nil
 rw[if_pos (by rfl)]
 have kc:=HC.out.1
 have zc:=HC.out.2
 go_simp
 refine hK.out _ _ (aen.out _ hHeld) (fun hHeld=> ?_)
 clear hK
 refine wpAnyH_done (by kernel_rfl) ?_ _
 go_wp2_with fail
 go_end0
 exact⟨rfl,QO.out⟩
theorem ach{w:World}{c q b o K:Nat}{old:Value}{x:ByteArray}(hent:∀args w,Sem.run Tryz.prog (callFunc K args) w= .ok (.enter K args) w)(hat:∀q w,Calls Tryz.prog K #[.pointer (some ⟨q,0,none⟩)] w fun e w'=>e= .returned (.pointer (some ⟨q,o,none⟩))∧w=w')(hcq:q≠c)(hcb:b≠c)(kb:w.cell? ⟨b,0,none⟩=some (fv K #[]))(kq:w.cell? ⟨q,o,none⟩=some (.string x))(kc:w.cell? ⟨c,o,none⟩=some old)(zc:w.frozen? ⟨c,o,none⟩=false):
  Calls Tryz.prog 138 #[.pointer (some ⟨c,0,none⟩),.pointer (some ⟨q,0,none⟩),.pointer (some ⟨b,0,none⟩)] w fun e w'=>e= .returned (.tuple #[])∧∃w1,Below w.heap.size w w1∧w'=w1.setCell ⟨c,o,none⟩ (.string x):=by
 have HAT:=hid hat
 have HC:=hid (show w.drew.cell? ⟨c,o,none⟩=some old∧w.drew.frozen? ⟨c,o,none⟩=false from⟨kc,zc⟩)
 have aen:=hid (show∀wx:World,(wx.cell? ⟨b,0,none⟩=some (fv K #[])∧wx.cell? ⟨q,o,none⟩=some (.string x))→((wx.setCell ⟨c,o,none⟩ (.string x)).cell? ⟨b,0,none⟩=some (fv K #[])∧(wx.setCell ⟨c,o,none⟩ (.string x)).cell? ⟨q,o,none⟩=some (.string x))from fun wx h=>⟨(cell_far wx hcb _).trans h.1,(cell_far wx hcq _).trans h.2⟩)
 have QO:=hid (show∃w1,Below w.heap.size w w1∧w.drew.setCell ⟨c,o,none⟩ (.string x)=w1.setCell ⟨c,o,none⟩ (.string x)from⟨_,aC w,rfl⟩)
 clear hat
 go_enter Tryz.func138,Tryz.ntmps138
 go_upto_region 0 with(fail)
 refine wp_region_held_drew (S:=fun wx=>wx.cell? ⟨b,0,none⟩=some (fv K #[])∧wx.cell? ⟨q,o,none⟩=some (.string x)) (by kernel_rfl) ⟨kb,kq⟩ (fun hHeld=> ?_)
 clear kb kq kc zc hcq hcb
 generalize w.drew=wd at hHeld HC QO⊢
 refine tk2 5 0 (.func (.func K) #[] #[]) rfl (fun wq hSw=>by have kb:=hSw.1;go_simp) ?_
 refine tk 6 1 (.pointer (some ⟨c,0,none⟩)) ?_
 refine tk2 8 3 (.func (.func K) #[] #[]) rfl (fun wq hSw=>by have kb:=hSw.1;go_simp) ?_
 refine tk 9 4 (.pointer (some ⟨q,0,none⟩)) ?_
 refine wpAnyH_ready (rs:=[2]) (by kernel_rfl) (by simp) ?_
 refine AllReadyH.cons rfl (fun K hK=> ?_) AllReadyH.nil
 rw[if_pos (by rfl)]
 go_simp
 (with_reducible refine(HAT.out c wd).mono ?_)
 rintro e w' ⟨rfl,rfl⟩
 dsimp only
 refine hK.out _ _ hHeld (fun hHeld=> ?_)
 clear hK
 refine wpAnyH_ready (rs:=[5]) (by kernel_rfl) (by simp) ?_
 refine AllReadyH.cons rfl (fun K hK=> ?_) AllReadyH.nil
 rw[if_pos (by rfl)]
 go_simp
 (with_reducible refine(HAT.out q wd).mono ?_)
 rintro e w' ⟨rfl,rfl⟩
 dsimp only
 refine hK.out _ _ hHeld (fun hHeld=> ?_)
 clear hK
 refine tk 11 6 (.pointer (some ⟨q,o,none⟩)) ?_
 refine tk2 12 7 (.string x) rfl (fun wq hSw=>by have kq:=hSw.2;go_simp) ?_
 refine tk 13 8 (.pointer (some ⟨c,o,none⟩)) ?_
 refine wpAnyH_ready (rs:=[9]) (by kernel_rfl) (by simp) ?_
 refine AllReadyH.cons rfl (fun K hK=> ?_) AllReadyH.nil
 rw[if_pos (by rfl)]
 have kc:=HC.out.1
 have zc:=HC.out.2
 go_simp
 refine hK.out _ _ (aen.out _ hHeld) (fun hHeld=> ?_)
 clear hK
 refine wpAnyH_done (by kernel_rfl) ?_ _
 go_wp2_with fail
 go_end0
 exact⟨rfl,QO.out⟩
end Go.Proofs.YtkblmloobkiloaaGreatDoor
