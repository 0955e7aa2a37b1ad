/-
  MT2 M3 MT3: what the laws of package msg need of them.
-/
import Derived.Test.YtkblmloobkiloaaGreatDoorF00
import Derived.Test.YtkblmloobkiloaaGreatDoorF07
import Derived.Shelf.Strings.BuilderK
import Derived.Lib.RuneBytes
import Derived.Test.YtkblmloobkiloaaGreatDoorF06
import Derived.Lib.MapLaws
set_option maxRecDepth 100000
set_option maxHeartbeats 4000000
namespace Go.Proofs.YtkblmloobkiloaaGreatDoor
open Go.RowKit
abbrev SB(w:World)(B b:Nat)(l:List Value):Prop:=Lib.IsBuilderF 197 5 B b l w
theorem Gt:(Tryz.prog.info? 197).map (·.size)=some 2:=by kernel_rfl
theorem NK:liesAt Tryz.prog Tryz.prog.depth 197 (2/Tryz.prog.cellsOf 197) 0 197 1=true:=by kernel_rfl
theorem Ap(b:Nat)(w:World)(h0:w.cell? ⟨b,0,none⟩=some (.pointer (some ⟨b,0,none⟩))):
  Calls Tryz.prog 252 #[.pointer (some ⟨b,0,none⟩)] w fun e w'=>e= .returned (.tuple #[])∧w'=w:=by
 obtain⟨j,hj,_⟩:=Option.map_eq_some_iff.1 Gt
 go_enter Tryz.func252,Tryz.ntmps252
 go_wp2
 rw[Lib.run_neq_ptr_same w _ Tryz.underlying195 hj]
 go_wp2
 go_end0
 exact⟨rfl,rfl⟩
theorem yx(b:Nat)(w:World)(h0:w.cell? ⟨b,0,none⟩=some (.pointer none))(hsh:w.shape? b=some (197,2))(hfz:w.frozen? ⟨b,0,none⟩=false):
  Calls Tryz.prog 252 #[.pointer (some ⟨b,0,none⟩)] w fun e w'=>e= .returned (.tuple #[])∧w'=w.setCell ⟨b,0,none⟩ (.pointer (some ⟨b,0,none⟩)):=by
 obtain⟨j,hj,hjs⟩:=Option.map_eq_some_iff.1 Gt
 go_enter Tryz.func252,Tryz.ntmps252
 go_wp2
 rw[Lib.run_to_unsafe w ⟨b,0,none⟩ Tryz.underlying195 Tryz.underlying247 hj (by rw[hjs];decide) hsh (Nat.zero_lt_succ 1)]
 simp only[Result.andThen]
 rw[Oper.upon_value]
 go_wp2
 rw[run_callFunc_extern Tryz.func276 (by kernel_rfl) (by kernel_rfl) (by kernel_rfl) (e:=Extern.AbiNoEscape.same) (by kernel_rfl)]
 rw[Lib.run_noEscape]
 simp only[Result.andThen]
 rw[Oper.upon_value]
 go_wp2
 rw[Lib.run_from_unsafe w ⟨b,0,none⟩ Tryz.underlying247 Tryz.underlying195 hj hsh NK]
 simp only[Result.andThen]
 rw[Oper.upon_value]
 go_wp2
 go_end0
 exact⟨rfl,rfl⟩
theorem ni(B b:Nat)(bs:List Value)(w:World)(h:SB w B b bs):
  Calls Tryz.prog 252 #[.pointer (some ⟨b,0,none⟩)] w fun e w'=>e= .returned (.tuple #[])∧(Lib.BuilderAtF 197 5 B b (.pointer (some ⟨b,0,none⟩)) bs w'∧Below B w w'∧Lib.OthersKept 5 (some b) w w'):=by
 rcases h with h|h
 ·refine(yx b w h.cell0 h.shape h.frozen0).mono ?_
  rintro e w' ⟨rfl,rfl⟩
  exact⟨rfl,h.used _,(Below.refl B w).setCell (p:=⟨b,0,none⟩) h.1 _,(Lib.OthersKept.refl _ _ w).setCell ⟨b,0,none⟩ rfl _⟩
 ·refine(Ap b w h.cell0).mono ?_
  rintro e w' ⟨rfl,rfl⟩
  exact⟨rfl,h,Below.refl B _,Lib.OthersKept.refl _ _ _⟩
theorem jR(B b:Nat)(bs:List Value)(c:Int)(w:World)(h:SB w B b bs)(hlen:bs.length+1≤140737488355328)(hBw:B≤w.heap.size):
  Calls Tryz.prog 198 #[.pointer (some ⟨b,0,none⟩),.int .u8 c] w fun e w'=>e= .returned .nilIface∧SB w' B b (bs++[.int .u8 c])∧Below B w w'∧Lib.OthersKept 5 (some b) w w':=by
 obtain⟨i0,hi,hz0,hz1,hz2⟩:=info_parts mF
 go_enter Tryz.func198,Tryz.ntmps198
 go_wp2_with(go_at_call 252;refine(ni B b bs _ h).mono ?_)
 rintro e w1 ⟨rfl,h1,hb1,hk1⟩
 obtain⟨hB,v,hbk,hown,hne⟩:=h1
 have c0:w1.cell? ⟨b,0,none⟩=some (.pointer (some ⟨b,0,none⟩)):=by rw[Lib.cell_of_heap hbk];rfl
 have c1:w1.cell? ⟨b,1,none⟩=some v:=by rw[Lib.cell_of_heap hbk];rfl
 go_wp2_with(at_builtin;refine wpList_append_ownF _ rfl _ _ 22 rfl B 5 i0 (.int .u8 0) 1 1 Tryz.underlying22 hi hz0 hz1 hz2 rfl (by decide) _ _ _ rfl (hown.alloc _) ⟨w1.heap.size,0,none⟩ 1 1 [.int .u8 c] rfl rfl ?c1 ?c2 ?c3 ?c4 ?c5 ?_)
 case c1=>
  intro j u hj
  match j,hj with
  |0,hj=>simp at hj;subst hj;simp[Addr.add]
 case c2=>intro u hu;simp at hu;subst hu;rfl
 case c3=>unfold maxLen;omega
 case c4=>omega
 case c5=>have:=hb1.size;simp;omega
 intro v' w2 hown' hgrow _
 have hlt:b<w1.heap.size:=dP hbk
 have hb2:w2.heap[b]? =some (.cells #[.pointer (some ⟨b,0,none⟩),v] 197 (0,0)):=by
  rw[hgrow.block b (by simp;omega) (fun e=>hne e.symm),Lib.alloc_old w1 _ b hlt]
  exact hbk
 have d0:w2.cell? ⟨b,0,none⟩=some (.pointer (some ⟨b,0,none⟩)):=by rw[Lib.cell_of_heap hb2];rfl
 have d1:w2.cell? ⟨b,1,none⟩=some v:=by rw[Lib.cell_of_heap hb2];rfl
 have f1:w2.frozen? ⟨b,1,none⟩=false:=Lib.frozen_of_heap hb2 1
 obtain⟨g,cap,rfl⟩:∃g cap,v'= .slice (some ⟨g,0,none⟩) (bs.length+1) cap:=by
  rcases hown'.2 with⟨_,h0⟩|⟨g,cap,cur,fz,hv,_⟩
  ·omega
  ·exact⟨g,cap,hv⟩
 go_wp2
 go_ret
 refine⟨rfl, ?_, ?_,((hk1.alloc _).grown hgrow (Lib.ownsRowF_kind (hown.alloc _))).setCell ⟨b,1,none⟩ rfl _⟩
 ·exact .inr (Lib.BuilderAtF.put (T:=197) (e:=5) hB hb2 (bs':=bs++[.int .u8 c]) (by simpa using hown') (by decide))
 ·exact((hb1.alloc (by have:=hb1.size;omega) _).grown hgrow (by have:=hb1.size;simp;omega) (fun k hk=>(hown.lt k hk).1)).setCell (p:=⟨b,1,none⟩) hB _
theorem nY(B b:Nat)(bs:List Value)(r:Int)(hr0: -2147483648≤r)(hr1:r≤2147483647)(w:World)(h:SB w B b bs)(hlen:bs.length+4≤140737488355328)(hBw:B≤w.heap.size):
  Calls Tryz.prog 199 #[.pointer (some ⟨b,0,none⟩),.int .i32 r] w fun e w'=>(∃u v,e= .returned (.tuple #[u,v]))∧SB w' B b (bs++Lib.runeCells r)∧Below B w w'∧Lib.OthersKept 5 (some b) w w':=by
 have hk4:=Lib.runeCells_le r
 go_enter Tryz.func199,Tryz.ntmps199
 go_wp2_with(go_at_call 252;refine(ni B b bs _ h).mono ?_)
 rintro e w1 ⟨rfl,h1,hb1,hk1⟩
 obtain⟨hB,v,hbk,hown,hne⟩:=h1
 obtain⟨ao,cap,rfl⟩:∃ao cap,v= .slice ao bs.length cap:=by
  rcases hown.2 with⟨hv,h0⟩|⟨g,cap,cur,fz,hv,_⟩
  ·exact⟨none,0,by rw[hv,h0]⟩
  ·exact⟨_,_,hv⟩
 have c0:w1.cell? ⟨b,0,none⟩=some (.pointer (some ⟨b,0,none⟩)):=by rw[Lib.cell_of_heap hbk];rfl
 have c1:w1.cell? ⟨b,1,none⟩=some (.slice ao bs.length cap):=by rw[Lib.cell_of_heap hbk];rfl
 go_wp2_with(go_at_call 253;refine(Tryz.utf8_AppendRune_row B _ bs.length bs r hr0 hr1 _ hown hlen (by have:=hb1.size;omega)).mono ?_)
 rintro e w2 ⟨v',rfl,hown',o,hgrow⟩
 have hlt:b<w1.heap.size:=dP hbk
 have hb2:w2.heap[b]? =some (.cells #[.pointer (some ⟨b,0,none⟩),.slice ao bs.length cap] 197 (0,0)):=by
  rw[hgrow.block b (by simp;omega) (fun e=>hne e.symm),Lib.alloc_old w1 _ b hlt]
  exact hbk
 have d0:w2.cell? ⟨b,0,none⟩=some (.pointer (some ⟨b,0,none⟩)):=by rw[Lib.cell_of_heap hb2];rfl
 have d1:w2.cell? ⟨b,1,none⟩=some (.slice ao bs.length cap):=by rw[Lib.cell_of_heap hb2];rfl
 have f1:w2.frozen? ⟨b,1,none⟩=false:=Lib.frozen_of_heap hb2 1
 obtain⟨g,cap',rfl⟩:∃g cap',v'= .slice (some ⟨g,0,none⟩) (bs.length+(Lib.runeCells r).length) cap':=by
  rcases hown'.2 with⟨_,h0⟩|⟨g,cap',cur,fz,hv,_⟩
  ·omega
  ·exact⟨g,cap',hv⟩
 go_wp2
 go_ret2
 refine⟨⟨_,_,rfl⟩, ?_, ?_,((hk1.alloc _).grown hgrow (Lib.ownsRowF_kind (hown.alloc _))).setCell ⟨b,1,none⟩ rfl _⟩
 ·exact .inr (Lib.BuilderAtF.put (T:=197) (e:=5) hB hb2 (bs':=bs++Lib.runeCells r) (by simpa using hown') (by decide))
 ·exact((hb1.alloc (by have:=hb1.size;omega) _).grown hgrow (by have:=hb1.size;simp;omega) (fun k hk=>(hown.lt k hk).1)).setCell (p:=⟨b,1,none⟩) hB _
end Go.Proofs.YtkblmloobkiloaaGreatDoor
namespace Go.Proofs.YtkblmloobkiloaaGreatDoor
open Go.Lib (decDigits)
theorem y8(l:List UInt8)(c:UInt8):mZ (l++[c])=mZ l*10+(c.toNat-48):=by
 unfold mZ;rw[List.foldl_append];rfl
theorem qB(u:Nat):∀c∈decDigits u,iT c=true:=by
 induction u using Nat.strongRecOn with
 |ind u ih=>
  rw[decDigits]
  split
  ·rename_i h
   intro c hc
   rw[List.mem_singleton]at hc
   subst hc
   unfold iT
   rw[iK _ (by omega),Bool.and_eq_true,decide_eq_true_iff,decide_eq_true_iff]
   omega
  ·rename_i h
   intro c hc
   rcases List.mem_append.1 hc with hc|hc
   ·exact ih (u/10) (by omega) c hc
   ·rw[List.mem_singleton]at hc
    subst hc
    unfold iT
    rw[iK _ (by omega),Bool.and_eq_true,decide_eq_true_iff,decide_eq_true_iff]
    omega
theorem n_(u:Nat):decDigits u≠ []:=by
 rw[decDigits]
 split<;>simp
theorem vN(u:Nat):mZ (decDigits u)=u:=by
 induction u using Nat.strongRecOn with
 |ind u ih=>
  rw[decDigits]
  split
  ·rename_i h
   show 0*10+((UInt8.ofNat (48+u)).toNat-48)=u
   rw[iK _ (by omega)]
   omega
  ·rename_i h
   rw[y8,ih (u/10) (by omega),iK _ (by omega)]
   omega
theorem vO(u:Nat)(h:1≤u):(decDigits u).head?≠some 48:=by
 induction u using Nat.strongRecOn with
 |ind u ih=>
  rw[decDigits]
  split
  ·rename_i h'
   intro he
   have he':UInt8.ofNat (48+u)=48:=by simpa using he
   have:=congrArg UInt8.toNat he'
   rw[iK _ (by omega)]at this
   have h48:(48:UInt8).toNat=48:=rfl
   omega
  ·rename_i h'
   have hi:=ih (u/10) (by omega) (by omega)
   cases hd:decDigits (u/10)with
   |nil=>exact absurd hd (n_ _)
   |cons c d=>rw[hd]at hi;exact hi
theorem Il{c:UInt8}(h:iT c=true):48≤c.toNat∧c.toNat≤57:=by
 unfold iT at h
 rwa[Bool.and_eq_true,decide_eq_true_iff,decide_eq_true_iff]at h
theorem vP:∀(n:Nat) (d:List UInt8),d.length=n→(∀c∈d,iT c=true)→d≠ []→¬(2≤d.length∧d.head?=some 48)→decDigits (mZ d)=d:=by
 intro n
 induction n with
 |zero=>intro d hl _ hne;exact absurd (List.length_eq_zero_iff.1 hl) hne
 |succ n ih=>
  intro d hl ha hne hz
  obtain⟨e,c,rfl⟩:∃e c,d=e++[c]:=⟨d.dropLast,d.getLast hne,(List.dropLast_concat_getLast hne).symm⟩
  have hc:=Il (ha c (List.mem_append_right _ List.mem_cons_self))
  have hcc:UInt8.ofNat c.toNat=c:=UInt8.ofNat_toNat
  rw[List.length_append,List.length_singleton]at hl
  cases e with
  |nil=>
   show decDigits (0*10+(c.toNat-48))=[c]
   rw[decDigits,dif_pos (by omega),show 48+(0*10+(c.toNat-48))=c.toNat by omega,hcc]
  |cons x e=>
   have h1:x≠48:=by
    intro hx
    exact hz ⟨by rw[List.length_append];simp only[List.length_cons,List.length_nil];omega,by rw[hx];rfl⟩
   have he:=ih (x::e) (by omega) (fun y hy=>ha y (List.mem_append_left _ hy)) (by simp) (by rintro⟨_,h⟩;exact h1 (by simpa using h))
   have hv:1≤mZ (x::e):=by
    rcases Nat.eq_zero_or_pos (mZ (x::e))with h0|h0
    ·rw[h0,decDigits,dif_pos (by omega)]at he
     injection he with he _
     exact absurd he.symm h1
    ·exact h0
   rw[y8,decDigits,dif_neg (by omega),show(mZ (x::e)*10+(c.toNat-48))/10=mZ (x::e) by omega,he,show 48+(mZ (x::e)*10+(c.toNat-48))%10=c.toNat by omega,hcc]
def Stops(p:UInt8→Bool)(r:List UInt8):Prop:=∀c,r.head?=some c→p c=false
theorem kV{p:UInt8→Bool}:∀(a r:List UInt8),(∀c∈a,p c=true)→Stops p r→(a++r).takeWhile p=a
 | [],[],_,_=>rfl
 | [],c::r,_,h=>by
  rw[List.nil_append,List.takeWhile_cons,h c rfl]
  rfl
 |x::a,r,ha,h=>by
  rw[List.cons_append,List.takeWhile_cons,ha x List.mem_cons_self]
  simp only[if_true]
  rw[kV a r (fun c hc=>ha c (List.mem_cons_of_mem _ hc)) h]
theorem lI{p:UInt8→Bool}:∀l:List UInt8,l=l.takeWhile p++l.drop (l.takeWhile p).length∧(∀c∈l.takeWhile p,p c=true)∧Stops p (l.drop (l.takeWhile p).length)
 | []=>⟨rfl,by simp,fun c h=>by simp at h⟩
 |x::l=>by
  rw[List.takeWhile_cons]
  cases hx:p x with
  |false=>exact⟨rfl,by simp,fun c h=>by simp at h;rw[←h,hx]⟩
  |true=>
   obtain⟨h1,h2,h3⟩:=lI (p:=p) l
   simp only[if_true,List.length_cons,List.drop_succ_cons,List.cons_append]
   refine⟨by rw[←h1], ?_,h3⟩
   intro c hc
   rcases List.mem_cons.1 hc with rfl|hc
   ·exact hx
   ·exact h2 c hc
theorem eX(most n:Nat)(r:List UInt8)(h:n≤most)(hr:Stops iT r):fZ most (decDigits n++r)= .ok (n,r):=by
 unfold fZ
 rw[kV _ _ (qB n) hr]
 dsimp only
 rw[vN,if_neg,List.drop_left]
 rintro(h1|⟨h1,h2⟩|h1)
 ·exact n_ n h1
 ·rcases Nat.eq_zero_or_pos n with h0|h0
  ·subst h0
   rw[decDigits,dif_pos (by decide)]at h1
   exact absurd h1 (by decide)
  ·exact vO n h0 h2
 ·omega
theorem gB{most n:Nat}{l r:List UInt8}(h:fZ most l= .ok (n,r)):l=decDigits n++r∧n≤most∧Stops iT r:=by
 unfold fZ at h
 dsimp only at h
 split at h
 ·cases h
 ·rename_i hn
  injection h with h
  injection h with h1 h2
  obtain⟨p1,p2,p3⟩:=lI (p:=iT) l
  subst h1;subst h2
  have hd:=vP _ (l.takeWhile iT) rfl p2 (fun h=>hn (.inl h)) (fun h=>hn (.inr (.inl h)))
  refine⟨by rw[hd];exact p1, ?_,p3⟩
  have:¬most<mZ (l.takeWhile iT):=fun h=>hn (.inr (.inr h))
  omega
theorem gG(w r:List UInt8):dQ w (w++r)= .ok r:=by
 unfold dQ
 rw[if_pos (by rw[List.isPrefixOf_iff_prefix];exact List.prefix_append _ _),List.drop_left]
theorem lV(c:UInt8)(r:List UInt8):dQ [c] (c::r)= .ok r:=gG [c] r
theorem fQ{w l r:List UInt8}(h:dQ w l= .ok r):l=w++r:=by
 unfold dQ at h
 split at h
 ·rename_i hp
  rw[List.isPrefixOf_iff_prefix]at hp
  obtain⟨t,rfl⟩:=hp
  injection h with h
  rw[←h,List.drop_left]
 ·cases h
theorem nI(n:Nat)(h:n<16):dG (hexD n)=true∧hexV (hexD n)=n:=by
 have:n=0∨n=1∨n=2∨n=3∨n=4∨n=5∨n=6∨n=7∨n=8∨n=9∨n=10∨n=11∨n=12∨n=13∨n=14∨n=15:=by omega
 rcases this with rfl|rfl|rfl|rfl|rfl|rfl|rfl|rfl|rfl|rfl|rfl|rfl|rfl|rfl|rfl|rfl<;>exact⟨rfl,rfl⟩
theorem Ep{c:UInt8}(h:dG c=true):(48≤c.toNat∧c.toNat≤57)∨(97≤c.toNat∧c.toNat≤102):=by
 unfold dG iT at h
 simp only[Bool.or_eq_true,Bool.and_eq_true,decide_eq_true_iff]at h
 exact h
theorem rH{c:UInt8}(h:dG c=true):hexV c<16∧hexD (hexV c)=c:=by
 have hc:UInt8.ofNat c.toNat=c:=UInt8.ofNat_toNat
 rcases Ep h with h|h
 ·unfold hexV
  rw[if_pos (by omega)]
  refine⟨by omega, ?_⟩
  unfold hexD
  rw[if_pos (by omega),show 48+(c.toNat-48)=c.toNat by omega,hc]
 ·unfold hexV
  rw[if_neg (by omega)]
  refine⟨by omega, ?_⟩
  unfold hexD
  rw[if_neg (by omega),show 87+(c.toNat-87)=c.toNat by omega,hc]
theorem y9(c:UInt8):UInt8.ofNat (hexV (hexD (c.toNat/16))*16+hexV (hexD (c.toNat%16)))=c:=by
 have hc:=c.toNat_lt
 rw[(nI (c.toNat/16) (by omega)).2,(nI (c.toNat%16) (by omega)).2,show c.toNat/16*16+c.toNat%16=c.toNat by omega,UInt8.ofNat_toNat]
theorem Gv{h k:UInt8}(hh:dG h=true)(hk:dG k=true):jW (UInt8.ofNat (hexV h*16+hexV k))=[h,k]:=by
 have h1:=rH hh
 have h2:=rH hk
 unfold jW
 rw[iK _ (by omega),show(hexV h*16+hexV k)/16=hexV h by omega,show(hexV h*16+hexV k)%16=hexV k by omega,h1.2,h2.2]
theorem vS:∀l:List UInt8,pairs (l.flatMap jW)=l
 | []=>rfl
 |c::l=>by
  rw[List.flatMap_cons]
  show UInt8.ofNat _::pairs (l.flatMap jW)=_
  rw[vS l,y9]
theorem vT:∀(n:Nat) (d:List UInt8),d.length=2*n→(∀c∈d,dG c=true)→(pairs d).flatMap jW=d
 |0,d,hl,_=>by rw[List.length_eq_zero_iff.1 (by omega:d.length=0)];rfl
 |n+1,[],hl,_=>by simp at hl
 |n+1,[_],hl,_=>by simp at hl;omega
 |n+1,h::k::d,hl,ha=>by
  rw[pairs,List.flatMap_cons,Gv (ha h (by simp)) (ha k (by simp)),vT n d (by simp at hl;omega) (fun c hc=>ha c (by simp[hc]))]
  rfl
theorem J7(l:List UInt8):∀c∈l.flatMap jW,dG c=true:=by
 intro c hc
 rw[List.mem_flatMap]at hc
 obtain⟨x, -,hx⟩:=hc
 have:=x.toNat_lt
 unfold jW at hx
 rcases List.mem_cons.1 hx with rfl|hx
 ·exact(nI _ (by omega)).1
 ·rw[List.mem_singleton]at hx
  subst hx
  exact(nI _ (by omega)).1
theorem J8(l:List UInt8):(l.flatMap jW).length=2*l.length:=by
 induction l with
 |nil=>rfl
 |cons c l ih=>rw[List.flatMap_cons,List.length_append,ih,List.length_cons];show 2+_=_;omega
theorem Io(d r:List UInt8)(hr:Stops dG r):nG (d.flatMap jW++r)= .ok (d,r):=by
 unfold nG
 rw[kV _ _ (J7 d) hr]
 dsimp only
 rw[if_neg (by rw[J8];omega),vS,List.drop_left]
theorem J9{d l r:List UInt8}(h:nG l= .ok (d,r)):l=d.flatMap jW++r:=by
 unfold nG at h
 dsimp only at h
 split at h
 ·cases h
 ·injection h with h
  injection h with h1 h2
  obtain⟨p1,p2, -⟩:=lI (p:=dG) l
  subst h1;subst h2
  rw[vT ((l.takeWhile dG).length/2) _ (by omega) p2]
  exact p1
theorem Gw:∀(t r:List UInt8),unq (t.flatMap dw++34::r)=some (t,r)
 | [],r=>by
  rw[List.flatMap_nil,List.nil_append,unq.eq_def]
  rfl
 |c::t,r=>by
  rw[List.flatMap_cons,List.append_assoc]
  have ih:=Gw t r
  unfold dw
  cases he:esc c with
  |true=>
   rw[if_pos rfl]
   show unq (92::c::(t.flatMap dw++34::r))=_
   rw[unq.eq_def]
   dsimp only
   rw[if_neg (by decide),if_neg (by decide),if_neg (by decide),if_pos he,ih]
   rfl
  |false=>
   rw[if_neg (by decide)]
   have he':¬c.toNat=34∧¬c.toNat=92:=by
    unfold esc at he
    simpa using he
   cases hc:ctl c with
   |true=>
    rw[if_pos rfl]
    show unq (92::120::hexD (c.toNat/16)::hexD (c.toNat%16)::(t.flatMap dw++34::r))=_
    have hl:=c.toNat_lt
    rw[unq.eq_def]
    dsimp only
    rw[if_neg (by decide),if_neg (by decide),if_neg (by decide),if_neg (by decide),if_neg (by decide),y9,(nI _ (by omega)).1,(nI _ (by omega)).1,hc]
    simp only[Bool.and_self,if_true]
    rw[ih]
    rfl
   |false=>
    rw[if_neg (by decide)]
    show unq (c::(t.flatMap dw++34::r))=_
    rw[unq.eq_def]
    dsimp only
    rw[if_neg he'.1,if_neg (by rw[hc];decide),if_pos he'.2,ih]
    rfl
theorem oW:∀(n:Nat) (l t r:List UInt8),l.length≤n→unq l=some (t,r)→l=t.flatMap dw++34::r
 |n,[],t,r,_,h=>by rw[unq.eq_def]at h;cases h
 |0,c::l,t,r,hl,_=>by simp at hl
 |n+1,c::l,t,r,hl,h=>by
  have hcc:UInt8.ofNat c.toNat=c:=UInt8.ofNat_toNat
  rw[List.length_cons]at hl
  rw[unq.eq_def]at h
  dsimp only at h
  split at h
  ·rename_i h34
   injection h with h
   injection h with h1 h2
   subst h1;subst h2
   rw[←hcc,h34]
   rfl
  rename_i h34
  split at h
  ·cases h
  rename_i hc
  split at h
  ·rename_i h92
   obtain⟨⟨t',r'⟩,hu,he⟩:=Option.map_eq_some_iff.1 h
   injection he with e1 e2
   dsimp only at e1 e2
   subst e1;subst e2
   rw[List.flatMap_cons]
   have:dw c=[c]:=by
    unfold dw
    rw[if_neg (by unfold esc;simp[h34,h92]),if_neg hc]
   rw[this,oW n l t' r' (by omega) hu]
   rfl
  rename_i h92
  have RX:c=92:=by rw[←hcc,Decidable.not_not.1 h92];rfl
  split at h
  ·cases h
  rename_i d r1
  rw[List.length_cons]at hl
  have hdd:UInt8.ofNat d.toNat=d:=UInt8.ofNat_toNat
  split at h
  ·rename_i hd
   obtain⟨⟨t',r'⟩,hu,he⟩:=Option.map_eq_some_iff.1 h
   injection he with e1 e2
   dsimp only at e1 e2
   subst e1;subst e2
   rw[List.flatMap_cons]
   have:dw d=[92,d]:=by
    unfold dw
    rw[if_pos hd]
   rw[this,oW n r1 t' r' (by omega) hu,RX]
   rfl
  rename_i hd
  split at h
  ·cases h
  rename_i PN
  have RY:d=120:=by rw[←hdd,Decidable.not_not.1 PN];rfl
  split at h
  ·rename_i x k r2
   simp only[List.length_cons]at hl
   split at h
   ·rename_i hh
    simp only[Bool.and_eq_true]at hh
    obtain⟨⟨h1,h2⟩,h3⟩:=hh
    obtain⟨⟨t',r'⟩,hu,he⟩:=Option.map_eq_some_iff.1 h
    injection he with e1 e2
    dsimp only at e1 e2
    subst e1;subst e2
    rw[List.flatMap_cons]
    have:dw (UInt8.ofNat (hexV x*16+hexV k))=[92,120,x,k]:=by
     unfold dw
     have hx:=rH h1
     have hk:=rH h2
     rw[if_neg (by
      unfold ctl at h3
      unfold esc
      rw[iK _ (by omega)]at h3⊢
      simp only[Bool.or_eq_true,decide_eq_true_iff]at h3⊢
      omega),if_pos h3,Gv h1 h2]
    rw[this,oW n r2 t' r' (by omega) hu,RX,RY]
    rfl
   ·cases h
  ·cases h
theorem jo(s:ByteArray)(r:List UInt8)(hg:good s=true):dJ (bD s++r)= .ok (s,r):=by
 unfold bD Ah dJ
 rw[List.cons_append,List.append_assoc]
 dsimp only
 rw[if_neg (by decide)]
 show(match unq (s.data.toList.flatMap dw++34::r)with
  |none=>_
  |some (t,r)=>_)=_
 rw[Gw]
 dsimp only
 rw[vk,if_pos hg]
theorem jI{s:ByteArray}{l r:List UInt8}(h:dJ l= .ok (s,r)):l=bD s++r∧good s=true:=by
 unfold dJ at h
 split at h
 ·cases h
 rename_i c r0
 split at h
 ·cases h
 rename_i hc
 split at h
 ·cases h
 rename_i t r1 hu
 split at h
 ·rename_i hg
  injection h with h
  injection h with h1 h2
  subst h1;subst h2
  have hcc:UInt8.ofNat c.toNat=c:=UInt8.ofNat_toNat
  have:c=34:=by rw[←hcc,Decidable.not_not.1 hc];rfl
  refine⟨?_,hg⟩
  rw[this,oW _ r0 t r1 (Nat.le_refl _) hu]
  unfold bD Ah ofL
  rw[List.cons_append,List.append_assoc]
  rfl
 ·cases h
theorem bind_ok{ε α β:Type}{x:Except ε α}{f:α→Except ε β}{b:β}(h:(x >>= f)= .ok b):∃a,x= .ok a∧f a= .ok b:=by
 cases x with
 |error e=>cases h
 |ok a=>exact⟨a,rfl,h⟩
theorem bC{ε α β:Type}(a:α)(f:α→Except ε β):((.ok a:Except ε α) >>= f)=f a:=rfl
theorem zh(r:List UInt8):Stops iT (46::r):=fun c h=>by simp at h;subst h;rfl
theorem vU(r:List UInt8):Stops dG (32::r):=fun c h=>by simp at h;subst h;rfl
theorem lW(w r:List UInt8):Stops dG ((32::w)++r):=vU _
theorem J_(r:List UInt8):Stops dG (93::r):=fun c h=>by simp at h;subst h;rfl
theorem stops_nil(p:UInt8→Bool):Stops p []:=fun c h=>by simp at h
theorem Stops.dig{r:List UInt8}(h:Stops dG r):Stops iT r:=fun c hc=>by
 have:=h c hc
 unfold dG at this
 rw[Bool.or_eq_false_iff]at this
 exact this.1
theorem vV(q:Qd)(r:List UInt8)(hq:q.ok)(hr:Stops dG r):gW (iG q++r)= .ok (q,r):=by
 obtain⟨h1,h2,h3⟩:=hq
 unfold gW iG
 rw[List.append_assoc,List.cons_append,List.append_assoc,List.cons_append,eX 255 _ _ (by omega) (zh _),bC]
 dsimp only
 rw[lV,bC,eX 4294967295 _ _ (by omega) (zh _),bC]
 dsimp only
 rw[lV,bC,eX 18446744073709551615 _ _ (by omega) hr.dig,bC]
 rfl
theorem Aw{q:Qd}{l r:List UInt8}(h:gW l= .ok (q,r)):l=iG q++r∧q.ok:=by
 unfold gW at h
 obtain⟨⟨k,l1⟩,e1,h⟩:=bind_ok h
 obtain⟨l2,e2,h⟩:=bind_ok h
 obtain⟨⟨v,l3⟩,e3,h⟩:=bind_ok h
 obtain⟨l4,e4,h⟩:=bind_ok h
 obtain⟨⟨p,l5⟩,e5,h⟩:=bind_ok h
 dsimp only at e2 e4 h
 injection h with h
 injection h with h1 h2
 subst h1;subst h2
 obtain⟨rfl,b1, -⟩:=gB e1
 obtain rfl:=fQ e2
 obtain⟨rfl,b2, -⟩:=gB e3
 obtain rfl:=fQ e4
 obtain⟨rfl,b3, -⟩:=gB e5
 refine⟨?_, ?_, ?_, ?_⟩
 ·simp only[iG,List.append_assoc,List.cons_append,List.nil_append]
 ·dsimp only;omega
 ·dsimp only;omega
 ·dsimp only;omega
def more(first:Bool)(l:List (List UInt8)):List UInt8:=if first then iJ l else l.flatMap fun y=>32::y
section
variable {α:Type} {one:List UInt8→Except Nat (α×List UInt8)} {put:α→List UInt8} {ok:α→Prop}
theorem zi(h93:∀x r,(put x++r).head?≠some 93):∀(n:Nat) (xs:List α) (first:Bool) (r:List UInt8),xs.length≤n→(∀x∈xs,∀r,Stops dG r→one (put x++r)= .ok (x,r))→eP one n first (more first (xs.map put)++93::r)= .ok (xs,r)
 |n,[],first,r,_,_=>by
  have:more first (([]:List α).map put)=[]:=by cases first<;>rfl
  rw[this,List.nil_append]
  cases n<;>(rw[eP.eq_def];rfl)
 |0,x::xs,first,r,hl,_=>by simp at hl
 |n+1,x::xs,first,r,hl,h=>by
  have hs:∀ys:List α,Stops dG (more false (ys.map put)++93::r):=by
   intro ys
   cases ys with
   |nil=>exact J_ r
   |cons y ys=>exact vU _
  have ih:=zi h93 n xs false r (by simp at hl;omega) (fun y hy=>h y (List.mem_cons_of_mem _ hy))
  have hx:=h x List.mem_cons_self _ (hs xs)
  have RZ:=h93 x (more false (xs.map put)++93::r)
  have hp:∀f:Bool,more f ((x::xs).map put)++93::r=(if f then []else [32])++(put x++(more false (xs.map put)++93::r)):=by
   intro f
   cases f with
   |false=>
    show(32::put x++more false (xs.map put))++_=_
    rw[List.append_assoc]
    rfl
   |true=>
    show(put x++more false (xs.map put))++_=_
    rw[List.append_assoc]
    rfl
  rw[hp first]
  generalize put x++(more false (xs.map put)++93::r)=Z at hx RZ
  cases first with
  |true=>
   show eP one (n+1) true Z=_
   rw[eP.eq_def]
   dsimp only
   rw[if_neg RZ]
   show(one Z >>= _)=_
   rw[hx,bC]
   dsimp only
   rw[ih]
   rfl
  |false=>
   show eP one (n+1) false (32::Z)=_
   rw[eP.eq_def]
   dsimp only
   rw[if_neg (by simp)]
   show(dQ [32] (32::Z) >>= _)=_
   rw[lV,bC,hx,bC]
   dsimp only
   rw[ih]
   rfl
theorem Ko(hone:∀ {l r x},one l= .ok (x,r)→l=put x++r∧ok x):∀(n:Nat) (first:Bool) (l r:List UInt8) (xs:List α),eP one n first l= .ok (xs,r)→l=more first (xs.map put)++93::r∧xs.length≤n∧∀x∈xs,ok x:=by
 intro n
 induction n with
 |zero=>
  intro first l r xs h
  rw[eP.eq_def]at h
  dsimp only at h
  split at h
  ·rename_i hh
   injection h with h
   injection h with h1 h2
   subst h1;subst h2
   refine⟨?_,Nat.le_refl _,by simp⟩
   have:more first (([]:List α).map put)=[]:=by cases first<;>rfl
   rw[this,List.nil_append]
   cases l with
   |nil=>simp at hh
   |cons c l=>simp at hh;subst hh;rfl
  ·cases h
 |succ n ih=>
  intro first l r xs h
  rw[eP.eq_def]at h
  dsimp only at h
  split at h
  ·rename_i hh
   injection h with h
   injection h with h1 h2
   subst h1;subst h2
   refine⟨?_,by simp,by simp⟩
   have:more first (([]:List α).map put)=[]:=by cases first<;>rfl
   rw[this,List.nil_append]
   cases l with
   |nil=>simp at hh
   |cons c l=>simp at hh;subst hh;rfl
  ·obtain⟨l1,e1,h⟩:∃l1,(if first then(.ok l:Except Nat (List UInt8))else dQ [32] l)= .ok l1∧(one l1 >>= fun x=>eP one n false x.2 >>= fun y=>pure (x.1::y.1,y.2))= .ok (xs,r):=by
    cases first with
    |true=>exact⟨l,rfl,h⟩
    |false=>exact bind_ok h
   obtain⟨⟨x,l2⟩,e2,h⟩:=bind_ok h
   dsimp only at h
   obtain⟨⟨ys,l3⟩,e3,h⟩:=bind_ok h
   injection h with h
   injection h with h1 h2
   subst h1;subst h2
   obtain⟨rfl,ox⟩:=hone e2
   obtain⟨rfl,hl,oys⟩:=ih false l2 l3 ys e3
   refine⟨?_,show ys.length+1≤n+1 by omega, ?_⟩
   ·cases first with
    |true=>
     injection e1 with e1
     rw[e1,List.map_cons]
     show _=(put x++more false (ys.map put))++93::l3
     rw[List.append_assoc]
    |false=>
     rw[fQ e1,List.map_cons]
     show _=(32::put x++more false (ys.map put))++93::l3
     rw[List.append_assoc]
     rfl
   ·intro y hy
    rcases List.mem_cons.1 hy with rfl|hy
    ·exact ox
    ·exact oys y hy
theorem zk(h93:∀x r,(put x++r).head?≠some 93)(xs:List α)(r:List UInt8)(hl:xs.length≤16)(h:∀x∈xs,∀r,Stops dG r→one (put x++r)= .ok (x,r)):eU one (91::(iJ (xs.map put)++[93])++r)= .ok (xs,r):=by
 unfold eU
 rw[List.cons_append,lV,bC,List.append_assoc]
 exact zi h93 16 xs true r hl h
theorem Ci(hone:∀ {l r x},one l= .ok (x,r)→l=put x++r∧ok x){l r:List UInt8}{xs:List α}(h:eU one l= .ok (xs,r)):l=91::(iJ (xs.map put)++[93])++r∧xs.length≤16∧∀x∈xs,ok x:=by
 unfold eU at h
 obtain⟨l1,e1,h⟩:=bind_ok h
 obtain⟨rfl,hl,ha⟩:=Ko hone 16 true l1 r xs h
 refine⟨?_,hl,ha⟩
 rw[fQ e1]
 show 91::(iJ (xs.map put)++93::r)=91::((iJ (xs.map put)++[93])++r)
 rw[List.append_assoc]
 rfl
end
theorem Cj(s:ByteArray)(r:List UInt8):(bD s++r).head?≠some 93:=by
 unfold bD Ah
 simp
theorem Ip(q:Qd)(r:List UInt8):(iG q++r).head?≠some 93:=by
 unfold iG
 rw[List.append_assoc]
 cases hd:decDigits q.kind with
 |nil=>exact absurd hd (n_ _)
 |cons c d=>
  have:=qB q.kind c (by rw[hd];exact List.mem_cons_self)
  rintro h
  simp at h
  subst h
  exact absurd this (by decide)
theorem Kq(s:Sta)(r:List UInt8)(hs:s.ok)(hg:s.good=true):g_ (rD s++r)= .ok (s,r):=by
 obtain⟨n1,n2,hq,n4,n5,n6,n7⟩:=hs
 simp only[Sta.good,Bool.and_eq_true]at hg
 obtain⟨⟨⟨g1,g2⟩,g3⟩,g4⟩:=hg
 unfold g_ rD
 simp only[List.append_assoc]
 rw[gG,bC,eX 65535 _ _ (by omega) (lW _ _).dig,bC]
 dsimp only
 rw[gG,bC,eX 4294967295 _ _ (by omega) (lW _ _).dig,bC]
 dsimp only
 rw[gG,bC,vV _ _ hq (lW _ _),bC]
 dsimp only
 rw[gG,bC,eX 4294967295 _ _ (by omega) (lW _ _).dig,bC]
 dsimp only
 rw[gG,bC,eX 4294967295 _ _ (by omega) (lW _ _).dig,bC]
 dsimp only
 rw[gG,bC,eX 4294967295 _ _ (by omega) (lW _ _).dig,bC]
 dsimp only
 rw[gG,bC,eX 18446744073709551615 _ _ (by omega) (lW _ _).dig,bC]
 dsimp only
 rw[gG,bC,jo _ _ g1,bC]
 dsimp only
 rw[gG,bC,jo _ _ g2,bC]
 dsimp only
 rw[gG,bC,jo _ _ g3,bC]
 dsimp only
 rw[gG,bC,jo _ _ g4,bC]
 dsimp only
 rw[gG,bC]
 rfl
theorem NT{s:Sta}{l r:List UInt8}(h:g_ l= .ok (s,r)):l=rD s++r∧s.good=true∧s.ok:=by
 unfold g_ at h
 obtain⟨l1,e1,h⟩:=bind_ok h
 obtain⟨⟨Pj,l2⟩,e2,h⟩:=bind_ok h
 obtain⟨l3,e3,h⟩:=bind_ok h
 obtain⟨⟨RI,l4⟩,e4,h⟩:=bind_ok h
 obtain⟨l5,e5,h⟩:=bind_ok h
 obtain⟨⟨RJ,l6⟩,e6,h⟩:=bind_ok h
 obtain⟨l7,e7,h⟩:=bind_ok h
 obtain⟨⟨Pm,l8⟩,e8,h⟩:=bind_ok h
 obtain⟨l9,e9,h⟩:=bind_ok h
 obtain⟨⟨JV,l10⟩,e10,h⟩:=bind_ok h
 obtain⟨l11,e11,h⟩:=bind_ok h
 obtain⟨⟨JW,l12⟩,e12,h⟩:=bind_ok h
 obtain⟨l13,e13,h⟩:=bind_ok h
 obtain⟨⟨Gp,l14⟩,e14,h⟩:=bind_ok h
 obtain⟨l15,e15,h⟩:=bind_ok h
 obtain⟨⟨Pn,l16⟩,e16,h⟩:=bind_ok h
 obtain⟨l17,e17,h⟩:=bind_ok h
 obtain⟨⟨RN,l18⟩,e18,h⟩:=bind_ok h
 obtain⟨l19,e19,h⟩:=bind_ok h
 obtain⟨⟨RP,l20⟩,e20,h⟩:=bind_ok h
 obtain⟨l21,e21,h⟩:=bind_ok h
 obtain⟨⟨Po,l22⟩,e22,h⟩:=bind_ok h
 obtain⟨l23,e23,h⟩:=bind_ok h
 injection h with h
 injection h with h1 h2
 subst h1;subst h2
 obtain rfl:=fQ e1
 obtain⟨rfl,WS, -⟩:=gB e2
 obtain rfl:=fQ e3
 obtain⟨rfl,WW, -⟩:=gB e4
 obtain rfl:=fQ e5
 obtain⟨rfl,UM⟩:=Aw e6
 obtain rfl:=fQ e7
 obtain⟨rfl,WT, -⟩:=gB e8
 obtain rfl:=fQ e9
 obtain⟨rfl,UN, -⟩:=gB e10
 obtain rfl:=fQ e11
 obtain⟨rfl,UO, -⟩:=gB e12
 obtain rfl:=fQ e13
 obtain⟨rfl,UG, -⟩:=gB e14
 obtain rfl:=fQ e15
 obtain⟨rfl,R_⟩:=jI e16
 obtain rfl:=fQ e17
 obtain⟨rfl,UQ⟩:=jI e18
 obtain rfl:=fQ e19
 obtain⟨rfl,UR⟩:=jI e20
 obtain rfl:=fQ e21
 obtain⟨rfl,Si⟩:=jI e22
 obtain rfl:=fQ e23
 refine⟨?_,by simp[Sta.good,R_,UQ,UR,Si],⟨by dsimp only;omega,by dsimp only;omega,UM,by dsimp only;omega,by dsimp only;omega,by dsimp only;omega,by dsimp only;omega⟩⟩
 unfold rD
 simp only[List.append_assoc]
theorem Gx(c:Mg)(l:List UInt8):pF c l .stat=(g_ l).map fun p=>({c with stat:=p.1},p.2):=rfl
theorem PO(c m:Mg)(f:Fld)(r:List UInt8)(ho:m.ok)(hg:m.good f=true)(hr:Stops dG r):pF c (m.val f++r) f= .ok (c.move m f,r):=by
 cases f
 case bI=>
  have hb:m.bI≤4294967295:=by have:=ho.bI;omega
  show(fZ 4294967295 (decDigits m.bI++r)).map (fun p:Nat×List UInt8=>(c.aG p.1 .bI,p.2))=_
  rw[eX _ _ _ hb hr.dig]
  rfl
 case version=>
  show(dJ (bD m.version++r)).map (fun p:ByteArray×List UInt8=>(c.bV p.1 .version,p.2))=_
  rw[jo m.version _ hg]
  rfl
 case dB=>
  have hb:m.dB≤4294967295:=by have:=ho.dB;omega
  show(fZ 4294967295 (decDigits m.dB++r)).map (fun p:Nat×List UInt8=>(c.aG p.1 .dB,p.2))=_
  rw[eX _ _ _ hb hr.dig]
  rfl
 case uname=>
  show(dJ (bD m.uname++r)).map (fun p:ByteArray×List UInt8=>(c.bV p.1 .uname,p.2))=_
  rw[jo m.uname _ hg]
  rfl
 case bF=>
  show(dJ (bD m.bF++r)).map (fun p:ByteArray×List UInt8=>(c.bV p.1 .bF,p.2))=_
  rw[jo m.bF _ hg]
  rfl
 case bH=>
  show(dJ (bD m.bH++r)).map (fun p:ByteArray×List UInt8=>(c.bV p.1 .bH,p.2))=_
  rw[jo m.bH _ hg]
  rfl
 case aT=>
  have hb:m.aT≤65535:=by have:=ho.aT;omega
  show(fZ 65535 (decDigits m.aT++r)).map (fun p:Nat×List UInt8=>(c.aG p.1 .aT,p.2))=_
  rw[eX _ _ _ hb hr.dig]
  rfl
 case fid=>
  have hb:m.fid≤4294967295:=by have:=ho.fid;omega
  show(fZ 4294967295 (decDigits m.fid++r)).map (fun p:Nat×List UInt8=>(c.aG p.1 .fid,p.2))=_
  rw[eX _ _ _ hb hr.dig]
  rfl
 case aU=>
  have hb:m.aU≤4294967295:=by have:=ho.aU;omega
  show(fZ 4294967295 (decDigits m.aU++r)).map (fun p:Nat×List UInt8=>(c.aG p.1 .aU,p.2))=_
  rw[eX _ _ _ hb hr.dig]
  rfl
 case names=>
  have hg':(decide (m.names.length≤16)&&m.names.all good)=true:=hg
  rw[Bool.and_eq_true,decide_eq_true_iff,List.all_eq_true]at hg'
  show(eU dJ (91::(iJ (m.names.map bD)++[93])++r)).map (fun p=>({c with names:=p.1},p.2))=_
  rw[zk Cj m.names r hg'.1 (fun x hx r _=>jo x r (hg'.2 x hx))]
  rfl
 case aV=>
  have hg':decide (m.aV.length≤16)=true:=hg
  rw[decide_eq_true_iff]at hg'
  show(eU gW (91::(iJ (m.aV.map iG)++[93])++r)).map (fun p=>({c with aV:=p.1},p.2))=_
  rw[zk Ip m.aV r hg' (fun x hx r hr=>vV x r (ho.aV x hx) hr)]
  rfl
 case qid=>
  show(gW (iG m.qid++r)).map (fun p=>({c with qid:=p.1},p.2))=_
  rw[vV _ _ ho.qid hr]
  rfl
 case mode=>
  have hb:m.mode≤255:=by have:=ho.mode;omega
  show(fZ 255 (decDigits m.mode++r)).map (fun p:Nat×List UInt8=>(c.aG p.1 .mode,p.2))=_
  rw[eX _ _ _ hb hr.dig]
  rfl
 case aQ=>
  have hb:m.aQ≤4294967295:=by have:=ho.aQ;omega
  show(fZ 4294967295 (decDigits m.aQ++r)).map (fun p:Nat×List UInt8=>(c.aG p.1 .aQ,p.2))=_
  rw[eX _ _ _ hb hr.dig]
  rfl
 case name=>
  show(dJ (bD m.name++r)).map (fun p:ByteArray×List UInt8=>(c.bV p.1 .name,p.2))=_
  rw[jo m.name _ hg]
  rfl
 case perm=>
  have hb:m.perm≤4294967295:=by have:=ho.perm;omega
  show(fZ 4294967295 (decDigits m.perm++r)).map (fun p:Nat×List UInt8=>(c.aG p.1 .perm,p.2))=_
  rw[eX _ _ _ hb hr.dig]
  rfl
 case offset=>
  have hb:m.offset≤18446744073709551615:=by have:=ho.offset;omega
  show(fZ 18446744073709551615 (decDigits m.offset++r)).map (fun p:Nat×List UInt8=>(c.aG p.1 .offset,p.2))=_
  rw[eX _ _ _ hb hr.dig]
  rfl
 case count=>
  have hb:m.count≤4294967295:=by have:=ho.count;omega
  show(fZ 4294967295 (decDigits m.count++r)).map (fun p:Nat×List UInt8=>(c.aG p.1 .count,p.2))=_
  rw[eX _ _ _ hb hr.dig]
  rfl
 case data=>
  show(nG (m.data.flatMap jW++r)).map (fun p=>({c with data:=p.1},p.2))=_
  rw[Io _ _ hr]
  rfl
 case stat=>
  rw[show m.val .stat=rD m.stat from rfl,Gx,Kq _ _ ho.stat hg]
  rfl
theorem map_ok{ε α β:Type}{x:Except ε α}{f:α→β}{b:β}(h:x.map f= .ok b):∃a,x= .ok a∧f a=b:=by
 cases x with
 |error e=>cases h
 |ok a=>injection h with h;exact⟨a,rfl,h⟩
theorem Sj{c c':Mg}{f:Fld}{l r:List UInt8}(h:pF c l f= .ok (c',r)):l=c'.val f++r∧c'.good f=true∧c'=c.move c' f∧(c.ok→c'.ok):=by
 cases f
 case bI=>
  have h':(fZ 4294967295 l).map (fun p:Nat×List UInt8=>(c.aG p.1 .bI,p.2))= .ok (c',r):=h
  obtain⟨⟨n,r'⟩,hn,he⟩:=map_ok h'
  injection he with h1 h2
  dsimp only at h1 h2
  subst h1;subst h2
  obtain⟨rfl,hlt, -⟩:=gB hn
  have hb:n<4294967296:=by omega
  exact⟨rfl,rfl,rfl,fun ho=> {ho with bI:=hb}⟩
 case version=>
  have h':(dJ l).map (fun p:ByteArray×List UInt8=>(c.bV p.1 .version,p.2))= .ok (c',r):=h
  obtain⟨⟨s,r'⟩,hn,he⟩:=map_ok h'
  injection he with h1 h2
  dsimp only at h1 h2
  subst h1;subst h2
  obtain⟨rfl,hg⟩:=jI hn
  exact⟨rfl,hg,rfl,fun ho=> {ho with}⟩
 case dB=>
  have h':(fZ 4294967295 l).map (fun p:Nat×List UInt8=>(c.aG p.1 .dB,p.2))= .ok (c',r):=h
  obtain⟨⟨n,r'⟩,hn,he⟩:=map_ok h'
  injection he with h1 h2
  dsimp only at h1 h2
  subst h1;subst h2
  obtain⟨rfl,hlt, -⟩:=gB hn
  have hb:n<4294967296:=by omega
  exact⟨rfl,rfl,rfl,fun ho=> {ho with dB:=hb}⟩
 case uname=>
  have h':(dJ l).map (fun p:ByteArray×List UInt8=>(c.bV p.1 .uname,p.2))= .ok (c',r):=h
  obtain⟨⟨s,r'⟩,hn,he⟩:=map_ok h'
  injection he with h1 h2
  dsimp only at h1 h2
  subst h1;subst h2
  obtain⟨rfl,hg⟩:=jI hn
  exact⟨rfl,hg,rfl,fun ho=> {ho with}⟩
 case bF=>
  have h':(dJ l).map (fun p:ByteArray×List UInt8=>(c.bV p.1 .bF,p.2))= .ok (c',r):=h
  obtain⟨⟨s,r'⟩,hn,he⟩:=map_ok h'
  injection he with h1 h2
  dsimp only at h1 h2
  subst h1;subst h2
  obtain⟨rfl,hg⟩:=jI hn
  exact⟨rfl,hg,rfl,fun ho=> {ho with}⟩
 case bH=>
  have h':(dJ l).map (fun p:ByteArray×List UInt8=>(c.bV p.1 .bH,p.2))= .ok (c',r):=h
  obtain⟨⟨s,r'⟩,hn,he⟩:=map_ok h'
  injection he with h1 h2
  dsimp only at h1 h2
  subst h1;subst h2
  obtain⟨rfl,hg⟩:=jI hn
  exact⟨rfl,hg,rfl,fun ho=> {ho with}⟩
 case aT=>
  have h':(fZ 65535 l).map (fun p:Nat×List UInt8=>(c.aG p.1 .aT,p.2))= .ok (c',r):=h
  obtain⟨⟨n,r'⟩,hn,he⟩:=map_ok h'
  injection he with h1 h2
  dsimp only at h1 h2
  subst h1;subst h2
  obtain⟨rfl,hlt, -⟩:=gB hn
  have hb:n<65536:=by omega
  exact⟨rfl,rfl,rfl,fun ho=> {ho with aT:=hb}⟩
 case fid=>
  have h':(fZ 4294967295 l).map (fun p:Nat×List UInt8=>(c.aG p.1 .fid,p.2))= .ok (c',r):=h
  obtain⟨⟨n,r'⟩,hn,he⟩:=map_ok h'
  injection he with h1 h2
  dsimp only at h1 h2
  subst h1;subst h2
  obtain⟨rfl,hlt, -⟩:=gB hn
  have hb:n<4294967296:=by omega
  exact⟨rfl,rfl,rfl,fun ho=> {ho with fid:=hb}⟩
 case aU=>
  have h':(fZ 4294967295 l).map (fun p:Nat×List UInt8=>(c.aG p.1 .aU,p.2))= .ok (c',r):=h
  obtain⟨⟨n,r'⟩,hn,he⟩:=map_ok h'
  injection he with h1 h2
  dsimp only at h1 h2
  subst h1;subst h2
  obtain⟨rfl,hlt, -⟩:=gB hn
  have hb:n<4294967296:=by omega
  exact⟨rfl,rfl,rfl,fun ho=> {ho with aU:=hb}⟩
 case names=>
  have h':(eU dJ l).map (fun p:List ByteArray×List UInt8=>({c with names:=p.1},p.2))= .ok (c',r):=h
  obtain⟨⟨s,r'⟩,hn,he⟩:=map_ok h'
  injection he with h1 h2
  dsimp only at h1 h2
  subst h1;subst h2
  obtain⟨rfl,h16,hg⟩:=Ci (put:=bD) (ok:=fun s=>good s=true) jI hn
  refine⟨rfl, ?_,rfl,fun ho=> {ho with}⟩
  show(decide (s.length≤16)&&s.all good)=true
  rw[Bool.and_eq_true,decide_eq_true_iff,List.all_eq_true]
  exact⟨h16,hg⟩
 case aV=>
  have h':(eU gW l).map (fun p:List Qd×List UInt8=>({c with aV:=p.1},p.2))= .ok (c',r):=h
  obtain⟨⟨s,r'⟩,hn,he⟩:=map_ok h'
  injection he with h1 h2
  dsimp only at h1 h2
  subst h1;subst h2
  obtain⟨rfl,h16,hg⟩:=Ci (put:=iG) (ok:=Qd.ok) Aw hn
  exact⟨rfl,decide_eq_true h16,rfl,fun ho=> {ho with aV:=hg}⟩
 case qid=>
  have h':(gW l).map (fun p:Qd×List UInt8=>({c with qid:=p.1},p.2))= .ok (c',r):=h
  obtain⟨⟨s,r'⟩,hn,he⟩:=map_ok h'
  injection he with h1 h2
  dsimp only at h1 h2
  subst h1;subst h2
  obtain⟨rfl,hg⟩:=Aw hn
  exact⟨rfl,rfl,rfl,fun ho=> {ho with qid:=hg}⟩
 case mode=>
  have h':(fZ 255 l).map (fun p:Nat×List UInt8=>(c.aG p.1 .mode,p.2))= .ok (c',r):=h
  obtain⟨⟨n,r'⟩,hn,he⟩:=map_ok h'
  injection he with h1 h2
  dsimp only at h1 h2
  subst h1;subst h2
  obtain⟨rfl,hlt, -⟩:=gB hn
  have hb:n<256:=by omega
  exact⟨rfl,rfl,rfl,fun ho=> {ho with mode:=hb}⟩
 case aQ=>
  have h':(fZ 4294967295 l).map (fun p:Nat×List UInt8=>(c.aG p.1 .aQ,p.2))= .ok (c',r):=h
  obtain⟨⟨n,r'⟩,hn,he⟩:=map_ok h'
  injection he with h1 h2
  dsimp only at h1 h2
  subst h1;subst h2
  obtain⟨rfl,hlt, -⟩:=gB hn
  have hb:n<4294967296:=by omega
  exact⟨rfl,rfl,rfl,fun ho=> {ho with aQ:=hb}⟩
 case name=>
  have h':(dJ l).map (fun p:ByteArray×List UInt8=>(c.bV p.1 .name,p.2))= .ok (c',r):=h
  obtain⟨⟨s,r'⟩,hn,he⟩:=map_ok h'
  injection he with h1 h2
  dsimp only at h1 h2
  subst h1;subst h2
  obtain⟨rfl,hg⟩:=jI hn
  exact⟨rfl,hg,rfl,fun ho=> {ho with}⟩
 case perm=>
  have h':(fZ 4294967295 l).map (fun p:Nat×List UInt8=>(c.aG p.1 .perm,p.2))= .ok (c',r):=h
  obtain⟨⟨n,r'⟩,hn,he⟩:=map_ok h'
  injection he with h1 h2
  dsimp only at h1 h2
  subst h1;subst h2
  obtain⟨rfl,hlt, -⟩:=gB hn
  have hb:n<4294967296:=by omega
  exact⟨rfl,rfl,rfl,fun ho=> {ho with perm:=hb}⟩
 case offset=>
  have h':(fZ 18446744073709551615 l).map (fun p:Nat×List UInt8=>(c.aG p.1 .offset,p.2))= .ok (c',r):=h
  obtain⟨⟨n,r'⟩,hn,he⟩:=map_ok h'
  injection he with h1 h2
  dsimp only at h1 h2
  subst h1;subst h2
  obtain⟨rfl,hlt, -⟩:=gB hn
  have hb:n<18446744073709551616:=by omega
  exact⟨rfl,rfl,rfl,fun ho=> {ho with offset:=hb}⟩
 case count=>
  have h':(fZ 4294967295 l).map (fun p:Nat×List UInt8=>(c.aG p.1 .count,p.2))= .ok (c',r):=h
  obtain⟨⟨n,r'⟩,hn,he⟩:=map_ok h'
  injection he with h1 h2
  dsimp only at h1 h2
  subst h1;subst h2
  obtain⟨rfl,hlt, -⟩:=gB hn
  have hb:n<4294967296:=by omega
  exact⟨rfl,rfl,rfl,fun ho=> {ho with count:=hb}⟩
 case data=>
  have h':(nG l).map (fun p:List UInt8×List UInt8=>({c with data:=p.1},p.2))= .ok (c',r):=h
  obtain⟨⟨s,r'⟩,hn,he⟩:=map_ok h'
  injection he with h1 h2
  dsimp only at h1 h2
  subst h1;subst h2
  obtain rfl:=J9 hn
  exact⟨rfl,rfl,rfl,fun ho=> {ho with}⟩
 case stat=>
  rw[Gx]at h
  obtain⟨⟨s,r'⟩,hn,he⟩:=map_ok h
  injection he with h1 h2
  dsimp only at h1 h2
  subst h1;subst h2
  obtain⟨hl,hg,hok⟩:=NT hn
  refine⟨?_,hg,rfl,fun ho=> {ho with stat:=hok}⟩
  rw[hl,show({c with stat:=s}:Mg).val .stat=rD s from rfl]
theorem Cm(c m:Mg)(f:Fld):(c.move m f).val f=m.val f:=by
 cases f<;>rfl
theorem Alike.val{a b:Mg}{f:Fld}(h:Alike a b f):a.val f=b.val f:=by rw[←Cm a a f,←Cm a b f,h]
theorem Alike.part{a b:Mg}{f:Fld}(h:Alike a b f):a.part f=b.part f:=by unfold Mg.part;rw[h.val]
theorem vW(m:Mg)(fs:List Fld):Stops dG (fs.flatMap m.part):=by
 cases fs with
 |nil=>exact stops_nil _
 |cons f fs=>exact vU _
theorem Gy(m:Mg)(f:Fld)(r:List UInt8):m.part f++r=(32::(f.word++[61]))++(m.val f++r):=by
 unfold Mg.part
 simp only[List.cons_append,List.append_assoc,List.nil_append]
theorem CB(m:Mg)(ho:m.ok):∀(fs:List Fld) (c:Mg),(∀f∈fs,m.good f=true)→m_ fs c (fs.flatMap m.part)= .ok (fs.foldl (fun c f=>c.move m f) c,[])
 | [],c,_=>rfl
 |f::fs,c,h=>by
  rw[List.flatMap_cons,Gy,m_,gG,bC,PO c m f _ ho (h f List.mem_cons_self) (vW m fs),bC]
  exact CB m ho fs _ (fun g hg=>h g (List.mem_cons_of_mem _ hg))
theorem Gz:∀(fs:List Fld) (c m:Mg) (l r:List UInt8),fs.Nodup→m_ fs c l= .ok (m,r)→l=fs.flatMap m.part++r∧(∀f∈fs,m.good f=true)∧m=fs.foldl (fun c f=>c.move m f) c∧(c.ok→m.ok)
 | [],c,m,l,r,_,h=>by
  injection h with h
  injection h with h1 h2
  subst h1;subst h2
  exact⟨rfl,by simp,rfl,id⟩
 |f::fs,c,m,l,r,hn,h=>by
  rw[List.nodup_cons]at hn
  rw[m_]at h
  obtain⟨l1,e1,k2⟩:=bind_ok h
  obtain⟨⟨c',r'⟩,e2,k3⟩:=bind_ok k2
  dsimp only at k3
  obtain⟨rfl,hg,hc,hok⟩:=Sj e2
  obtain⟨rfl,hgs,hm,UU⟩:=Gz fs c' m r' r hn.2 k3
  have ha:Alike m c' f:=by
   intro d
   have:=pY m f fs c' hn.1 d
   rwa[←hm]at this
  refine⟨?_, ?_, ?_,fun ho=>UU (hok ho)⟩
  ·rw[List.flatMap_cons,ha.part,List.append_assoc,Gy,fQ e1]
  ·intro g hgm
   rcases List.mem_cons.1 hgm with rfl|hgm
   ·rw[ha.good];exact hg
   ·exact hgs g hgm
  ·rw[List.foldl_cons,ha c,←hc]
   exact hm
theorem CG:∀k,k<28→bQ (100+k)≠none→kindOf (fO (100+k))=some (100+k)∧(fO (100+k)).all isLet=true:=by decide
theorem CJ{k:Nat}{fs:List Fld}(h:bQ k=some fs):kindOf (fO k)=some k∧(∀c∈fO k,isLet c=true):=by
 obtain⟨-, -,h1,h2⟩:=iP h
 have:=CG (k-100) (by omega)
 rw[show 100+(k-100)=k by omega,List.all_eq_true]at this
 exact this (by rw[h];simp)
theorem Es:∀k,k<28→fO (100+k)≠ []→bQ (100+k)≠none:=by decide
theorem mM{s:List UInt8}{k:Nat}(h:kindOf s=some k):fO k=s∧s≠ []∧∃fs,bQ k=some fs:=by
 unfold kindOf at h
 split at h
 ·cases h
 ·rename_i hs
  obtain⟨i,hi,rfl⟩:=Option.map_eq_some_iff.1 h
  have h1:=List.find?_some hi
  have h2:=List.mem_of_find?_eq_some hi
  rw[List.mem_range]at h2
  rw[decide_eq_true_iff]at h1
  refine⟨h1,hs, ?_⟩
  have:=Es i h2 (by rw[h1];exact hs)
  cases hk:bQ (100+i)with
  |none=>exact absurd hk this
  |some fs=>exact⟨fs,rfl⟩
theorem GH{m:Mg}{fs:List Fld}(hk:bQ m.kind=some fs)(h:(refused m).1=0):qA m=fO m.kind++32::(decDigits m.tag++fs.flatMap m.part):=by
 unfold qA
 rw[hk]
 dsimp only
 rw[if_pos h]
theorem Iq(r:List UInt8):Stops isLet (32::r):=fun c h=>by simp at h;subst h;rfl
theorem Et{m:Mg}(ho:m.ok)(h:(refused m).1=0):parseM (qA m)=(clean m,0,0):=by
 obtain⟨fs,hk,hg, -, -, -⟩:=nZ h
 have hkn:=CJ hk
 have Sl:jX (qA m)= .ok (clean m):=by
  rw[GH hk h]
  unfold jX
  dsimp only
  rw[kV _ _ hkn.2 (Iq _),hkn.1]
  dsimp only
  rw[List.drop_left,lV,bC,eX 65535 _ _ (by have:=ho.tag;omega) (vW m fs).dig,bC]
  dsimp only
  rw[hk]
  dsimp only[Option.getD]
  rw[CB m ho fs _ hg,bC]
  dsimp only
  rw[if_pos rfl]
  unfold clean
  rw[hk]
  rfl
 unfold parseM
 rw[Sl]
 dsimp only
 rw[if_pos (by rw[yA h];exact h)]
end Go.Proofs.YtkblmloobkiloaaGreatDoor
namespace Go.Proofs.YtkblmloobkiloaaGreatDoor
open Go.RowKit
theorem SB.new(w:World):SB (w.alloc (.cells #[.pointer none,.slice none 0 0] 197)) w.heap.size w.heap.size []:=
 .inl ⟨Nat.le_refl _,.slice none 0 0,Blk.new w _ _,⟨rfl,.inl ⟨rfl,rfl⟩⟩,by simp[Value.ownBlock]⟩
theorem SB.size{w:World}{B b:Nat}{l:List Value}(h:SB w B b l):b<w.heap.size:=by
 rcases h with⟨_,v,hb,_⟩|⟨_,v,hb,_⟩<;>exact dP hb
theorem Bys.at_{w:World}{B:Nat}{A:Option Addr}{n c:Nat}{l:List UInt8}(h:Bys w B (.slice A n c) l){k:Nat}{u:UInt8}(hx:l[k]? =some u):∃ad,A=some ad∧ad.block<B∧w.cell? (ad.add k)=some (.int .u8 (u.toNat:Int)):=by
 obtain⟨A',c',e, -, -,hr⟩:=h
 injection e with e1 e2 e3
 subst e1
 have hk:k<l.length:=(List.getElem?_eq_some_iff.1 hx).1
 obtain⟨ad,v,h1,h2,h3,h4⟩:=hr.at_ hk
 refine⟨ad,h1,h2,h4.trans ?_⟩
 rw[List.getElem?_map,hx]at h3
 exact h3.symm▸rfl
theorem GI(l:List UInt8):(l.flatMap jW).length=2*l.length:=by
 induction l with
 |nil=>rfl
 |cons c l ih=>
  rw[List.flatMap_cons,List.length_append,ih]
  simp only[jW,List.length_cons,List.length_nil]
  omega
theorem SB.below{w w':World}{B b:Nat}{l:List Value}(h:SB w B b l)(hb:Below w.heap.size w w'):SB w' B b l:=by
 have key:∀pv,Lib.BuilderAtF 197 5 B b pv l w→Lib.BuilderAtF 197 5 B b pv l w':=by
  rintro pv ⟨hB,v,hbk,hown,hne⟩
  refine⟨hB,v,(hb.block b (dP hbk)).trans hbk,⟨hown.1, ?_⟩,hne⟩
  rcases hown.2 with h0|⟨g,cap,cur,fz,hv,h1,hg,r⟩
  ·exact .inl h0
  ·exact .inr ⟨g,cap,cur,fz,hv,h1,(hb.block g (dP hg)).trans hg,r⟩
 rcases h with h|h
 ·exact .inl (key _ h)
 ·exact .inr (key _ h)
theorem sK(l:List UInt8):(l.flatMap dw).length≤4*l.length:=by
 induction l with
 |nil=>exact Nat.le_refl _
 |cons c l ih=>
  rw[List.flatMap_cons,List.length_append,List.length_cons]
  have:(dw c).length≤4:=by
   unfold dw jW
   split
   ·simp only[List.length_cons,List.length_nil];omega
   ·split
    ·simp only[List.length_cons,List.length_nil];omega
    ·simp only[List.length_cons,List.length_nil];omega
  omega
theorem qE{r:Int}(h0:0≤r)(h1:r≤127):Lib.runeCells r=[.int .u8 r]:=by
 unfold Lib.runeCells
 rw[Lib.encodeRuneZ_one h0 h1]
 rfl
end Go.Proofs.YtkblmloobkiloaaGreatDoor
