/-
  MBA: what the laws of package msg need of them.
-/
import Derived.Test.YtkblmloobkiloaaGreatDoorK00
import Derived.Test.YtkblmloobkiloaaGreatDoorK16
namespace Go.Proofs.YtkblmloobkiloaaGreatDoor
open Go.Lib (hid)
open Go.RowKit
def jh(v l:Value):Prop:=∃g n k cap,v= .slice (some ⟨g,0,none⟩) n cap∧l= .slice (some ⟨g,0,none⟩) k cap
section
variable {P:Program} {w:World}
theorem tK(base:Nat)(t ty e:TypeId)(i:TypeInfo)(z:Value)(size bytes:Nat)(ht:P.underlying t=some (.slice e))(hi:P.info? e=some i)(hz:i.zero=some z)
  (hsize:i.size=size) (hby:i.bytes=bytes) (hzs:z.cells.size=size) (hsz:0<size)
  (v:Value) (n:Nat) (xs:List Value) (hown:w.ownsRow base e size v n xs)
  (a:Addr) (c:Nat) (news:List Value) (hl:news.length=size) (hnews:∀j u,news[j]? =some u→w.cell? (a.add j)=some u) (h1:∀u∈news,u.oneCell'=true)
  (h63:n+1≤maxLen) (hbytes:(n+1)*bytes≤140737488355328) (hbase:base≤w.heap.size):
  ∃v' w',(Builtin.append_ #[t,t] ty #[v,.slice (some a) 1 c]).run P w= .ok v' w'∧w'.ownsRow base e size v' (n+1) (xs++news)∧w.grownBy w' v.ownBlock∧
   (jh v v'∨(v'.ownBlock=some w.heap.size∧Below w.heap.size w w')):=by
 have hl1:news.length=1*size:=by rw[hl,Nat.one_mul]
 obtain⟨v',w',hr,h2,h3, -, -⟩:=run_append_own_at (P:=P) w base t ty e i z size bytes ht hi hz hsize hby hzs hsz v n xs hown a 1 c news hl1 hnews h1 h63 hbytes hbase
 refine⟨v',w',hr,h2,h3, ?_⟩
 have hnew:∀ob,Below w.heap.size w (w.drew.alloc ob):=fun ob=>(aC w).alloc (Nat.le_refl _) ob
 have h63':n+1≤9223372036854775807:=by simp only[maxLen]at h63;omega
 subst hsize hby
 rcases hown.2 with⟨rfl,rfl⟩|⟨g,cap,cur,rfl, -,hg, -, -,hcs, -⟩
 ·have hr2:=run_append_nil (P:=P) w t ty e i z ht hi hz a 1 c news hl1 hnews (by omega) (by omega) (by have hb:=hbytes;simp only[Nat.zero_add]at hb;omega)
  rw[hr2]at hr
  injection hr with e1 e2
  subst e1 e2
  exact .inr ⟨rfl,hnew _⟩
 ·by_cases hroom:n+1≤cap
  ·have hr2:=run_append_room (P:=P) w t ty e i ht hi g n cap cur hg a 1 c news hl1 hnews h1 hroom (by rw[hl1,hcs,←Nat.add_mul];exact Nat.mul_le_mul_right _ hroom)
   rw[hr2]at hr
   injection hr with e1 e2
   subst e1
   exact .inl ⟨g,n,n+1,cap,rfl,rfl⟩
  ·have hr2:=run_append_grow (P:=P) w t ty e i z ht hi hz ⟨g,0,none⟩ n cap xs hown.1 (hown.cells (g:=g) rfl) a 1 c news hl1 hnews (by omega) (by omega) (growslice_fits (by omega) hbytes)
   rw[hr2]at hr
   injection hr with e1 e2
   subst e1 e2
   exact .inr ⟨rfl,hnew _⟩
theorem oN{o:Oper}{a:Act}{K:Act→World→Prop}{Q:Exit→Act→World→Prop}(s x:Operand)(t:TypeId)
  (ho:o.op= .call {callee:= .builtin .append,args:= #[s,x],argTypes:= #[t,t]})
  (base:Nat) (e:TypeId) (i:TypeInfo) (z:Value) (size bytes:Nat) (ht:P.underlying t=some (.slice e)) (hi:P.info? e=some i) (hz:i.zero=some z)
  (hsize:i.size=size) (hby:i.bytes=bytes) (hzs:z.cells.size=size) (hsz:0<size)
  (v:Value) (n:Nat) (xs:List Value) (hs:a.eval s=v) (hown:w.ownsRow base e size v n xs)
  (b c:Nat) (news:List Value) (hx:a.eval x= .slice (some ⟨b,0,none⟩) 1 c) (hl:news.length=size) (hr:∀j,w.cell? ⟨b,j,none⟩=news[j]?) (h1:∀u∈news,u.oneCell'=true)
  (h63:n+1≤maxLen) (hbytes:(n+1)*bytes≤140737488355328) (hbase:base≤w.heap.size)
  (h:∀v' w',w'.ownsRow base e size v' (n+1) (xs++news)→w.grownBy w' v.ownBlock→(jh v v'∨(v'.ownBlock=some w.heap.size∧Below w.heap.size w w'))→K (a.put o.dst v') w'):o.wp P a w K Q:=by
 have hcell:∀j u,news[j]? =some u→w.cell? ((⟨b,0,none⟩:Addr).add j)=some u:=fun j u hj=>by
  rw[Addr.add_mid,Nat.zero_add,hr]
  exact hj
 obtain⟨v',w',hrun,h2,h3,h4⟩:=tK (P:=P) base t o.type e i z size bytes ht hi hz hsize hby hzs hsz v n xs hown ⟨b,0,none⟩ c news hl hcell h1 h63 hbytes hbase
 unfold Oper.wp execOp
 simp only[ho,resolve,invoke,builtin,Sem.run_bind,Sem.run_pure,Result.andThen_ok,List.map_toArray,List.map_cons,List.map_nil,hs,hx,hrun]
 exact h v' w' h2 h3 h4
end
theorem x9:(Tryz.prog.info? 22).map (fun i=>(i.zero,i.size,i.bytes))=some (some (.slice none 0 0),1,24):=by kernel_rfl
theorem zU:(Tryz.prog.info? 33).map (fun i=>(i.zero,i.size,i.bytes))=some (some (.slice none 0 0),1,24):=by kernel_rfl
theorem zV:(Tryz.prog.info? 34).map (fun i=>(i.zero,i.size,i.bytes))=some (some (.slice none 0 0),1,24):=by kernel_rfl
section
variable {w:World} {ops:Array Oper} {rest:List Oper} {o:Oper} {a:Act} {Q:Exit→Act→World→Prop} {K:Act→World→Prop}
theorem appRow(tr te:TypeId)(hu:Tryz.prog.underlying tr=some (.slice te))(hin:(Tryz.prog.info? te).map (fun i=>(i.zero,i.size,i.bytes))=some (some (.slice none 0 0),1,24))(s x:Operand)
  (ho:o.op= .call {callee:= .builtin .append,args:= #[s,x],argTypes:= #[tr,tr]})
  (base:Nat) (v:Value) (l:List Value) (hs:a.eval s=v) (hown:w.ownsRow base te 1 v l.length l)
  (b c:Nat) (u:Value) (hx:a.eval x= .slice (some ⟨b,0,none⟩) 1 c) (hr:Blk w b te #[u]) (h1:u.oneCell'=true) (hlen:l.length≤1000000) (hbase:base≤w.heap.size)
  (h:∀v' w',w'.ownsRow base te 1 v' (l++[u]).length (l++[u])→w.grownBy w' v.ownBlock→K (a.put o.dst v') w'):o.wp Tryz.prog a w K Q:=by
 obtain⟨i0,hi0,hz0,hz1,hz2⟩:=info_parts hin
 refine oN s x tr ho base te i0 _ 1 24 hu hi0 hz0 hz1 hz2 rfl (by omega) v l.length l hs hown b c [u] hx rfl (fun j=>by rw[hr.cell j];simp) (fun z hz=>by rw[List.mem_singleton]at hz;subst hz;exact h1) (by unfold maxLen;omega) (by omega) hbase ?_
 intro v' w' h1 h2 _
 refine h v' w' ?_ h2
 rw[List.length_append]
 exact h1
end
def BkS(w:World)(b base:Nat)(Y N Q:List Value):Prop:=∃vy vn vq,Blk w b 29 #[vy,vn,vq]∧w.ownsRow base 22 1 vy Y.length Y∧w.ownsRow base 33 1 vn N.length N∧w.ownsRow base 34 1 vq Q.length Q
structure f_(base:Nat)(w w':World):Prop where
 b:Below base w w'
 r:∀e s v n bb xs,(e=5∨e=9∨e=37)→w.ownsRow bb e s v n xs→w'.ownsRow bb e s v n xs
 k:∀g cs,Blk w g 41 cs→Blk w' g 41 cs
theorem f_.refl(base:Nat)(w:World):f_ base w w:=⟨Below.refl _ _,fun _ _ _ _ _ _ _ h=>h,fun _ _ h=>h⟩
theorem f_.trans{base:Nat}{a b c:World}(h:f_ base a b)(k:f_ base b c):f_ base a c:=⟨h.b.trans k.b,fun e s v n bb xs he hr=>k.r e s v n bb xs he (h.r e s v n bb xs he hr),fun g cs hg=>k.k g cs (h.k g cs hg)⟩
theorem f_.new{base:Nat}{w w':World}(hb:Below w.heap.size w w')(h:base≤w.heap.size):f_ base w w':=⟨hb.mono h,fun _ _ _ _ _ _ _ hr=>aI hr hb,fun _ _ hg=>Blk.below hg hb (Blk.lt hg)⟩
theorem f_.off{base:Nat}{S:Nat→Prop}{w w':World}(ho:Off S w w')(hS:∀i,S i→base≤i)(hb:base≤w.heap.size)(hn:∀i cur fr e,S i→(e=5∨e=9∨e=37∨e=41)→w.heap[i]? ≠some (Obj.cells cur e fr)):f_ base w w':=
 ⟨ho.below hS hb,fun e _ _ _ _ _ he hr=>dL ho hr fun i cur fr hi=>hn i cur fr e hi (he.elim .inl fun h=> .inr (h.elim .inl fun h=> .inr (.inl h))),fun g cs hg=>ho.blk hg fun hS=>hn g cs _ _ hS (.inr (.inr (.inr rfl))) hg⟩
theorem fU(w:World)(q i:Nat)(v:Value):Off (fun k=>k=q) w (w.setCell ⟨q,i,none⟩ v):=bM w q i v
def Ru(b base:Nat)(Y N Q:List Value)(w:World)(e:Ending)(w':World):Prop:=e= .returned (.tuple #[])∧BkS w' b base Y N Q∧f_ base w w'
set_option maxRecDepth 100000 in
set_option maxHeartbeats 6400000 in
theorem Ea{w:World}{b base:Nat}{Y N Q:List Value}{m:Mg}{An Aq Ad:Option Addr}{nn cn nq cq nd cd:Nat}(hb:base≤b)(h:BkS w b base Y N Q)(h1:Y.length≤1000000)(h2:N.length≤1000000)(h3:Q.length≤1000000):
  Calls Tryz.prog 16 #[.pointer (some ⟨b,0,none⟩),iM m (.slice An nn cn) (.slice Aq nq cq) (.slice Ad nd cd)] w (Ru b base (Y++[.slice Ad nd cd]) (N++[.slice An nn cn]) (Q++[.slice Aq nq cq]) w):=by
 obtain⟨by_,bn,bq,hk,hy,hn,hq⟩:=h
 have hbl:=Blk.lt hk
 have hup:Below w.heap.size w (w.alloc (.cells (aF m (.slice An nn cn) (.slice Aq nq cq) (.slice Ad nd cd)).toArray 41)):=(Below.refl _ _).alloc (Nat.le_refl _) _
 have HM:=hid (show aK (w.alloc (.cells (aF m (.slice An nn cn) (.slice Aq nq cq) (.slice Ad nd cd)).toArray 41)) w.heap.size m (.slice An nn cn) (.slice Aq nq cq) (.slice Ad nd cd)from Blk.new w _ _)
 have HK:=hid (Blk.below hk hup hbl)
 have HY:=hid (aI hy hup)
 have HN:=hid (aI hn hup)
 have HQ:=hid (aI hq hup)
 have HR:=hid (f_.new (base:=base) hup (by omega))
 have HB:=hid hb
 have HL:=hid (And.intro h1 (And.intro h2 h3))
 have HSZ:=hid (show base≤w.heap.size from by omega)
 clear hk hy hn hq hup hb h1 h2 h3 hbl
 go_enter Tryz.func16,Tryz.ntmps16
 go_upto_region 1 with(fail)
 change Code.wp _ _ _ _ (w.alloc (.cells (aF m (.slice An nn cn) (.slice Aq nq cq) (.slice Ad nd cd)).toArray 41))
 generalize w.alloc (.cells (aF m (.slice An nn cn) (.slice Aq nq cq) (.slice Ad nd cd)).toArray 41)=w0 at HM HK HY HN HQ HR⊢
 generalize w.heap.size=z at HM HSZ⊢
 try simp only[Act.put]
 go_cut [] (fun wx=>∃hd,Blk wx b 29 #[hd,bn,bq]∧aK wx z m (.slice An nn cn) (.slice Aq nq cq) (.slice Ad nd cd)∧wx.ownsRow base 22 1 hd (Y.length+1) (Y++[Value.slice Ad nd cd])∧wx.ownsRow base 33 1 bn N.length N∧wx.ownsRow base 34 1 bq Q.length Q∧f_ base w wx)
 case first=>
  have hk2:w0.drew.cell? ⟨b,0,none⟩=some by_:=Blk.cell HK.out 0
  have hz2:w0.drew.cell? ⟨z,22,none⟩=some (Value.slice Ad nd cd):=Blk.cell HM.out 22
  have HKD:=hid (show Blk w0.drew b 29 #[by_,bn,bq]from HK.out)
  have HMD:=hid (show aK w0.drew z m (.slice An nn cn) (.slice Aq nq cq) (.slice Ad nd cd)from HM.out)
  have HYD:=hid (aI HY.out (aC w0))
  have HND:=hid (aI HN.out (aC w0))
  have HQD:=hid (aI HQ.out (aC w0))
  have HRD:=hid (HR.out.trans (f_.new (aC w0) (by have:=HR.out.b.size;have:=HSZ.out;have:=Blk.lt HM.out;have:=Blk.lt HK.out;have:=HB.out;omega)))
  clear HK HM HY HN HQ HR
  refine wp_region_held_drew (S:=fun wx=>wx.cell? ⟨z,22,none⟩=some (Value.slice Ad nd cd)∧z<wx.heap.size) (by kernel_rfl) ⟨hz2,Blk.lt HMD.out⟩ (fun hHeld=> ?_)
  generalize w0.drew=wd at hHeld hk2 hz2 HKD HMD HYD HND HQD HRD⊢
  clear hz2
  refine tk 4 0 (.pointer (some ⟨b,0,none⟩)) ?_
  refine tk 5 1 (.pointer (some ⟨b,0,none⟩)) ?_
  refine tk 6 2 (.pointer (some ⟨b,0,none⟩)) ?_
  refine tk 7 3 (.pointer (some ⟨b,0,none⟩)) ?_
  refine tk 9 5 (.pointer (some ⟨z,22,none⟩)) ?_
  refine tk2 10 6 (Value.slice Ad nd cd) rfl (fun wq hSw=>by have kz:=hSw.1;go_simp) ?_
  refine wpAnyH_ready (rs:=[4,7]) (by kernel_rfl) (by simp) ?_
  refine AllReadyH.cons rfl (fun K hK=> ?_) (AllReadyH.cons rfl (fun K hK=> ?_) AllReadyH.nil)
  all_goals(rw[if_pos (by rfl)])
  ·go_simp
   refine hK.out _ _ hHeld (fun hHeld=> ?_)
   clear hK
   try dsimp only
   try simp only[ah]
   refine wpAnyH_ready (rs:=[7]) (by kernel_rfl) (by simp) ?_
   refine AllReadyH.cons rfl (fun K hK=> ?_) AllReadyH.nil
   rw[if_pos (by rfl)]
   go_simp
   have hup:Below wd.heap.size wd (wd.alloc (.cells #[Value.slice Ad nd cd] 22)):=(Below.refl _ _).alloc (Nat.le_refl _) _
   have hzs:(wd.alloc (.cells #[Value.slice Ad nd cd] 22)).cell? ⟨z,22,none⟩=some (Value.slice Ad nd cd)∧z<(wd.alloc (.cells #[Value.slice Ad nd cd] 22)).heap.size:=⟨(hup.cell (p:=⟨z,22,none⟩) hHeld.2).trans hHeld.1,Nat.lt_of_lt_of_le hHeld.2 hup.size⟩
   refine hK.out _ _ hzs (fun hHeld=> ?_)
   clear hK hzs
   have HXA:=hid (Blk.new wd 22 #[Value.slice Ad nd cd])
   have HKA:=hid (Blk.below HKD.out hup (Blk.lt HKD.out))
   have HMA:=hid (Blk.below HMD.out hup (Blk.lt HMD.out))
   have HYA:=hid (aI HYD.out hup)
   have HNA:=hid (aI HND.out hup)
   have HQA:=hid (aI HQD.out hup)
   have HRA:=hid (HRD.out.trans (f_.new hup (by have:=HB.out;have:=Blk.lt HKD.out;omega)))
   have hk3:(wd.alloc (.cells #[Value.slice Ad nd cd] 22)).cell? ⟨b,0,none⟩=some by_:=Blk.cell HKA.out 0
   clear HKD HMD HYD HND HQD HRD hup hk2
   try dsimp only
   generalize wd.alloc (.cells #[Value.slice Ad nd cd] 22)=wa at HXA HKA HMA HYA HNA HQA HRA hHeld hk3⊢
   generalize wd.heap.size=g at HXA⊢
   try simp only[ah]
   clear hk3
   refine wpAnyH_ready (rs:=[8]) (by kernel_rfl) (by simp) ?_
   refine AllReadyH.cons rfl (fun K hK=> ?_) AllReadyH.nil
   rw[if_pos (by rfl)]
   refine appRow 25 22 Tryz.underlying25 x9 (.tmp 8) (.tmp 11) rfl base _ Y rfl HYA.out g _ (Value.slice Ad nd cd) rfl HXA.out rfl HL.out.1 (by have:=HB.out;have:=Blk.lt HKA.out;omega) ?_
   intro v4 w4 hown hgr
   rw[show(Y++[(Value.slice Ad nd cd)]).length=Y.length+1 from by rw[List.length_append];rfl]at hown
   obtain⟨A4,c4,rfl, -⟩:=aJ hown
   have hrow:=HYA.out
   have HO4:=hid hown
   have ho:=(Off.refl (fun i=>by_.ownBlock=some i) wa).grown hgr (fun g hg=>hg)
   have hz4:w4.cell? ⟨z,22,none⟩=some (Value.slice Ad nd cd)∧z<w4.heap.size:=⟨(World.cell?_of_block (ho.block z hHeld.2 (fun e=>bZ hrow (by decide) z _ _ e HMA.out))).trans hHeld.1,Nat.lt_of_lt_of_le hHeld.2 ho.size⟩
   refine hK.out _ _ hz4 (fun hHeld=> ?_)
   clear hK hz4
   have HK4:=hid (ho.blk HKA.out (fun e=>bZ hrow (by decide) b _ _ e HKA.out))
   have HM4:=hid (ho.blk HMA.out (fun e=>bZ hrow (by decide) z _ _ e HMA.out))
   have H1:=hid (HNA.out.kept hgr (fC HNA.out hrow (by decide)))
   have H2:=hid (HQA.out.kept hgr (fC HQA.out hrow (by decide)))
   have HR4:=hid (HRA.out.trans (f_.off ho (fun i hi=>dH hrow i hi) (by have:=HB.out;have:=Blk.lt HKA.out;omega) (fun i cur fr e hi he=>by rcases he with rfl|rfl|rfl|rfl<;>exact bZ hrow (by decide) i cur fr hi)))
   clear hown hgr ho hrow HKA HMA HYA HNA HQA HRA HXA
   try dsimp only
   try simp only[ah]
   refine tk 13 9 (.pointer (some ⟨b,0,none⟩)) ?_
   refine tk 14 10 (.pointer (some ⟨b,0,none⟩)) ?_
   refine wpAnyH_ready (rs:=[11]) (by kernel_rfl) (by simp) ?_
   refine AllReadyH.cons rfl (fun K hK=> ?_) AllReadyH.nil
   rw[if_pos (by rfl)]
   have kb:w4.cell? ⟨b,0,none⟩=some by_:=Blk.cell HK4.out 0
   have fb:w4.frozen? ⟨b,0,none⟩=false:=Blk.frozen HK4.out 0
   have hset:∀u,(w4.setCell ⟨b,0,none⟩ u).cell? ⟨z,22,none⟩=some (Value.slice Ad nd cd)∧z<(w4.setCell ⟨b,0,none⟩ u).heap.size:=fun u=>⟨(World.cell?_of_block ((fU w4 b 0 u).block z hHeld.2 (fun e=>(Blk.noT HK4.out (by decide)) z _ _ e HM4.out))).trans hHeld.1,Nat.lt_of_lt_of_le hHeld.2 (fU w4 b 0 u).size⟩
   go_simp
   refine hK.out _ _ (hset _) (fun hHeld=> ?_)
   clear hK hset kb fb
   have ho:=fU w4 b 0 (Value.slice A4 (Y.length+1) c4)
   have HK:=hid (show Blk (w4.setCell ⟨b,0,none⟩ (.slice A4 (Y.length+1) c4)) b 29 #[.slice A4 (Y.length+1) c4,bn,bq]from Blk.aW HK4.out 0 _)
   have HM:=hid (show aK (w4.setCell ⟨b,0,none⟩ (.slice A4 (Y.length+1) c4)) z m (.slice An nn cn) (.slice Aq nq cq) (.slice Ad nd cd)from ho.blk HM4.out (fun e=>(Blk.noT HK4.out (by decide)) z _ _ e HM4.out))
   have HY:=hid (dL ho HO4.out (Blk.noT HK4.out (by decide)))
   have HN:=hid (dL ho H1.out (Blk.noT HK4.out (by decide)))
   have HQ:=hid (dL ho H2.out (Blk.noT HK4.out (by decide)))
   have HR:=hid (HR4.out.trans (f_.off ho (fun i hi=>by have hi:i=b:=hi;have:=HB.out;omega) (by have:=HB.out;have:=Blk.lt HK4.out;omega) (fun i cur fr e hi he=>by rcases he with rfl|rfl|rfl|rfl<;>exact Blk.noT HK4.out (by decide) i cur fr hi)))
   clear ho HK4 HM4 HO4 H1 H2 HR4
   clear hHeld
   try dsimp only
   try simp only[ah]
   refine wpAnyH_done (by kernel_rfl) ?_ _
   go_wp2_with fail
   go_meet
   case rel=>exact⟨_,HK.out,HM.out,HY.out,HN.out,HQ.out,HR.out⟩
  ·go_simp
   have hup:Below wd.heap.size wd (wd.alloc (.cells #[Value.slice Ad nd cd] 22)):=(Below.refl _ _).alloc (Nat.le_refl _) _
   have hzs:(wd.alloc (.cells #[Value.slice Ad nd cd] 22)).cell? ⟨z,22,none⟩=some (Value.slice Ad nd cd)∧z<(wd.alloc (.cells #[Value.slice Ad nd cd] 22)).heap.size:=⟨(hup.cell (p:=⟨z,22,none⟩) hHeld.2).trans hHeld.1,Nat.lt_of_lt_of_le hHeld.2 hup.size⟩
   refine hK.out _ _ hzs (fun hHeld=> ?_)
   clear hK hzs
   have HXA:=hid (Blk.new wd 22 #[Value.slice Ad nd cd])
   have HKA:=hid (Blk.below HKD.out hup (Blk.lt HKD.out))
   have HMA:=hid (Blk.below HMD.out hup (Blk.lt HMD.out))
   have HYA:=hid (aI HYD.out hup)
   have HNA:=hid (aI HND.out hup)
   have HQA:=hid (aI HQD.out hup)
   have HRA:=hid (HRD.out.trans (f_.new hup (by have:=HB.out;have:=Blk.lt HKD.out;omega)))
   have hk3:(wd.alloc (.cells #[Value.slice Ad nd cd] 22)).cell? ⟨b,0,none⟩=some by_:=Blk.cell HKA.out 0
   clear HKD HMD HYD HND HQD HRD hup hk2
   try dsimp only
   generalize wd.alloc (.cells #[Value.slice Ad nd cd] 22)=wa at HXA HKA HMA HYA HNA HQA HRA hHeld hk3⊢
   generalize wd.heap.size=g at HXA⊢
   try simp only[ah]
   refine wpAnyH_ready (rs:=[4]) (by kernel_rfl) (by simp) ?_
   refine AllReadyH.cons rfl (fun K hK=> ?_) AllReadyH.nil
   rw[if_pos (by rfl)]
   go_simp
   refine hK.out _ _ hHeld (fun hHeld=> ?_)
   clear hK hk3
   try dsimp only
   try simp only[ah]
   refine wpAnyH_ready (rs:=[8]) (by kernel_rfl) (by simp) ?_
   refine AllReadyH.cons rfl (fun K hK=> ?_) AllReadyH.nil
   rw[if_pos (by rfl)]
   refine appRow 25 22 Tryz.underlying25 x9 (.tmp 8) (.tmp 11) rfl base _ Y rfl HYA.out g _ (Value.slice Ad nd cd) rfl HXA.out rfl HL.out.1 (by have:=HB.out;have:=Blk.lt HKA.out;omega) ?_
   intro v4 w4 hown hgr
   rw[show(Y++[(Value.slice Ad nd cd)]).length=Y.length+1 from by rw[List.length_append];rfl]at hown
   obtain⟨A4,c4,rfl, -⟩:=aJ hown
   have hrow:=HYA.out
   have HO4:=hid hown
   have ho:=(Off.refl (fun i=>by_.ownBlock=some i) wa).grown hgr (fun g hg=>hg)
   have hz4:w4.cell? ⟨z,22,none⟩=some (Value.slice Ad nd cd)∧z<w4.heap.size:=⟨(World.cell?_of_block (ho.block z hHeld.2 (fun e=>bZ hrow (by decide) z _ _ e HMA.out))).trans hHeld.1,Nat.lt_of_lt_of_le hHeld.2 ho.size⟩
   refine hK.out _ _ hz4 (fun hHeld=> ?_)
   clear hK hz4
   have HK4:=hid (ho.blk HKA.out (fun e=>bZ hrow (by decide) b _ _ e HKA.out))
   have HM4:=hid (ho.blk HMA.out (fun e=>bZ hrow (by decide) z _ _ e HMA.out))
   have H1:=hid (HNA.out.kept hgr (fC HNA.out hrow (by decide)))
   have H2:=hid (HQA.out.kept hgr (fC HQA.out hrow (by decide)))
   have HR4:=hid (HRA.out.trans (f_.off ho (fun i hi=>dH hrow i hi) (by have:=HB.out;have:=Blk.lt HKA.out;omega) (fun i cur fr e hi he=>by rcases he with rfl|rfl|rfl|rfl<;>exact bZ hrow (by decide) i cur fr hi)))
   clear hown hgr ho hrow HKA HMA HYA HNA HQA HRA HXA
   try dsimp only
   try simp only[ah]
   refine tk 13 9 (.pointer (some ⟨b,0,none⟩)) ?_
   refine tk 14 10 (.pointer (some ⟨b,0,none⟩)) ?_
   refine wpAnyH_ready (rs:=[11]) (by kernel_rfl) (by simp) ?_
   refine AllReadyH.cons rfl (fun K hK=> ?_) AllReadyH.nil
   rw[if_pos (by rfl)]
   have kb:w4.cell? ⟨b,0,none⟩=some by_:=Blk.cell HK4.out 0
   have fb:w4.frozen? ⟨b,0,none⟩=false:=Blk.frozen HK4.out 0
   have hset:∀u,(w4.setCell ⟨b,0,none⟩ u).cell? ⟨z,22,none⟩=some (Value.slice Ad nd cd)∧z<(w4.setCell ⟨b,0,none⟩ u).heap.size:=fun u=>⟨(World.cell?_of_block ((fU w4 b 0 u).block z hHeld.2 (fun e=>(Blk.noT HK4.out (by decide)) z _ _ e HM4.out))).trans hHeld.1,Nat.lt_of_lt_of_le hHeld.2 (fU w4 b 0 u).size⟩
   go_simp
   refine hK.out _ _ (hset _) (fun hHeld=> ?_)
   clear hK hset kb fb
   have ho:=fU w4 b 0 (Value.slice A4 (Y.length+1) c4)
   have HK:=hid (show Blk (w4.setCell ⟨b,0,none⟩ (.slice A4 (Y.length+1) c4)) b 29 #[.slice A4 (Y.length+1) c4,bn,bq]from Blk.aW HK4.out 0 _)
   have HM:=hid (show aK (w4.setCell ⟨b,0,none⟩ (.slice A4 (Y.length+1) c4)) z m (.slice An nn cn) (.slice Aq nq cq) (.slice Ad nd cd)from ho.blk HM4.out (fun e=>(Blk.noT HK4.out (by decide)) z _ _ e HM4.out))
   have HY:=hid (dL ho HO4.out (Blk.noT HK4.out (by decide)))
   have HN:=hid (dL ho H1.out (Blk.noT HK4.out (by decide)))
   have HQ:=hid (dL ho H2.out (Blk.noT HK4.out (by decide)))
   have HR:=hid (HR4.out.trans (f_.off ho (fun i hi=>by have hi:i=b:=hi;have:=HB.out;omega) (by have:=HB.out;have:=Blk.lt HK4.out;omega) (fun i cur fr e hi he=>by rcases he with rfl|rfl|rfl|rfl<;>exact Blk.noT HK4.out (by decide) i cur fr hi)))
   clear ho HK4 HM4 HO4 H1 H2 HR4
   clear hHeld
   try dsimp only
   try simp only[ah]
   refine wpAnyH_done (by kernel_rfl) ?_ _
   go_wp2_with fail
   go_meet
   case rel=>exact⟨_,HK.out,HM.out,HY.out,HN.out,HQ.out,HR.out⟩
 obtain⟨by_,hk,hm,hy,hn,hq,hr⟩:=hcut
 have HK:=hid hk
 have HM:=hid hm
 have HY:=hid hy
 have HN:=hid hn
 have HQ:=hid hq
 have HR:=hid hr
 clear hk hm hy hn hq hr
 generalize wc=w1 at HK HM HY HN HQ HR⊢
 go_upto_region 2 with(fail)
 go_cut [] (fun wx=>∃hd,Blk wx b 29 #[by_,hd,bq]∧aK wx z m (.slice An nn cn) (.slice Aq nq cq) (.slice Ad nd cd)∧wx.ownsRow base 22 1 by_ (Y.length+1) (Y++[Value.slice Ad nd cd])∧wx.ownsRow base 33 1 hd (N.length+1) (N++[Value.slice An nn cn])∧wx.ownsRow base 34 1 bq Q.length Q∧f_ base w wx)
 case first=>
  have hk2:w1.drew.cell? ⟨b,1,none⟩=some bn:=Blk.cell HK.out 1
  have hz2:w1.drew.cell? ⟨z,11,none⟩=some (Value.slice An nn cn):=Blk.cell HM.out 11
  have HKD:=hid (show Blk w1.drew b 29 #[by_,bn,bq]from HK.out)
  have HMD:=hid (show aK w1.drew z m (.slice An nn cn) (.slice Aq nq cq) (.slice Ad nd cd)from HM.out)
  have HYD:=hid (aI HY.out (aC w1))
  have HND:=hid (aI HN.out (aC w1))
  have HQD:=hid (aI HQ.out (aC w1))
  have HRD:=hid (HR.out.trans (f_.new (aC w1) (by have:=HR.out.b.size;have:=HSZ.out;have:=Blk.lt HM.out;have:=Blk.lt HK.out;have:=HB.out;omega)))
  clear HK HM HY HN HQ HR
  refine wp_region_held_drew (S:=fun wx=>wx.cell? ⟨z,11,none⟩=some (Value.slice An nn cn)∧z<wx.heap.size) (by kernel_rfl) ⟨hz2,Blk.lt HMD.out⟩ (fun hHeld=> ?_)
  generalize w1.drew=wd at hHeld hk2 hz2 HKD HMD HYD HND HQD HRD⊢
  clear hz2
  refine tk 15 0 (.pointer (some ⟨b,0,none⟩)) ?_
  refine tk 16 1 (.pointer (some ⟨b,0,none⟩)) ?_
  refine tk 17 2 (.pointer (some ⟨b,0,none⟩)) ?_
  refine tk 18 3 (.pointer (some ⟨b,1,none⟩)) ?_
  refine tk 20 5 (.pointer (some ⟨z,11,none⟩)) ?_
  refine tk2 21 6 (Value.slice An nn cn) rfl (fun wq hSw=>by have kz:=hSw.1;go_simp) ?_
  refine wpAnyH_ready (rs:=[4,7]) (by kernel_rfl) (by simp) ?_
  refine AllReadyH.cons rfl (fun K hK=> ?_) (AllReadyH.cons rfl (fun K hK=> ?_) AllReadyH.nil)
  all_goals(rw[if_pos (by rfl)])
  ·go_simp
   refine hK.out _ _ hHeld (fun hHeld=> ?_)
   clear hK
   try dsimp only
   try simp only[ah]
   refine wpAnyH_ready (rs:=[7]) (by kernel_rfl) (by simp) ?_
   refine AllReadyH.cons rfl (fun K hK=> ?_) AllReadyH.nil
   rw[if_pos (by rfl)]
   go_simp
   have hup:Below wd.heap.size wd (wd.alloc (.cells #[Value.slice An nn cn] 33)):=(Below.refl _ _).alloc (Nat.le_refl _) _
   have hzs:(wd.alloc (.cells #[Value.slice An nn cn] 33)).cell? ⟨z,11,none⟩=some (Value.slice An nn cn)∧z<(wd.alloc (.cells #[Value.slice An nn cn] 33)).heap.size:=⟨(hup.cell (p:=⟨z,11,none⟩) hHeld.2).trans hHeld.1,Nat.lt_of_lt_of_le hHeld.2 hup.size⟩
   refine hK.out _ _ hzs (fun hHeld=> ?_)
   clear hK hzs
   have HXA:=hid (Blk.new wd 33 #[Value.slice An nn cn])
   have HKA:=hid (Blk.below HKD.out hup (Blk.lt HKD.out))
   have HMA:=hid (Blk.below HMD.out hup (Blk.lt HMD.out))
   have HYA:=hid (aI HYD.out hup)
   have HNA:=hid (aI HND.out hup)
   have HQA:=hid (aI HQD.out hup)
   have HRA:=hid (HRD.out.trans (f_.new hup (by have:=HB.out;have:=Blk.lt HKD.out;omega)))
   have hk3:(wd.alloc (.cells #[Value.slice An nn cn] 33)).cell? ⟨b,1,none⟩=some bn:=Blk.cell HKA.out 1
   clear HKD HMD HYD HND HQD HRD hup hk2
   try dsimp only
   generalize wd.alloc (.cells #[Value.slice An nn cn] 33)=wa at HXA HKA HMA HYA HNA HQA HRA hHeld hk3⊢
   generalize wd.heap.size=g at HXA⊢
   try simp only[ah]
   clear hk3
   refine wpAnyH_ready (rs:=[8]) (by kernel_rfl) (by simp) ?_
   refine AllReadyH.cons rfl (fun K hK=> ?_) AllReadyH.nil
   rw[if_pos (by rfl)]
   refine appRow 26 33 Tryz.underlying26 zU (.tmp 19) (.tmp 22) rfl base _ N rfl HNA.out g _ (Value.slice An nn cn) rfl HXA.out rfl HL.out.2.1 (by have:=HB.out;have:=Blk.lt HKA.out;omega) ?_
   intro v4 w4 hown hgr
   rw[show(N++[(Value.slice An nn cn)]).length=N.length+1 from by rw[List.length_append];rfl]at hown
   obtain⟨A4,c4,rfl, -⟩:=aJ hown
   have hrow:=HNA.out
   have HO4:=hid hown
   have ho:=(Off.refl (fun i=>bn.ownBlock=some i) wa).grown hgr (fun g hg=>hg)
   have hz4:w4.cell? ⟨z,11,none⟩=some (Value.slice An nn cn)∧z<w4.heap.size:=⟨(World.cell?_of_block (ho.block z hHeld.2 (fun e=>bZ hrow (by decide) z _ _ e HMA.out))).trans hHeld.1,Nat.lt_of_lt_of_le hHeld.2 ho.size⟩
   refine hK.out _ _ hz4 (fun hHeld=> ?_)
   clear hK hz4
   have HK4:=hid (ho.blk HKA.out (fun e=>bZ hrow (by decide) b _ _ e HKA.out))
   have HM4:=hid (ho.blk HMA.out (fun e=>bZ hrow (by decide) z _ _ e HMA.out))
   have H0:=hid (HYA.out.kept hgr (fC HYA.out hrow (by decide)))
   have H2:=hid (HQA.out.kept hgr (fC HQA.out hrow (by decide)))
   have HR4:=hid (HRA.out.trans (f_.off ho (fun i hi=>dH hrow i hi) (by have:=HB.out;have:=Blk.lt HKA.out;omega) (fun i cur fr e hi he=>by rcases he with rfl|rfl|rfl|rfl<;>exact bZ hrow (by decide) i cur fr hi)))
   clear hown hgr ho hrow HKA HMA HYA HNA HQA HRA HXA
   try dsimp only
   try simp only[ah]
   refine tk 24 9 (.pointer (some ⟨b,0,none⟩)) ?_
   refine tk 25 10 (.pointer (some ⟨b,1,none⟩)) ?_
   refine wpAnyH_ready (rs:=[11]) (by kernel_rfl) (by simp) ?_
   refine AllReadyH.cons rfl (fun K hK=> ?_) AllReadyH.nil
   rw[if_pos (by rfl)]
   have kb:w4.cell? ⟨b,1,none⟩=some bn:=Blk.cell HK4.out 1
   have fb:w4.frozen? ⟨b,1,none⟩=false:=Blk.frozen HK4.out 1
   have hset:∀u,(w4.setCell ⟨b,1,none⟩ u).cell? ⟨z,11,none⟩=some (Value.slice An nn cn)∧z<(w4.setCell ⟨b,1,none⟩ u).heap.size:=fun u=>⟨(World.cell?_of_block ((fU w4 b 1 u).block z hHeld.2 (fun e=>(Blk.noT HK4.out (by decide)) z _ _ e HM4.out))).trans hHeld.1,Nat.lt_of_lt_of_le hHeld.2 (fU w4 b 1 u).size⟩
   go_simp
   refine hK.out _ _ (hset _) (fun hHeld=> ?_)
   clear hK hset kb fb
   have ho:=fU w4 b 1 (Value.slice A4 (N.length+1) c4)
   have HK:=hid (show Blk (w4.setCell ⟨b,1,none⟩ (.slice A4 (N.length+1) c4)) b 29 #[by_,.slice A4 (N.length+1) c4,bq]from Blk.aW HK4.out 1 _)
   have HM:=hid (show aK (w4.setCell ⟨b,1,none⟩ (.slice A4 (N.length+1) c4)) z m (.slice An nn cn) (.slice Aq nq cq) (.slice Ad nd cd)from ho.blk HM4.out (fun e=>(Blk.noT HK4.out (by decide)) z _ _ e HM4.out))
   have HN:=hid (dL ho HO4.out (Blk.noT HK4.out (by decide)))
   have HY:=hid (dL ho H0.out (Blk.noT HK4.out (by decide)))
   have HQ:=hid (dL ho H2.out (Blk.noT HK4.out (by decide)))
   have HR:=hid (HR4.out.trans (f_.off ho (fun i hi=>by have hi:i=b:=hi;have:=HB.out;omega) (by have:=HB.out;have:=Blk.lt HK4.out;omega) (fun i cur fr e hi he=>by rcases he with rfl|rfl|rfl|rfl<;>exact Blk.noT HK4.out (by decide) i cur fr hi)))
   clear ho HK4 HM4 HO4 H0 H2 HR4
   clear hHeld
   try dsimp only
   try simp only[ah]
   refine wpAnyH_done (by kernel_rfl) ?_ _
   go_wp2_with fail
   go_meet
   case rel=>exact⟨_,HK.out,HM.out,HY.out,HN.out,HQ.out,HR.out⟩
  ·go_simp
   have hup:Below wd.heap.size wd (wd.alloc (.cells #[Value.slice An nn cn] 33)):=(Below.refl _ _).alloc (Nat.le_refl _) _
   have hzs:(wd.alloc (.cells #[Value.slice An nn cn] 33)).cell? ⟨z,11,none⟩=some (Value.slice An nn cn)∧z<(wd.alloc (.cells #[Value.slice An nn cn] 33)).heap.size:=⟨(hup.cell (p:=⟨z,11,none⟩) hHeld.2).trans hHeld.1,Nat.lt_of_lt_of_le hHeld.2 hup.size⟩
   refine hK.out _ _ hzs (fun hHeld=> ?_)
   clear hK hzs
   have HXA:=hid (Blk.new wd 33 #[Value.slice An nn cn])
   have HKA:=hid (Blk.below HKD.out hup (Blk.lt HKD.out))
   have HMA:=hid (Blk.below HMD.out hup (Blk.lt HMD.out))
   have HYA:=hid (aI HYD.out hup)
   have HNA:=hid (aI HND.out hup)
   have HQA:=hid (aI HQD.out hup)
   have HRA:=hid (HRD.out.trans (f_.new hup (by have:=HB.out;have:=Blk.lt HKD.out;omega)))
   have hk3:(wd.alloc (.cells #[Value.slice An nn cn] 33)).cell? ⟨b,1,none⟩=some bn:=Blk.cell HKA.out 1
   clear HKD HMD HYD HND HQD HRD hup hk2
   try dsimp only
   generalize wd.alloc (.cells #[Value.slice An nn cn] 33)=wa at HXA HKA HMA HYA HNA HQA HRA hHeld hk3⊢
   generalize wd.heap.size=g at HXA⊢
   try simp only[ah]
   refine wpAnyH_ready (rs:=[4]) (by kernel_rfl) (by simp) ?_
   refine AllReadyH.cons rfl (fun K hK=> ?_) AllReadyH.nil
   rw[if_pos (by rfl)]
   go_simp
   refine hK.out _ _ hHeld (fun hHeld=> ?_)
   clear hK hk3
   try dsimp only
   try simp only[ah]
   refine wpAnyH_ready (rs:=[8]) (by kernel_rfl) (by simp) ?_
   refine AllReadyH.cons rfl (fun K hK=> ?_) AllReadyH.nil
   rw[if_pos (by rfl)]
   refine appRow 26 33 Tryz.underlying26 zU (.tmp 19) (.tmp 22) rfl base _ N rfl HNA.out g _ (Value.slice An nn cn) rfl HXA.out rfl HL.out.2.1 (by have:=HB.out;have:=Blk.lt HKA.out;omega) ?_
   intro v4 w4 hown hgr
   rw[show(N++[(Value.slice An nn cn)]).length=N.length+1 from by rw[List.length_append];rfl]at hown
   obtain⟨A4,c4,rfl, -⟩:=aJ hown
   have hrow:=HNA.out
   have HO4:=hid hown
   have ho:=(Off.refl (fun i=>bn.ownBlock=some i) wa).grown hgr (fun g hg=>hg)
   have hz4:w4.cell? ⟨z,11,none⟩=some (Value.slice An nn cn)∧z<w4.heap.size:=⟨(World.cell?_of_block (ho.block z hHeld.2 (fun e=>bZ hrow (by decide) z _ _ e HMA.out))).trans hHeld.1,Nat.lt_of_lt_of_le hHeld.2 ho.size⟩
   refine hK.out _ _ hz4 (fun hHeld=> ?_)
   clear hK hz4
   have HK4:=hid (ho.blk HKA.out (fun e=>bZ hrow (by decide) b _ _ e HKA.out))
   have HM4:=hid (ho.blk HMA.out (fun e=>bZ hrow (by decide) z _ _ e HMA.out))
   have H0:=hid (HYA.out.kept hgr (fC HYA.out hrow (by decide)))
   have H2:=hid (HQA.out.kept hgr (fC HQA.out hrow (by decide)))
   have HR4:=hid (HRA.out.trans (f_.off ho (fun i hi=>dH hrow i hi) (by have:=HB.out;have:=Blk.lt HKA.out;omega) (fun i cur fr e hi he=>by rcases he with rfl|rfl|rfl|rfl<;>exact bZ hrow (by decide) i cur fr hi)))
   clear hown hgr ho hrow HKA HMA HYA HNA HQA HRA HXA
   try dsimp only
   try simp only[ah]
   refine tk 24 9 (.pointer (some ⟨b,0,none⟩)) ?_
   refine tk 25 10 (.pointer (some ⟨b,1,none⟩)) ?_
   refine wpAnyH_ready (rs:=[11]) (by kernel_rfl) (by simp) ?_
   refine AllReadyH.cons rfl (fun K hK=> ?_) AllReadyH.nil
   rw[if_pos (by rfl)]
   have kb:w4.cell? ⟨b,1,none⟩=some bn:=Blk.cell HK4.out 1
   have fb:w4.frozen? ⟨b,1,none⟩=false:=Blk.frozen HK4.out 1
   have hset:∀u,(w4.setCell ⟨b,1,none⟩ u).cell? ⟨z,11,none⟩=some (Value.slice An nn cn)∧z<(w4.setCell ⟨b,1,none⟩ u).heap.size:=fun u=>⟨(World.cell?_of_block ((fU w4 b 1 u).block z hHeld.2 (fun e=>(Blk.noT HK4.out (by decide)) z _ _ e HM4.out))).trans hHeld.1,Nat.lt_of_lt_of_le hHeld.2 (fU w4 b 1 u).size⟩
   go_simp
   refine hK.out _ _ (hset _) (fun hHeld=> ?_)
   clear hK hset kb fb
   have ho:=fU w4 b 1 (Value.slice A4 (N.length+1) c4)
   have HK:=hid (show Blk (w4.setCell ⟨b,1,none⟩ (.slice A4 (N.length+1) c4)) b 29 #[by_,.slice A4 (N.length+1) c4,bq]from Blk.aW HK4.out 1 _)
   have HM:=hid (show aK (w4.setCell ⟨b,1,none⟩ (.slice A4 (N.length+1) c4)) z m (.slice An nn cn) (.slice Aq nq cq) (.slice Ad nd cd)from ho.blk HM4.out (fun e=>(Blk.noT HK4.out (by decide)) z _ _ e HM4.out))
   have HN:=hid (dL ho HO4.out (Blk.noT HK4.out (by decide)))
   have HY:=hid (dL ho H0.out (Blk.noT HK4.out (by decide)))
   have HQ:=hid (dL ho H2.out (Blk.noT HK4.out (by decide)))
   have HR:=hid (HR4.out.trans (f_.off ho (fun i hi=>by have hi:i=b:=hi;have:=HB.out;omega) (by have:=HB.out;have:=Blk.lt HK4.out;omega) (fun i cur fr e hi he=>by rcases he with rfl|rfl|rfl|rfl<;>exact Blk.noT HK4.out (by decide) i cur fr hi)))
   clear ho HK4 HM4 HO4 H0 H2 HR4
   clear hHeld
   try dsimp only
   try simp only[ah]
   refine wpAnyH_done (by kernel_rfl) ?_ _
   go_wp2_with fail
   go_meet
   case rel=>exact⟨_,HK.out,HM.out,HY.out,HN.out,HQ.out,HR.out⟩
 obtain⟨bn,hk,hm,hy,hn,hq,hr⟩:=hcut
 have HK:=hid hk
 have HM:=hid hm
 have HY:=hid hy
 have HN:=hid hn
 have HQ:=hid hq
 have HR:=hid hr
 clear hk hm hy hn hq hr
 generalize wc=w2 at HK HM HY HN HQ HR⊢
 go_upto_region 3 with(fail)
 as_aux_lemma=>
  have hk2:w2.drew.cell? ⟨b,2,none⟩=some bq:=Blk.cell HK.out 2
  have hz2:w2.drew.cell? ⟨z,12,none⟩=some (Value.slice Aq nq cq):=Blk.cell HM.out 12
  have HKD:=hid (show Blk w2.drew b 29 #[by_,bn,bq]from HK.out)
  have HMD:=hid (show aK w2.drew z m (.slice An nn cn) (.slice Aq nq cq) (.slice Ad nd cd)from HM.out)
  have HYD:=hid (aI HY.out (aC w2))
  have HND:=hid (aI HN.out (aC w2))
  have HQD:=hid (aI HQ.out (aC w2))
  have HRD:=hid (HR.out.trans (f_.new (aC w2) (by have:=HR.out.b.size;have:=HSZ.out;have:=Blk.lt HM.out;have:=Blk.lt HK.out;have:=HB.out;omega)))
  clear HK HM HY HN HQ HR
  refine wp_region_held_drew (S:=fun wx=>wx.cell? ⟨z,12,none⟩=some (Value.slice Aq nq cq)∧z<wx.heap.size) (by kernel_rfl) ⟨hz2,Blk.lt HMD.out⟩ (fun hHeld=> ?_)
  generalize w2.drew=wd at hHeld hk2 hz2 HKD HMD HYD HND HQD HRD⊢
  clear hz2
  refine tk 26 0 (.pointer (some ⟨b,0,none⟩)) ?_
  refine tk 27 1 (.pointer (some ⟨b,0,none⟩)) ?_
  refine tk 28 2 (.pointer (some ⟨b,0,none⟩)) ?_
  refine tk 29 3 (.pointer (some ⟨b,2,none⟩)) ?_
  refine tk 31 5 (.pointer (some ⟨z,12,none⟩)) ?_
  refine tk2 32 6 (Value.slice Aq nq cq) rfl (fun wq hSw=>by have kz:=hSw.1;go_simp) ?_
  refine wpAnyH_ready (rs:=[4,7]) (by kernel_rfl) (by simp) ?_
  refine AllReadyH.cons rfl (fun K hK=> ?_) (AllReadyH.cons rfl (fun K hK=> ?_) AllReadyH.nil)
  all_goals(rw[if_pos (by rfl)])
  ·go_simp
   refine hK.out _ _ hHeld (fun hHeld=> ?_)
   clear hK
   try dsimp only
   try simp only[ah]
   refine wpAnyH_ready (rs:=[7]) (by kernel_rfl) (by simp) ?_
   refine AllReadyH.cons rfl (fun K hK=> ?_) AllReadyH.nil
   rw[if_pos (by rfl)]
   go_simp
   have hup:Below wd.heap.size wd (wd.alloc (.cells #[Value.slice Aq nq cq] 34)):=(Below.refl _ _).alloc (Nat.le_refl _) _
   have hzs:(wd.alloc (.cells #[Value.slice Aq nq cq] 34)).cell? ⟨z,12,none⟩=some (Value.slice Aq nq cq)∧z<(wd.alloc (.cells #[Value.slice Aq nq cq] 34)).heap.size:=⟨(hup.cell (p:=⟨z,12,none⟩) hHeld.2).trans hHeld.1,Nat.lt_of_lt_of_le hHeld.2 hup.size⟩
   refine hK.out _ _ hzs (fun hHeld=> ?_)
   clear hK hzs
   have HXA:=hid (Blk.new wd 34 #[Value.slice Aq nq cq])
   have HKA:=hid (Blk.below HKD.out hup (Blk.lt HKD.out))
   have HMA:=hid (Blk.below HMD.out hup (Blk.lt HMD.out))
   have HYA:=hid (aI HYD.out hup)
   have HNA:=hid (aI HND.out hup)
   have HQA:=hid (aI HQD.out hup)
   have HRA:=hid (HRD.out.trans (f_.new hup (by have:=HB.out;have:=Blk.lt HKD.out;omega)))
   have hk3:(wd.alloc (.cells #[Value.slice Aq nq cq] 34)).cell? ⟨b,2,none⟩=some bq:=Blk.cell HKA.out 2
   clear HKD HMD HYD HND HQD HRD hup hk2
   try dsimp only
   generalize wd.alloc (.cells #[Value.slice Aq nq cq] 34)=wa at HXA HKA HMA HYA HNA HQA HRA hHeld hk3⊢
   generalize wd.heap.size=g at HXA⊢
   try simp only[ah]
   clear hk3
   refine wpAnyH_ready (rs:=[8]) (by kernel_rfl) (by simp) ?_
   refine AllReadyH.cons rfl (fun K hK=> ?_) AllReadyH.nil
   rw[if_pos (by rfl)]
   refine appRow 27 34 Tryz.underlying27 zV (.tmp 30) (.tmp 33) rfl base _ Q rfl HQA.out g _ (Value.slice Aq nq cq) rfl HXA.out rfl HL.out.2.2 (by have:=HB.out;have:=Blk.lt HKA.out;omega) ?_
   intro v4 w4 hown hgr
   rw[show(Q++[(Value.slice Aq nq cq)]).length=Q.length+1 from by rw[List.length_append];rfl]at hown
   obtain⟨A4,c4,rfl, -⟩:=aJ hown
   have hrow:=HQA.out
   have HO4:=hid hown
   have ho:=(Off.refl (fun i=>bq.ownBlock=some i) wa).grown hgr (fun g hg=>hg)
   have hz4:w4.cell? ⟨z,12,none⟩=some (Value.slice Aq nq cq)∧z<w4.heap.size:=⟨(World.cell?_of_block (ho.block z hHeld.2 (fun e=>bZ hrow (by decide) z _ _ e HMA.out))).trans hHeld.1,Nat.lt_of_lt_of_le hHeld.2 ho.size⟩
   refine hK.out _ _ hz4 (fun hHeld=> ?_)
   clear hK hz4
   have HK4:=hid (ho.blk HKA.out (fun e=>bZ hrow (by decide) b _ _ e HKA.out))
   have HM4:=hid (ho.blk HMA.out (fun e=>bZ hrow (by decide) z _ _ e HMA.out))
   have H0:=hid (HYA.out.kept hgr (fC HYA.out hrow (by decide)))
   have H1:=hid (HNA.out.kept hgr (fC HNA.out hrow (by decide)))
   have HR4:=hid (HRA.out.trans (f_.off ho (fun i hi=>dH hrow i hi) (by have:=HB.out;have:=Blk.lt HKA.out;omega) (fun i cur fr e hi he=>by rcases he with rfl|rfl|rfl|rfl<;>exact bZ hrow (by decide) i cur fr hi)))
   clear hown hgr ho hrow HKA HMA HYA HNA HQA HRA HXA
   try dsimp only
   try simp only[ah]
   refine tk 35 9 (.pointer (some ⟨b,0,none⟩)) ?_
   refine tk 36 10 (.pointer (some ⟨b,2,none⟩)) ?_
   refine wpAnyH_ready (rs:=[11]) (by kernel_rfl) (by simp) ?_
   refine AllReadyH.cons rfl (fun K hK=> ?_) AllReadyH.nil
   rw[if_pos (by rfl)]
   have kb:w4.cell? ⟨b,2,none⟩=some bq:=Blk.cell HK4.out 2
   have fb:w4.frozen? ⟨b,2,none⟩=false:=Blk.frozen HK4.out 2
   have hset:∀u,(w4.setCell ⟨b,2,none⟩ u).cell? ⟨z,12,none⟩=some (Value.slice Aq nq cq)∧z<(w4.setCell ⟨b,2,none⟩ u).heap.size:=fun u=>⟨(World.cell?_of_block ((fU w4 b 2 u).block z hHeld.2 (fun e=>(Blk.noT HK4.out (by decide)) z _ _ e HM4.out))).trans hHeld.1,Nat.lt_of_lt_of_le hHeld.2 (fU w4 b 2 u).size⟩
   go_simp
   refine hK.out _ _ (hset _) (fun hHeld=> ?_)
   clear hK hset kb fb
   have ho:=fU w4 b 2 (Value.slice A4 (Q.length+1) c4)
   have HK:=hid (show Blk (w4.setCell ⟨b,2,none⟩ (.slice A4 (Q.length+1) c4)) b 29 #[by_,bn,.slice A4 (Q.length+1) c4]from Blk.aW HK4.out 2 _)
   have HM:=hid (show aK (w4.setCell ⟨b,2,none⟩ (.slice A4 (Q.length+1) c4)) z m (.slice An nn cn) (.slice Aq nq cq) (.slice Ad nd cd)from ho.blk HM4.out (fun e=>(Blk.noT HK4.out (by decide)) z _ _ e HM4.out))
   have HQ:=hid (dL ho HO4.out (Blk.noT HK4.out (by decide)))
   have HY:=hid (dL ho H0.out (Blk.noT HK4.out (by decide)))
   have HN:=hid (dL ho H1.out (Blk.noT HK4.out (by decide)))
   have HR:=hid (HR4.out.trans (f_.off ho (fun i hi=>by have hi:i=b:=hi;have:=HB.out;omega) (by have:=HB.out;have:=Blk.lt HK4.out;omega) (fun i cur fr e hi he=>by rcases he with rfl|rfl|rfl|rfl<;>exact Blk.noT HK4.out (by decide) i cur fr hi)))
   clear ho HK4 HM4 HO4 H0 H1 HR4
   clear hHeld
   try dsimp only
   try simp only[ah]
   refine wpAnyH_done (by kernel_rfl) ?_ _
   go_wp2_with fail
   go_end0
   exact⟨rfl,⟨_,_,_,HK.out,by rw[List.length_append];exact HY.out,by rw[List.length_append];exact HN.out,by rw[List.length_append];exact HQ.out⟩,HR.out⟩
  ·go_simp
   have hup:Below wd.heap.size wd (wd.alloc (.cells #[Value.slice Aq nq cq] 34)):=(Below.refl _ _).alloc (Nat.le_refl _) _
   have hzs:(wd.alloc (.cells #[Value.slice Aq nq cq] 34)).cell? ⟨z,12,none⟩=some (Value.slice Aq nq cq)∧z<(wd.alloc (.cells #[Value.slice Aq nq cq] 34)).heap.size:=⟨(hup.cell (p:=⟨z,12,none⟩) hHeld.2).trans hHeld.1,Nat.lt_of_lt_of_le hHeld.2 hup.size⟩
   refine hK.out _ _ hzs (fun hHeld=> ?_)
   clear hK hzs
   have HXA:=hid (Blk.new wd 34 #[Value.slice Aq nq cq])
   have HKA:=hid (Blk.below HKD.out hup (Blk.lt HKD.out))
   have HMA:=hid (Blk.below HMD.out hup (Blk.lt HMD.out))
   have HYA:=hid (aI HYD.out hup)
   have HNA:=hid (aI HND.out hup)
   have HQA:=hid (aI HQD.out hup)
   have HRA:=hid (HRD.out.trans (f_.new hup (by have:=HB.out;have:=Blk.lt HKD.out;omega)))
   have hk3:(wd.alloc (.cells #[Value.slice Aq nq cq] 34)).cell? ⟨b,2,none⟩=some bq:=Blk.cell HKA.out 2
   clear HKD HMD HYD HND HQD HRD hup hk2
   try dsimp only
   generalize wd.alloc (.cells #[Value.slice Aq nq cq] 34)=wa at HXA HKA HMA HYA HNA HQA HRA hHeld hk3⊢
   generalize wd.heap.size=g at HXA⊢
   try simp only[ah]
   refine wpAnyH_ready (rs:=[4]) (by kernel_rfl) (by simp) ?_
   refine AllReadyH.cons rfl (fun K hK=> ?_) AllReadyH.nil
   rw[if_pos (by rfl)]
   go_simp
   refine hK.out _ _ hHeld (fun hHeld=> ?_)
   clear hK hk3
   try dsimp only
   try simp only[ah]
   refine wpAnyH_ready (rs:=[8]) (by kernel_rfl) (by simp) ?_
   refine AllReadyH.cons rfl (fun K hK=> ?_) AllReadyH.nil
   rw[if_pos (by rfl)]
   refine appRow 27 34 Tryz.underlying27 zV (.tmp 30) (.tmp 33) rfl base _ Q rfl HQA.out g _ (Value.slice Aq nq cq) rfl HXA.out rfl HL.out.2.2 (by have:=HB.out;have:=Blk.lt HKA.out;omega) ?_
   intro v4 w4 hown hgr
   rw[show(Q++[(Value.slice Aq nq cq)]).length=Q.length+1 from by rw[List.length_append];rfl]at hown
   obtain⟨A4,c4,rfl, -⟩:=aJ hown
   have hrow:=HQA.out
   have HO4:=hid hown
   have ho:=(Off.refl (fun i=>bq.ownBlock=some i) wa).grown hgr (fun g hg=>hg)
   have hz4:w4.cell? ⟨z,12,none⟩=some (Value.slice Aq nq cq)∧z<w4.heap.size:=⟨(World.cell?_of_block (ho.block z hHeld.2 (fun e=>bZ hrow (by decide) z _ _ e HMA.out))).trans hHeld.1,Nat.lt_of_lt_of_le hHeld.2 ho.size⟩
   refine hK.out _ _ hz4 (fun hHeld=> ?_)
   clear hK hz4
   have HK4:=hid (ho.blk HKA.out (fun e=>bZ hrow (by decide) b _ _ e HKA.out))
   have HM4:=hid (ho.blk HMA.out (fun e=>bZ hrow (by decide) z _ _ e HMA.out))
   have H0:=hid (HYA.out.kept hgr (fC HYA.out hrow (by decide)))
   have H1:=hid (HNA.out.kept hgr (fC HNA.out hrow (by decide)))
   have HR4:=hid (HRA.out.trans (f_.off ho (fun i hi=>dH hrow i hi) (by have:=HB.out;have:=Blk.lt HKA.out;omega) (fun i cur fr e hi he=>by rcases he with rfl|rfl|rfl|rfl<;>exact bZ hrow (by decide) i cur fr hi)))
   clear hown hgr ho hrow HKA HMA HYA HNA HQA HRA HXA
   try dsimp only
   try simp only[ah]
   refine tk 35 9 (.pointer (some ⟨b,0,none⟩)) ?_
   refine tk 36 10 (.pointer (some ⟨b,2,none⟩)) ?_
   refine wpAnyH_ready (rs:=[11]) (by kernel_rfl) (by simp) ?_
   refine AllReadyH.cons rfl (fun K hK=> ?_) AllReadyH.nil
   rw[if_pos (by rfl)]
   have kb:w4.cell? ⟨b,2,none⟩=some bq:=Blk.cell HK4.out 2
   have fb:w4.frozen? ⟨b,2,none⟩=false:=Blk.frozen HK4.out 2
   have hset:∀u,(w4.setCell ⟨b,2,none⟩ u).cell? ⟨z,12,none⟩=some (Value.slice Aq nq cq)∧z<(w4.setCell ⟨b,2,none⟩ u).heap.size:=fun u=>⟨(World.cell?_of_block ((fU w4 b 2 u).block z hHeld.2 (fun e=>(Blk.noT HK4.out (by decide)) z _ _ e HM4.out))).trans hHeld.1,Nat.lt_of_lt_of_le hHeld.2 (fU w4 b 2 u).size⟩
   go_simp
   refine hK.out _ _ (hset _) (fun hHeld=> ?_)
   clear hK hset kb fb
   have ho:=fU w4 b 2 (Value.slice A4 (Q.length+1) c4)
   have HK:=hid (show Blk (w4.setCell ⟨b,2,none⟩ (.slice A4 (Q.length+1) c4)) b 29 #[by_,bn,.slice A4 (Q.length+1) c4]from Blk.aW HK4.out 2 _)
   have HM:=hid (show aK (w4.setCell ⟨b,2,none⟩ (.slice A4 (Q.length+1) c4)) z m (.slice An nn cn) (.slice Aq nq cq) (.slice Ad nd cd)from ho.blk HM4.out (fun e=>(Blk.noT HK4.out (by decide)) z _ _ e HM4.out))
   have HQ:=hid (dL ho HO4.out (Blk.noT HK4.out (by decide)))
   have HY:=hid (dL ho H0.out (Blk.noT HK4.out (by decide)))
   have HN:=hid (dL ho H1.out (Blk.noT HK4.out (by decide)))
   have HR:=hid (HR4.out.trans (f_.off ho (fun i hi=>by have hi:i=b:=hi;have:=HB.out;omega) (by have:=HB.out;have:=Blk.lt HK4.out;omega) (fun i cur fr e hi he=>by rcases he with rfl|rfl|rfl|rfl<;>exact Blk.noT HK4.out (by decide) i cur fr hi)))
   clear ho HK4 HM4 HO4 H0 H1 HR4
   clear hHeld
   try dsimp only
   try simp only[ah]
   refine wpAnyH_done (by kernel_rfl) ?_ _
   go_wp2_with fail
   go_end0
   exact⟨rfl,⟨_,_,_,HK.out,by rw[List.length_append];exact HY.out,by rw[List.length_append];exact HN.out,by rw[List.length_append];exact HQ.out⟩,HR.out⟩
end Go.Proofs.YtkblmloobkiloaaGreatDoor
