/-
  MWG: what the laws of package msg need of them.
-/
import Derived.Test.YtkblmloobkiloaaGreatDoorK00
import Derived.Test.YtkblmloobkiloaaGreatDoorK19
namespace Go.Proofs.YtkblmloobkiloaaGreatDoor
open Go.Lib (hid)
open Go.RowKit
theorem aei{w:World}{op:Oper}{a:Act}{K:Act→World→Prop}{Q:Exit→Act→World→Prop}(s x:Operand)(ho:op.op= .call {callee:= .builtin .append,args:= #[s,x],argTypes:= #[33,33]})
  (base:Nat) (v:Value) (l:List ByteArray) (hs:a.eval s=v) (hown:w.ownsRow base 9 1 v l.length (h_ l)) (B:Nat) (A:Option Addr) (c:Nat) (news:List ByteArray) (hx:a.eval x= .slice A news.length c) (hr:Reads w B 1 A news.length (h_ news))
  (hlen:l.length+news.length≤8796093022207) (hbase:base≤w.heap.size)
  (h:∀v' w',w'.ownsRow base 9 1 v' (l++news).length (h_ (l++news))→w.grownBy w' v.ownBlock→K (a.put op.dst v') w'):op.wp Tryz.prog a w K Q:=by
 obtain⟨i0,hi0,hz0,hz1,hz2⟩:=info_parts Gq
 refine qw w s x _ ho base 9 i0 _ 1 16 Tryz.underlying33 hi0 hz0 hz1 hz2 rfl (by omega) v l.length (h_ l) hs hown B A news.length c (h_ news) hx hr (JX news) (by unfold maxLen;omega) (by omega) hbase ?_
 intro v' w' h1 h2 h3
 refine h v' w' ?_ h2
 rw[List.length_append,h_,List.map_append]
 exact h1
theorem aej{w:World}{op:Oper}{a:Act}{K:Act→World→Prop}{Q:Exit→Act→World→Prop}(s x:Operand)(ho:op.op= .call {callee:= .builtin .append,args:= #[s,x],argTypes:= #[34,34]})
  (base:Nat) (v:Value) (l:List Qd) (hs:a.eval s=v) (hown:w.ownsRow base 37 3 v l.length (ng l)) (B:Nat) (A:Option Addr) (c:Nat) (news:List Qd) (hx:a.eval x= .slice A news.length c) (hr:Reads w B 3 A news.length (ng news))
  (hlen:l.length+news.length≤8796093022207) (hbase:base≤w.heap.size)
  (h:∀v' w',w'.ownsRow base 37 3 v' (l++news).length (ng (l++news))→w.grownBy w' v.ownBlock→K (a.put op.dst v') w'):op.wp Tryz.prog a w K Q:=by
 obtain⟨i0,hi0,hz0,hz1,hz2⟩:=info_parts BR
 refine qw w s x _ ho base 37 i0 _ 3 16 Tryz.underlying34 hi0 hz0 hz1 hz2 rfl (by omega) v l.length (ng l) hs hown B A news.length c (ng news) hx hr (JY news) (by unfold maxLen;omega) (by omega) hbase ?_
 intro v' w' h1 h2 h3
 refine h v' w' ?_ h2
 rw[List.length_append,ng,List.flatMap_append]
 exact h1
abbrev ab_(m:Mg)(vn vq vd sn sq sd:Value):List Value:=aF m vn vq vd++[sn,sq,sd]
def acH(w:World)(x:Nat)(m:Mg)(vn vq vd sn sq sd:Value):Prop:=Blk w x 65 (ab_ m vn vq vd sn sq sd).toArray
structure LB(w:World)(x base:Nat)(m:Mg)(vn vq vd sn sq sd:Value)(N:List ByteArray)(Q:List Qd)(D:List UInt8):Prop where
 k:acH w x m vn vq vd sn sq sd
 n:w.ownsRow base 9 1 sn N.length (h_ N)
 q:w.ownsRow base 37 3 sq Q.length (ng Q)
 d:w.ownsRow base 5 1 sd D.length (aX D)
section
variable {w w':World} {x base:Nat} {m:Mg} {vn vq vd sn sq sd v:Value} {N N':List ByteArray} {Q Q':List Qd} {D D':List UInt8}
theorem LB.new(h:LB w x base m vn vq vd sn sq sd N Q D)(hb:Below w.heap.size w w'):LB w' x base m vn vq vd sn sq sd N Q D:=
 ⟨Blk.below h.k hb (Blk.lt h.k),aI h.n hb,aI h.q hb,aI h.d hb⟩
theorem adr(m:Mg)(vn vq vd sn sq sd v:Value):(ab_ m vn vq vd sn sq sd).toArray.setIfInBounds 36 v=(ab_ m vn vq vd v sq sd).toArray:=by kernel_rfl
theorem ads(m:Mg)(vn vq vd sn sq sd v:Value):(ab_ m vn vq vd sn sq sd).toArray.setIfInBounds 37 v=(ab_ m vn vq vd sn v sd).toArray:=by kernel_rfl
theorem adt(m:Mg)(vn vq vd sn sq sd v:Value):(ab_ m vn vq vd sn sq sd).toArray.setIfInBounds 38 v=(ab_ m vn vq vd sn sq v).toArray:=by kernel_rfl
theorem adv(m:Mg)(vn vq vd sn sq sd v:Value):(ab_ m vn vq vd sn sq sd).toArray.setIfInBounds 11 v=(ab_ m v vq vd sn sq sd).toArray:=by kernel_rfl
theorem adw(m:Mg)(vn vq vd sn sq sd v:Value):(ab_ m vn vq vd sn sq sd).toArray.setIfInBounds 12 v=(ab_ m vn v vd sn sq sd).toArray:=by kernel_rfl
theorem adx(m:Mg)(vn vq vd sn sq sd v:Value):(ab_ m vn vq vd sn sq sd).toArray.setIfInBounds 22 v=(ab_ m vn vq v sn sq sd).toArray:=by kernel_rfl
theorem acf{e:TypeId}{s n:Nat}{u:Value}{xs:List Value}{o:Nat}(hx:x<base)(h:w.ownsRow base e s u n xs):(w.setCell ⟨x,o,none⟩ v).ownsRow base e s u n xs:=
 jl h (fun he=>absurd (dH h _ he) (by omega)) (fun k hk hkx=>fD _ _ _ _ k hk hkx)
theorem LB.n_(h:LB w x base m vn vq vd sn sq sd N Q D)(hx:x<base)(hk:acH w' x m vn vq vd sn sq sd)(hn:w'.ownsRow base 9 1 v N'.length (h_ N'))(hq:w'.ownsRow base 37 3 sq Q.length (ng Q))(hd:w'.ownsRow base 5 1 sd D.length (aX D)):LB (w'.setCell ⟨x,36,none⟩ v) x base m vn vq vd v sq sd N' Q D:=
 ⟨by have h:=Blk.aW hk 36 v;rw[adr]at h;exact h,acf hx hn,acf hx hq,acf hx hd⟩
theorem LB.q_(h:LB w x base m vn vq vd sn sq sd N Q D)(hx:x<base)(hk:acH w' x m vn vq vd sn sq sd)(hn:w'.ownsRow base 9 1 sn N.length (h_ N))(hq:w'.ownsRow base 37 3 v Q'.length (ng Q'))(hd:w'.ownsRow base 5 1 sd D.length (aX D)):LB (w'.setCell ⟨x,37,none⟩ v) x base m vn vq vd sn v sd N Q' D:=
 ⟨by have h:=Blk.aW hk 37 v;rw[ads]at h;exact h,acf hx hn,acf hx hq,acf hx hd⟩
theorem LB.d_(h:LB w x base m vn vq vd sn sq sd N Q D)(hx:x<base)(hk:acH w' x m vn vq vd sn sq sd)(hn:w'.ownsRow base 9 1 sn N.length (h_ N))(hq:w'.ownsRow base 37 3 sq Q.length (ng Q))(hd:w'.ownsRow base 5 1 v D'.length (aX D')):LB (w'.setCell ⟨x,38,none⟩ v) x base m vn vq vd sn sq v N Q D':=
 ⟨by have h:=Blk.aW hk 38 v;rw[adt]at h;exact h,acf hx hn,acf hx hq,acf hx hd⟩
end
theorem ab4{b c:World}{base base' s s' n n':Nat}{e e':TypeId}{v v':Value}{xs xs':List Value}(hr:b.ownsRow base e s v n xs)(hg:b.grownBy c v.ownBlock)(h:b.ownsRow base' e' s' v' n' xs')(ht:e≠e'):c.ownsRow base' e' s' v' n' xs':=
 dL ((Off.refl (fun i=>v.ownBlock=some i) b).grown hg (fun g hg=>hg)) h fun i cur fr hi=>bZ hr ht i cur fr hi
theorem acj{b c:World}{base s n g:Nat}{e t:TypeId}{v:Value}{xs:List Value}{cs:Array Value}(hr:b.ownsRow base e s v n xs)(hg:b.grownBy c v.ownBlock)(h:Blk b g t cs)(ht:e≠t):Blk c g t cs:=
 ((Off.refl (fun i=>v.ownBlock=some i) b).grown hg (fun g hg=>hg)).blk h (fun hi=>bZ hr ht g _ _ hi h)
def ab2:ByteArray:=⟨#[108,101,110,116]⟩
def ab3:Qd:=⟨88,88,88⟩
def marks{α:Type}(x:α)(k:Nat):List α:=List.replicate k x
theorem acC{α:Type}(l:List α)(x:α)(k:Nat):l++marks x k++[x]=l++marks x (k+1):=by
 unfold marks
 rw[List.append_assoc,←List.replicate_succ']
def acs(w:World)(x:Nat)(m:Mg):Prop:=∃gn cn gq cq gd cd:Nat,LB w x (x+1) m (.slice (some ⟨gn,0,none⟩) m.names.length cn) (.slice (some ⟨gq,0,none⟩) m.aV.length cq) (.slice (some ⟨gd,0,none⟩) m.data.length cd) (.slice (some ⟨gn,0,none⟩) (m.names.length+8) cn) (.slice (some ⟨gq,0,none⟩) (m.aV.length+8) cq) (.slice (some ⟨gd,0,none⟩) (m.data.length+8) cd) (m.names++marks ab2 8) (m.aV++marks ab3 8) (m.data++marks 238 8)
theorem ac2{w:World}{base s n:Nat}{e:TypeId}{v:Value}{xs:List Value}(h:w.ownsRow base e s v n xs)(hn:0<n):∃g c,v= .slice (some ⟨g,0,none⟩) n c∧n≤c∧c≤maxLen∧base≤g:=by
 rcases h.2 with⟨-,h0⟩|⟨g,cap,cur,rfl,hb,hg,hc,hm, -⟩
 ·omega
 ·exact⟨g,cap,rfl,hc,hm,hb⟩
set_option maxRecDepth 100000 in
set_option maxHeartbeats 12800000 in
theorem adz(m:Mg)(vn vq vd:Value)(w:World)(hl:Lists w w.heap.size m vn vq vd)(hs:m.small):
  Calls Tryz.prog 26 #[iM m vn vq vd] w fun e w'=>∃x,e= .returned (.pointer (some ⟨x,0,none⟩))∧w.heap.size≤x∧Below w.heap.size w w'∧acs w' x m:=by
 have hup:Below w.heap.size w (w.alloc (.cells (aF m vn vq vd).toArray 41)):=(Below.refl _ _).alloc (Nat.le_refl _) _
 have HU:=hid hup
 have HM:=hid (show aK (w.alloc (.cells (aF m vn vq vd).toArray 41)) w.heap.size m vn vq vd from Blk.new w _ _)
 have HL:=hid (hl.below hup)
 have HN:=hid (And.intro hs.names (And.intro hs.aV hs.data))
 obtain⟨An,cn,rfl, -⟩:=hl.n
 obtain⟨Aq,cq,rfl, -⟩:=hl.q
 obtain⟨Ad,cd,rfl, -⟩:=hl.d
 clear hup hl hs
 go_enter Tryz.func26,Tryz.ntmps26
 go_upto_region 1 with(fail)
 change Code.wp _ _ _ _ (w.alloc (.cells (aF m (.slice An m.names.length cn) (.slice Aq m.aV.length cq) (.slice Ad m.data.length cd)).toArray 41))
 generalize w.alloc (.cells (aF m (.slice An m.names.length cn) (.slice Aq m.aV.length cq) (.slice Ad m.data.length cd)).toArray 41)=w1 at HU HM HL⊢
 generalize hz:w.heap.size=z at HU HM HL⊢
 have HZZ:=hid hz;clear hz
 have HUX:=hid (HU.out.alloc (show z≤w1.heap.size from Nat.le_of_lt (Blk.lt HM.out)) (.cells (ab_ m (.slice An m.names.length cn) (.slice Aq m.aV.length cq) (.slice Ad m.data.length cd) (.slice none 0 0) (.slice none 0 0) (.slice none 0 0)).toArray 65))
 have HMX:=hid (Blk.alloc HM.out (.cells (ab_ m (.slice An m.names.length cn) (.slice Aq m.aV.length cq) (.slice Ad m.data.length cd) (.slice none 0 0) (.slice none 0 0) (.slice none 0 0)).toArray 65))
 have HB0:=hid (show LB (w1.alloc (.cells (ab_ m (.slice An m.names.length cn) (.slice Aq m.aV.length cq) (.slice Ad m.data.length cd) (.slice none 0 0) (.slice none 0 0) (.slice none 0 0)).toArray 65)) w1.heap.size (w1.heap.size+1) m (.slice An m.names.length cn) (.slice Aq m.aV.length cq) (.slice Ad m.data.length cd) (.slice none 0 0) (.slice none 0 0) (.slice none 0 0) [] [] []from⟨Blk.new w1 _ _,dS _ _ _ _,dS _ _ _ _,dS _ _ _ _⟩)
 have HLX:=hid (HL.out.below ((Below.refl z w1).alloc (Nat.le_of_lt (Blk.lt HM.out)) (.cells (ab_ m (.slice An m.names.length cn) (.slice Aq m.aV.length cq) (.slice Ad m.data.length cd) (.slice none 0 0) (.slice none 0 0) (.slice none 0 0)).toArray 65)))
 have HZX:=hid (show z<w1.heap.size from Blk.lt HM.out)
 have HSX:=hid (World.size_alloc w1 (.cells (ab_ m (.slice An m.names.length cn) (.slice Aq m.aV.length cq) (.slice Ad m.data.length cd) (.slice none 0 0) (.slice none 0 0) (.slice none 0 0)).toArray 65))
 go_upto_region 2 with(refine wlw HM.out 0 (aF m (.slice An m.names.length cn) (.slice Aq m.aV.length cq) (.slice Ad m.data.length cd)) rfl rfl _ _ rfl rfl _ Tryz.underlying41 rfl aB ?_)
 change Code.wp _ _ _ _ (w1.alloc (.cells (ab_ m (.slice An m.names.length cn) (.slice Aq m.aV.length cq) (.slice Ad m.data.length cd) (.slice none 0 0) (.slice none 0 0) (.slice none 0 0)).toArray 65))
 generalize w1.alloc (.cells (ab_ m (.slice An m.names.length cn) (.slice Aq m.aV.length cq) (.slice Ad m.data.length cd) (.slice none 0 0) (.slice none 0 0) (.slice none 0 0)).toArray 65)=w2 at HUX HMX HB0 HLX HSX⊢
 generalize w1.heap.size=x at HB0 HZX HSX⊢
 clear HM HU HL
 have HXS:=hid (show x+1≤w2.heap.size from Nat.le_of_eq HSX.out.symm)
 clear HSX
 have HX0:=hid (Below.refl x w2)
 go_upto_region 2 with(fail)
 try simp only[Act.put]
 have HDX:=hid (HB0.out.new (aC w2))
 have HDS:=hid (show x+1≤w2.drew.heap.size from HXS.out)
 have HCC:=hid (show∀wx:World,Below x w2 wx→wx.cell? ⟨z,11,none⟩=some (.slice An m.names.length cn)from fun wx h=>(h.cell (p:=⟨z,11,none⟩) HZX.out).trans (Blk.cell HMX.out 11))
 refine wp_region_held_drew (S:=fun wx=>Below x w2 wx) (by kernel_rfl) HX0.out.drew (fun hHeld=> ?_)
 generalize w2.drew=wd at hHeld HDX HDS⊢
 refine tk 8 0 (.pointer (some ⟨x,0,none⟩)) ?_
 refine tk 9 1 (.pointer (some ⟨x,0,none⟩)) ?_
 refine tk 10 2 (.pointer (some ⟨x,0,none⟩)) ?_
 refine tk 11 3 (.pointer (some ⟨x,36,none⟩)) ?_
 refine tk 13 5 (.pointer (some ⟨z,11,none⟩)) ?_
 refine tk2 14 6 (.slice An m.names.length cn) rfl (fun wq hSw=>by have k:=HCC.out _ hSw;go_simp) ?_
 refine wpAnyH_ready (rs:=[4]) (by kernel_rfl) (by simp) ?_
 refine AllReadyH.cons rfl (fun K hK=> ?_) AllReadyH.nil
 rw[if_pos (by rfl)]
 have k:wd.cell? ⟨x,36,none⟩=some (.slice none 0 0):=Blk.cell HDX.out.k 36
 go_simp
 refine hK.out _ _ hHeld (fun hHeld=> ?_)
 clear hK k
 try simp only[ah]
 refine wpAnyH_ready (rs:=[7]) (by kernel_rfl) (by simp) ?_
 refine AllReadyH.cons rfl (fun K hK=> ?_) AllReadyH.nil
 rw[if_pos (by rfl)]
 obtain⟨_,_,e0, -, -,hrd⟩:=(HLX.out.below (hHeld.mono (Nat.le_of_lt HZX.out))).n
 injection e0 with e1 e2 e3
 subst e1
 refine aei (.tmp 12) (.tmp 14) rfl (x+1) _ [] rfl HDX.out.n z _ cn m.names rfl hrd (by have:=HN.out;simp only[List.length_nil];omega) HDS.out ?_
 clear hrd e2 e3
 intro s0 w4 hown hgr
 have hown:w4.ownsRow (x+1) 9 1 s0 m.names.length (h_ m.names):=hown
 obtain⟨snA,snc,rfl, -⟩:=aJ hown
 have HO4:=hid hown
 have HG4:=hid (hHeld.grown hgr (Nat.le_trans (Nat.le_succ x) HDS.out) (fun g hg=>Nat.le_trans (Nat.le_succ x) (dH HDX.out.n g hg)))
 have HK4:=hid (show acH w4 x m (.slice An m.names.length cn) (.slice Aq m.aV.length cq) (.slice Ad m.data.length cd) (.slice none 0 0) (.slice none 0 0) (.slice none 0 0)from acj HDX.out.n hgr HDX.out.k (by decide))
 have HRq:=hid (ab4 HDX.out.n hgr HDX.out.q (by decide))
 have HRd:=hid (ab4 HDX.out.n hgr HDX.out.d (by decide))
 have HS4:=hid (Nat.le_trans HDS.out ((Off.refl (fun i=>(.slice none 0 0:Value).ownBlock=some i) wd).grown hgr (fun g hg=>hg)).size)
 clear hHeld hown hgr
 refine hK.out _ _ HG4.out (fun hHeld=> ?_)
 clear hK hHeld
 try simp only[ah]
 refine tk 16 8 (.pointer (some ⟨x,0,none⟩)) ?_
 refine tk 17 9 (.pointer (some ⟨x,36,none⟩)) ?_
 refine wpAnyH_ready (rs:=[10]) (by kernel_rfl) (by simp) ?_
 refine AllReadyH.cons rfl (fun K hK=> ?_) AllReadyH.nil
 rw[if_pos (by rfl)]
 have k:w4.cell? ⟨x,36,none⟩=some (.slice none 0 0):=Blk.cell HK4.out 36
 have z1:w4.frozen? ⟨x,36,none⟩=false:=Blk.frozen HK4.out 36
 go_simp
 have aeQ:=hid (LB.n_ HDX.out (Nat.lt_succ_self x) HK4.out HO4.out HRq.out HRd.out)
 have aew:=hid (show Below x w2 (w4.setCell ⟨x,36,none⟩ (.slice snA m.names.length snc))from HG4.out.setCell (Nat.le_refl _) _)
 have aeR:=hid (show x+1≤(w4.setCell ⟨x,36,none⟩ (.slice snA m.names.length snc)).heap.size from by rw[World.size_setCell];exact HS4.out)
 refine hK.out _ (w4.setCell ⟨x,36,none⟩ (.slice snA m.names.length snc)) aew.out (fun hHeld=> ?_)
 clear hK k z1 hHeld
 try simp only[ah]
 refine wpAnyH_done (by kernel_rfl) ?_ _
 clear HDX HDS HCC HO4 HG4 HK4 HS4 HRq HRd
 generalize w4.setCell ⟨x,36,none⟩ (.slice snA m.names.length snc)=w3_ at aeQ aew aeR⊢
 go_upto_region 3 with(fail)
 try simp only[Act.put]
 have HDX:=hid (aeQ.out.new (aC w3_))
 have HDS:=hid (show x+1≤w3_.drew.heap.size from aeR.out)
 have HCC:=hid (show∀wx:World,Below x w2 wx→wx.cell? ⟨z,12,none⟩=some (.slice Aq m.aV.length cq)from fun wx h=>(h.cell (p:=⟨z,12,none⟩) HZX.out).trans (Blk.cell HMX.out 12))
 refine wp_region_held_drew (S:=fun wx=>Below x w2 wx) (by kernel_rfl) aew.out.drew (fun hHeld=> ?_)
 generalize w3_.drew=wd at hHeld HDX HDS⊢
 refine tk 18 0 (.pointer (some ⟨x,0,none⟩)) ?_
 refine tk 19 1 (.pointer (some ⟨x,0,none⟩)) ?_
 refine tk 20 2 (.pointer (some ⟨x,0,none⟩)) ?_
 refine tk 21 3 (.pointer (some ⟨x,37,none⟩)) ?_
 refine tk 23 5 (.pointer (some ⟨z,12,none⟩)) ?_
 refine tk2 24 6 (.slice Aq m.aV.length cq) rfl (fun wq hSw=>by have k:=HCC.out _ hSw;go_simp) ?_
 refine wpAnyH_ready (rs:=[4]) (by kernel_rfl) (by simp) ?_
 refine AllReadyH.cons rfl (fun K hK=> ?_) AllReadyH.nil
 rw[if_pos (by rfl)]
 have k:wd.cell? ⟨x,37,none⟩=some (.slice none 0 0):=Blk.cell HDX.out.k 37
 go_simp
 refine hK.out _ _ hHeld (fun hHeld=> ?_)
 clear hK k
 try simp only[ah]
 refine wpAnyH_ready (rs:=[7]) (by kernel_rfl) (by simp) ?_
 refine AllReadyH.cons rfl (fun K hK=> ?_) AllReadyH.nil
 rw[if_pos (by rfl)]
 obtain⟨_,_,e0, -, -,hrd⟩:=(HLX.out.below (hHeld.mono (Nat.le_of_lt HZX.out))).q
 injection e0 with e1 e2 e3
 subst e1
 refine aej (.tmp 22) (.tmp 24) rfl (x+1) _ [] rfl HDX.out.q z _ cq m.aV rfl hrd (by have:=HN.out;simp only[List.length_nil];omega) HDS.out ?_
 clear hrd e2 e3
 intro s0 w4 hown hgr
 have hown:w4.ownsRow (x+1) 37 3 s0 m.aV.length (ng m.aV):=hown
 obtain⟨sqA,sqc,rfl, -⟩:=aJ hown
 have HO4:=hid hown
 have HG4:=hid (hHeld.grown hgr (Nat.le_trans (Nat.le_succ x) HDS.out) (fun g hg=>Nat.le_trans (Nat.le_succ x) (dH HDX.out.q g hg)))
 have HK4:=hid (show acH w4 x m (.slice An m.names.length cn) (.slice Aq m.aV.length cq) (.slice Ad m.data.length cd) (.slice snA m.names.length snc) (.slice none 0 0) (.slice none 0 0)from acj HDX.out.q hgr HDX.out.k (by decide))
 have HRn:=hid (ab4 HDX.out.q hgr HDX.out.n (by decide))
 have HRd:=hid (ab4 HDX.out.q hgr HDX.out.d (by decide))
 have HS4:=hid (Nat.le_trans HDS.out ((Off.refl (fun i=>(.slice none 0 0:Value).ownBlock=some i) wd).grown hgr (fun g hg=>hg)).size)
 clear hHeld hown hgr
 refine hK.out _ _ HG4.out (fun hHeld=> ?_)
 clear hK hHeld
 try simp only[ah]
 refine tk 26 8 (.pointer (some ⟨x,0,none⟩)) ?_
 refine tk 27 9 (.pointer (some ⟨x,37,none⟩)) ?_
 refine wpAnyH_ready (rs:=[10]) (by kernel_rfl) (by simp) ?_
 refine AllReadyH.cons rfl (fun K hK=> ?_) AllReadyH.nil
 rw[if_pos (by rfl)]
 have k:w4.cell? ⟨x,37,none⟩=some (.slice none 0 0):=Blk.cell HK4.out 37
 have z1:w4.frozen? ⟨x,37,none⟩=false:=Blk.frozen HK4.out 37
 go_simp
 have aeS:=hid (LB.q_ HDX.out (Nat.lt_succ_self x) HK4.out HRn.out HO4.out HRd.out)
 have aex:=hid (show Below x w2 (w4.setCell ⟨x,37,none⟩ (.slice sqA m.aV.length sqc))from HG4.out.setCell (Nat.le_refl _) _)
 have aeT:=hid (show x+1≤(w4.setCell ⟨x,37,none⟩ (.slice sqA m.aV.length sqc)).heap.size from by rw[World.size_setCell];exact HS4.out)
 refine hK.out _ (w4.setCell ⟨x,37,none⟩ (.slice sqA m.aV.length sqc)) aex.out (fun hHeld=> ?_)
 clear hK k z1 hHeld
 try simp only[ah]
 refine wpAnyH_done (by kernel_rfl) ?_ _
 clear HDX HDS HCC HO4 HG4 HK4 HS4 HRn HRd
 generalize w4.setCell ⟨x,37,none⟩ (.slice sqA m.aV.length sqc)=w4_ at aeS aex aeT⊢
 go_upto_region 4 with(fail)
 try simp only[Act.put]
 have HDX:=hid (aeS.out.new (aC w4_))
 have HDS:=hid (show x+1≤w4_.drew.heap.size from aeT.out)
 have HCC:=hid (show∀wx:World,Below x w2 wx→wx.cell? ⟨z,22,none⟩=some (.slice Ad m.data.length cd)from fun wx h=>(h.cell (p:=⟨z,22,none⟩) HZX.out).trans (Blk.cell HMX.out 22))
 refine wp_region_held_drew (S:=fun wx=>Below x w2 wx) (by kernel_rfl) aex.out.drew (fun hHeld=> ?_)
 generalize w4_.drew=wd at hHeld HDX HDS⊢
 refine tk 28 0 (.pointer (some ⟨x,0,none⟩)) ?_
 refine tk 29 1 (.pointer (some ⟨x,0,none⟩)) ?_
 refine tk 30 2 (.pointer (some ⟨x,0,none⟩)) ?_
 refine tk 31 3 (.pointer (some ⟨x,38,none⟩)) ?_
 refine tk 33 5 (.pointer (some ⟨z,22,none⟩)) ?_
 refine tk2 34 6 (.slice Ad m.data.length cd) rfl (fun wq hSw=>by have k:=HCC.out _ hSw;go_simp) ?_
 refine wpAnyH_ready (rs:=[4]) (by kernel_rfl) (by simp) ?_
 refine AllReadyH.cons rfl (fun K hK=> ?_) AllReadyH.nil
 rw[if_pos (by rfl)]
 have k:wd.cell? ⟨x,38,none⟩=some (.slice none 0 0):=Blk.cell HDX.out.k 38
 go_simp
 refine hK.out _ _ hHeld (fun hHeld=> ?_)
 clear hK k
 try simp only[ah]
 refine wpAnyH_ready (rs:=[7]) (by kernel_rfl) (by simp) ?_
 refine AllReadyH.cons rfl (fun K hK=> ?_) AllReadyH.nil
 rw[if_pos (by rfl)]
 obtain⟨_,_,e0, -, -,hrd⟩:=(HLX.out.below (hHeld.mono (Nat.le_of_lt HZX.out))).d
 injection e0 with e1 e2 e3
 subst e1
 refine adX (.tmp 32) (.tmp 34) rfl (x+1) _ [] rfl HDX.out.d z _ cd m.data rfl hrd (by have:=HN.out;simp only[List.length_nil];omega) HDS.out ?_
 clear hrd e2 e3
 intro s0 w4 hown hgr
 have hown:w4.ownsRow (x+1) 5 1 s0 m.data.length (aX m.data):=hown
 obtain⟨sdA,sdc,rfl, -⟩:=aJ hown
 have HO4:=hid hown
 have HG4:=hid (hHeld.grown hgr (Nat.le_trans (Nat.le_succ x) HDS.out) (fun g hg=>Nat.le_trans (Nat.le_succ x) (dH HDX.out.d g hg)))
 have HK4:=hid (show acH w4 x m (.slice An m.names.length cn) (.slice Aq m.aV.length cq) (.slice Ad m.data.length cd) (.slice snA m.names.length snc) (.slice sqA m.aV.length sqc) (.slice none 0 0)from acj HDX.out.d hgr HDX.out.k (by decide))
 have HRn:=hid (ab4 HDX.out.d hgr HDX.out.n (by decide))
 have HRq:=hid (ab4 HDX.out.d hgr HDX.out.q (by decide))
 have HS4:=hid (Nat.le_trans HDS.out ((Off.refl (fun i=>(.slice none 0 0:Value).ownBlock=some i) wd).grown hgr (fun g hg=>hg)).size)
 clear hHeld hown hgr
 refine hK.out _ _ HG4.out (fun hHeld=> ?_)
 clear hK hHeld
 try simp only[ah]
 refine tk 36 8 (.pointer (some ⟨x,0,none⟩)) ?_
 refine tk 37 9 (.pointer (some ⟨x,38,none⟩)) ?_
 refine wpAnyH_ready (rs:=[10]) (by kernel_rfl) (by simp) ?_
 refine AllReadyH.cons rfl (fun K hK=> ?_) AllReadyH.nil
 rw[if_pos (by rfl)]
 have k:w4.cell? ⟨x,38,none⟩=some (.slice none 0 0):=Blk.cell HK4.out 38
 have z1:w4.frozen? ⟨x,38,none⟩=false:=Blk.frozen HK4.out 38
 go_simp
 have aeU:=hid (LB.d_ HDX.out (Nat.lt_succ_self x) HK4.out HRn.out HRq.out HO4.out)
 have aey:=hid (show Below x w2 (w4.setCell ⟨x,38,none⟩ (.slice sdA m.data.length sdc))from HG4.out.setCell (Nat.le_refl _) _)
 have aeV:=hid (show x+1≤(w4.setCell ⟨x,38,none⟩ (.slice sdA m.data.length sdc)).heap.size from by rw[World.size_setCell];exact HS4.out)
 refine hK.out _ (w4.setCell ⟨x,38,none⟩ (.slice sdA m.data.length sdc)) aey.out (fun hHeld=> ?_)
 clear hK k z1 hHeld
 try simp only[ah]
 refine wpAnyH_done (by kernel_rfl) ?_ _
 clear HDX HDS HCC HO4 HG4 HK4 HS4 HRn HRq
 generalize w4.setCell ⟨x,38,none⟩ (.slice sdA m.data.length sdc)=w5_ at aeU aey aeV⊢
 go_upto_region 6 with(fail)
 go_loopw [4] (fun i wr=>∃(j:Nat) (sn sq sd:Value),j≤8∧i= .int .i64 (j:Int)∧LB wr x (x+1) m (.slice An m.names.length cn) (.slice Aq m.aV.length cq) (.slice Ad m.data.length cd) sn sq sd (m.names++marks ab2 j) (m.aV++marks ab3 j) (m.data++marks 238 j)∧Below x w2 wr∧x+1≤wr.heap.size) (fun i _=>8-(intOf i).toNat)
 case atStart=>exact⟨0,_,_,_,by omega,rfl,by have h:=aeU.out;simpa [marks]using h,aey.out,aeV.out⟩
 case round=>
  obtain⟨j,sn,sq,sd,hj,rfl,hlb,hbx,hsx⟩:=hrel
  have HLB:=hid hlb
  have HBX:=hid hbx
  have HSX:=hid hsx
  clear hlb hbx hsx
  have HLN:=hid (show(m.names++marks ab2 j).length≤16777224∧(m.aV++marks ab3 j).length≤16777224∧(m.data++marks 238 j).length≤16777224 from by have:=HN.out;simp[marks];omega)
  by_cases hlt:j<8
  ·obtain⟨NL,hNL⟩:∃l,l=m.names++marks ab2 j:=⟨_,rfl⟩
   rw[←hNL]at HLB HLN
   obtain⟨NL2,aez⟩:∃l,l=NL++[ab2]:=⟨_,rfl⟩
   have HNL:=hid (show NL2=m.names++marks ab2 (j+1)from by rw[aez,hNL,acC])
   have afn:=hid aez.symm
   clear hNL aez
   obtain⟨QL,hQL⟩:∃l,l=m.aV++marks ab3 j:=⟨_,rfl⟩
   rw[←hQL]at HLB HLN
   obtain⟨QL2,aeA⟩:∃l,l=QL++[ab3]:=⟨_,rfl⟩
   have HQL:=hid (show QL2=m.aV++marks ab3 (j+1)from by rw[aeA,hQL,acC])
   have afo:=hid aeA.symm
   clear hQL aeA
   obtain⟨DL,hDL⟩:∃l,l=m.data++marks 238 j:=⟨_,rfl⟩
   rw[←hDL]at HLB HLN
   obtain⟨DL2,aeB⟩:∃l,l=DL++[238]:=⟨_,rfl⟩
   have HDL:=hid (show DL2=m.data++marks 238 (j+1)from by rw[aeB,hDL,acC])
   have afp:=hid aeB.symm
   clear hDL aeB
   obtain⟨nA,nc,rfl, -⟩:=aJ HLB.out.n
   obtain⟨qA,qc,rfl, -⟩:=aJ HLB.out.q
   obtain⟨dA,dc,rfl, -⟩:=aJ HLB.out.d
   have hup0:Below wr.heap.size wr (wr.alloc (.cells (h_ [ab2]).toArray 9)):=(Below.refl _ _).alloc (Nat.le_refl _) _
   have acV:=hid (HLB.out.new hup0)
   have aan:=hid (HBX.out.trans (hup0.mono (Nat.le_trans (Nat.le_succ x) HSX.out)))
   have aek:=hid (Nat.le_trans HSX.out hup0.size)
   have aaG:=hid (dI wr 9 (h_ [ab2]) 1 1 rfl)
   have afq:=hid (show NL.length+[ab2].length≤8796093022207 from by have:=HLN.out;simp only[List.length_cons,List.length_nil];omega)
   have k0:wr.cell? ⟨x,36,none⟩=some (.slice nA NL.length nc):=Blk.cell HLB.out.k 36
   clear hup0
   go_upto_region 9 with(at_builtin;refine oQ (.tmp 46) (.tmp 47) rfl rfl (x+1) _ NL rfl acV.out.n (wr.heap.size+1) _ 1 [ab2] rfl aaG.out afq.out aek.out ?_;intro v0 w4 hown hgr hor;rw[afn.out]at hown;obtain⟨vnA,vnc,rfl, -⟩:=aJ hown;have HO0:=hid hown;have HX0:=hid (aan.out.grown hgr (Nat.le_trans (Nat.le_succ x) aek.out) (fun g hg=>Nat.le_trans (Nat.le_succ x) (dH acV.out.n g hg)));have HK0:=hid (show acH w4 x m (.slice An m.names.length cn) (.slice Aq m.aV.length cq) (.slice Ad m.data.length cd) (.slice nA NL.length nc) (.slice qA QL.length qc) (.slice dA DL.length dc)from acj acV.out.n hgr acV.out.k (by decide));have aeW:=hid (ab4 acV.out.n hgr acV.out.q (by decide));have aeX:=hid (ab4 acV.out.n hgr acV.out.d (by decide));have HS0:=hid (Nat.le_trans aek.out ((Off.refl (fun i=>(.slice nA NL.length nc:Value).ownBlock=some i) _).grown hgr (fun g hg=>hg)).size);clear hown hgr hor k0;have k1:w4.cell? ⟨x,36,none⟩=some (.slice nA NL.length nc):=Blk.cell HK0.out 36;have z1:w4.frozen? ⟨x,36,none⟩=false:=Blk.frozen HK0.out 36)
   clear k1 z1
   have HT0:=hid (LB.n_ acV.out (Nat.lt_succ_self x) HK0.out HO0.out aeW.out aeX.out)
   have HU0:=hid (show Below x w2 (w4.setCell ⟨x,36,none⟩ (.slice vnA NL2.length vnc))from HX0.out.setCell (Nat.le_refl _) _)
   have HV0:=hid (show x+1≤(w4.setCell ⟨x,36,none⟩ (.slice vnA NL2.length vnc)).heap.size from by rw[World.size_setCell];exact HS0.out)
   clear acV aan aek aaG HK0 HO0 HX0 HS0 aeW aeX
   generalize w4.setCell ⟨x,36,none⟩ (.slice vnA NL2.length vnc)=wl0 at HT0 HU0 HV0⊢
   have Um:Below wl0.heap.size wl0 (wl0.alloc (.cells (ng [ab3]).toArray 37)):=(Below.refl _ _).alloc (Nat.le_refl _) _
   have acW:=hid (HT0.out.new Um)
   have aeY:=hid (HU0.out.trans (Um.mono (Nat.le_trans (Nat.le_succ x) HV0.out)))
   have ael:=hid (Nat.le_trans HV0.out Um.size)
   have aeZ:=hid (dI wl0 37 (ng [ab3]) 1 3 rfl)
   have afr:=hid (show QL.length+[ab3].length≤8796093022207 from by have:=HLN.out;simp only[List.length_cons,List.length_nil];omega)
   have k0:wl0.cell? ⟨x,37,none⟩=some (.slice qA QL.length qc):=Blk.cell HT0.out.k 37
   clear Um
   go_upto_region 10 with(at_builtin;refine Ai (.tmp 55) (.tmp 57) rfl rfl (x+1) _ QL rfl acW.out.q (wl0.heap.size+1) _ 1 [ab3] rfl aeZ.out afr.out ael.out ?_;intro v0 w4 hown hgr hor;rw[afo.out]at hown;obtain⟨vqA,vqc,rfl, -⟩:=aJ hown;have HO1:=hid hown;have HX1:=hid (aeY.out.grown hgr (Nat.le_trans (Nat.le_succ x) ael.out) (fun g hg=>Nat.le_trans (Nat.le_succ x) (dH acW.out.q g hg)));have HK1:=hid (show acH w4 x m (.slice An m.names.length cn) (.slice Aq m.aV.length cq) (.slice Ad m.data.length cd) (.slice vnA NL2.length vnc) (.slice qA QL.length qc) (.slice dA DL.length dc)from acj acW.out.q hgr acW.out.k (by decide));have ae0:=hid (ab4 acW.out.q hgr acW.out.n (by decide));have ae1:=hid (ab4 acW.out.q hgr acW.out.d (by decide));have HS1:=hid (Nat.le_trans ael.out ((Off.refl (fun i=>(.slice qA QL.length qc:Value).ownBlock=some i) _).grown hgr (fun g hg=>hg)).size);clear hown hgr hor k0;have k1:w4.cell? ⟨x,37,none⟩=some (.slice qA QL.length qc):=Blk.cell HK1.out 37;have z1:w4.frozen? ⟨x,37,none⟩=false:=Blk.frozen HK1.out 37)
   clear k1 z1
   have HT1:=hid (LB.q_ acW.out (Nat.lt_succ_self x) HK1.out ae0.out HO1.out ae1.out)
   have HU1:=hid (show Below x w2 (w4.setCell ⟨x,37,none⟩ (.slice vqA QL2.length vqc))from HX1.out.setCell (Nat.le_refl _) _)
   have HV1:=hid (show x+1≤(w4.setCell ⟨x,37,none⟩ (.slice vqA QL2.length vqc)).heap.size from by rw[World.size_setCell];exact HS1.out)
   clear acW aeY ael aeZ HK1 HO1 HX1 HS1 ae0 ae1
   generalize w4.setCell ⟨x,37,none⟩ (.slice vqA QL2.length vqc)=wl1 at HT1 HU1 HV1⊢
   have Un:Below wl1.heap.size wl1 (wl1.alloc (.cells (aX [238]).toArray 5)):=(Below.refl _ _).alloc (Nat.le_refl _) _
   have acX:=hid (HT1.out.new Un)
   have ae2:=hid (HU1.out.trans (Un.mono (Nat.le_trans (Nat.le_succ x) HV1.out)))
   have aem:=hid (Nat.le_trans HV1.out Un.size)
   have ae3:=hid (dI wl1 5 (aX [238]) 1 1 rfl)
   have aee:=hid (show DL.length+[238].length≤140737488355327 from by have:=HLN.out;simp only[List.length_cons,List.length_nil];omega)
   have k0:wl1.cell? ⟨x,38,none⟩=some (.slice dA DL.length dc):=Blk.cell HT1.out.k 38
   clear Un
   go_upto_region 7 with(at_builtin;refine kY (.tmp 65) (.tmp 66) rfl rfl (x+1) _ DL rfl acX.out.d (wl1.heap.size+1) _ 1 [238] rfl ae3.out aee.out aem.out ?_;intro v0 w4 hown hgr hor;rw[afp.out]at hown;obtain⟨vdA,vdc,rfl, -⟩:=aJ hown;have HO2:=hid hown;have HX2:=hid (ae2.out.grown hgr (Nat.le_trans (Nat.le_succ x) aem.out) (fun g hg=>Nat.le_trans (Nat.le_succ x) (dH acX.out.d g hg)));have HK2:=hid (show acH w4 x m (.slice An m.names.length cn) (.slice Aq m.aV.length cq) (.slice Ad m.data.length cd) (.slice vnA NL2.length vnc) (.slice vqA QL2.length vqc) (.slice dA DL.length dc)from acj acX.out.d hgr acX.out.k (by decide));have ae4:=hid (ab4 acX.out.d hgr acX.out.n (by decide));have ae5:=hid (ab4 acX.out.d hgr acX.out.q (by decide));have HS2:=hid (Nat.le_trans aem.out ((Off.refl (fun i=>(.slice dA DL.length dc:Value).ownBlock=some i) _).grown hgr (fun g hg=>hg)).size);clear hown hgr hor k0;have k1:w4.cell? ⟨x,38,none⟩=some (.slice dA DL.length dc):=Blk.cell HK2.out 38;have z1:w4.frozen? ⟨x,38,none⟩=false:=Blk.frozen HK2.out 38)
   clear k1 z1
   have HT2:=hid (LB.d_ acX.out (Nat.lt_succ_self x) HK2.out ae4.out ae5.out HO2.out)
   have HU2:=hid (show Below x w2 (w4.setCell ⟨x,38,none⟩ (.slice vdA DL2.length vdc))from HX2.out.setCell (Nat.le_refl _) _)
   have HV2:=hid (show x+1≤(w4.setCell ⟨x,38,none⟩ (.slice vdA DL2.length vdc)).heap.size from by rw[World.size_setCell];exact HS2.out)
   clear acX ae2 aem ae3 HK2 HO2 HX2 HS2 ae4 ae5
   generalize w4.setCell ⟨x,38,none⟩ (.slice vdA DL2.length vdc)=wl2 at HT2 HU2 HV2⊢
   go_wp2_with fail
   go_roundw
   case rel=>exact⟨j+1,_,_,_,by omega,by go_num,by have h:=HT2.out;rw[HNL.out,HQL.out,HDL.out]at h;exact h,HU2.out,HV2.out⟩
   case measure=>simp[intOf];omega
  ·have hj8:j=8:=by omega
   subst hj8
   have e1:(m.names++marks ab2 8).length=m.names.length+8:=by simp[marks]
   have e2:(m.aV++marks ab3 8).length=m.aV.length+8:=by simp[marks]
   have e3:(m.data++marks 238 8).length=m.data.length+8:=by simp[marks]
   obtain⟨gn,nc,rfl,hn1,hn2, -⟩:=ac2 HLB.out.n (by omega)
   obtain⟨gq,qc,rfl,hq1,hq2, -⟩:=ac2 HLB.out.q (by omega)
   obtain⟨gd,dc,rfl,hd1,hd2, -⟩:=ac2 HLB.out.d (by omega)
   rw[e1,e2,e3]at HLB
   rw[e1]at hn1
   rw[e2]at hq1
   rw[e3]at hd1
   clear e1 e2 e3 HLN
   go_upto_region 11 with(fail)
   try simp only[Act.put]
   have HDX:=hid (HLB.out.new (aC wr))
   have HDB:=hid (HBX.out.drew)
   have HDS:=hid (show x+1≤wr.drew.heap.size from HSX.out)
   refine wp_region_held_drew (S:=fun wx=>wx.cell? ⟨x,36,none⟩=some (.slice (some ⟨gn,0,none⟩) (m.names.length+8) nc)∧wx.cell? ⟨z,11,none⟩=some (.slice An m.names.length cn)) (by kernel_rfl) ⟨Blk.cell HDX.out.k 36,(HDB.out.cell (p:=⟨z,11,none⟩) HZX.out).trans (Blk.cell HMX.out 11)⟩ (fun hHeld=> ?_)
   generalize wr.drew=wd at hHeld HDX HDB HDS⊢
   refine tk 70 0 (.pointer (some ⟨x,0,none⟩)) ?_
   refine tk 71 1 (.pointer (some ⟨x,0,none⟩)) ?_
   refine tk 72 2 (.pointer (some ⟨x,0,none⟩)) ?_
   refine tk 73 3 (.pointer (some ⟨x,36,none⟩)) ?_
   refine tk2 74 4 (.slice (some ⟨gn,0,none⟩) (m.names.length+8) nc) rfl (fun wq hSw=>by have k:=hSw.1;go_simp) ?_
   refine tk 75 5 (.pointer (some ⟨z,11,none⟩)) ?_
   refine tk2 76 6 (.slice An m.names.length cn) rfl (fun wq hSw=>by have k:=hSw.2;go_simp) ?_
   refine tk 77 7 (.int .i64 (m.names.length:Int)) ?_
   refine tk2 78 8 (.slice (some ⟨gn,0,none⟩) m.names.length nc) rfl (fun wq hSw=>by go_simp;intro hbad;exact absurd hbad (by omega)) ?_
   refine tk 79 9 (.pointer (some ⟨x,0,none⟩)) ?_
   refine tk 80 10 (.pointer (some ⟨x,0,none⟩)) ?_
   refine tk 81 11 (.pointer (some ⟨x,11,none⟩)) ?_
   refine wpAnyH_ready (rs:=[12]) (by kernel_rfl) (by simp) ?_
   refine AllReadyH.cons rfl (fun K hK=> ?_) AllReadyH.nil
   rw[if_pos (by rfl)]
   have k:wd.cell? ⟨x,11,none⟩=some (.slice An m.names.length cn):=Blk.cell HDX.out.k 11
   have z1:wd.frozen? ⟨x,11,none⟩=false:=Blk.frozen HDX.out.k 11
   go_simp
   have HC0:=hid (show LB (wd.setCell ⟨x,11,none⟩ (.slice (some ⟨gn,0,none⟩) m.names.length nc)) x (x+1) m (.slice (some ⟨gn,0,none⟩) m.names.length nc) (.slice Aq m.aV.length cq) (.slice Ad m.data.length cd) (.slice (some ⟨gn,0,none⟩) (m.names.length+8) nc) (.slice (some ⟨gq,0,none⟩) (m.aV.length+8) qc) (.slice (some ⟨gd,0,none⟩) (m.data.length+8) dc) (m.names++marks ab2 8) (m.aV++marks ab3 8) (m.data++marks 238 8)from⟨by have h:=Blk.aW HDX.out.k 11 (.slice (some ⟨gn,0,none⟩) m.names.length nc);rw[adv]at h;exact h,acf (Nat.lt_succ_self x) HDX.out.n,acf (Nat.lt_succ_self x) HDX.out.q,acf (Nat.lt_succ_self x) HDX.out.d⟩)
   have aeC:=hid (show Below x w2 (wd.setCell ⟨x,11,none⟩ (.slice (some ⟨gn,0,none⟩) m.names.length nc))from HDB.out.setCell (Nat.le_refl _) _)
   have ae6:=hid (show x+1≤(wd.setCell ⟨x,11,none⟩ (.slice (some ⟨gn,0,none⟩) m.names.length nc)).heap.size from by rw[World.size_setCell];exact HDS.out)
   refine hK.out _ (wd.setCell ⟨x,11,none⟩ (.slice (some ⟨gn,0,none⟩) m.names.length nc)) ⟨Blk.cell HC0.out.k 36,(aeC.out.cell (p:=⟨z,11,none⟩) HZX.out).trans (Blk.cell HMX.out 11)⟩ (fun hHeld=> ?_)
   clear hK k z1 hHeld
   try simp only[ah]
   refine wpAnyH_done (by kernel_rfl) ?_ _
   clear HDX HDB HDS
   generalize wd.setCell ⟨x,11,none⟩ (.slice (some ⟨gn,0,none⟩) m.names.length nc)=wc0 at HC0 aeC ae6⊢
   go_upto_region 12 with(fail)
   try simp only[Act.put]
   have HDX:=hid (HC0.out.new (aC wc0))
   have HDB:=hid (aeC.out.drew)
   have HDS:=hid (show x+1≤wc0.drew.heap.size from ae6.out)
   refine wp_region_held_drew (S:=fun wx=>wx.cell? ⟨x,37,none⟩=some (.slice (some ⟨gq,0,none⟩) (m.aV.length+8) qc)∧wx.cell? ⟨z,12,none⟩=some (.slice Aq m.aV.length cq)) (by kernel_rfl) ⟨Blk.cell HDX.out.k 37,(HDB.out.cell (p:=⟨z,12,none⟩) HZX.out).trans (Blk.cell HMX.out 12)⟩ (fun hHeld=> ?_)
   generalize wc0.drew=wd at hHeld HDX HDB HDS⊢
   refine tk 82 0 (.pointer (some ⟨x,0,none⟩)) ?_
   refine tk 83 1 (.pointer (some ⟨x,0,none⟩)) ?_
   refine tk 84 2 (.pointer (some ⟨x,0,none⟩)) ?_
   refine tk 85 3 (.pointer (some ⟨x,37,none⟩)) ?_
   refine tk2 86 4 (.slice (some ⟨gq,0,none⟩) (m.aV.length+8) qc) rfl (fun wq hSw=>by have k:=hSw.1;go_simp) ?_
   refine tk 87 5 (.pointer (some ⟨z,12,none⟩)) ?_
   refine tk2 88 6 (.slice Aq m.aV.length cq) rfl (fun wq hSw=>by have k:=hSw.2;go_simp) ?_
   refine tk 89 7 (.int .i64 (m.aV.length:Int)) ?_
   refine tk2 90 8 (.slice (some ⟨gq,0,none⟩) m.aV.length qc) rfl (fun wq hSw=>by go_simp;intro hbad;exact absurd hbad (by omega)) ?_
   refine tk 91 9 (.pointer (some ⟨x,0,none⟩)) ?_
   refine tk 92 10 (.pointer (some ⟨x,0,none⟩)) ?_
   refine tk 93 11 (.pointer (some ⟨x,12,none⟩)) ?_
   refine wpAnyH_ready (rs:=[12]) (by kernel_rfl) (by simp) ?_
   refine AllReadyH.cons rfl (fun K hK=> ?_) AllReadyH.nil
   rw[if_pos (by rfl)]
   have k:wd.cell? ⟨x,12,none⟩=some (.slice Aq m.aV.length cq):=Blk.cell HDX.out.k 12
   have z1:wd.frozen? ⟨x,12,none⟩=false:=Blk.frozen HDX.out.k 12
   go_simp
   have HC1:=hid (show LB (wd.setCell ⟨x,12,none⟩ (.slice (some ⟨gq,0,none⟩) m.aV.length qc)) x (x+1) m (.slice (some ⟨gn,0,none⟩) m.names.length nc) (.slice (some ⟨gq,0,none⟩) m.aV.length qc) (.slice Ad m.data.length cd) (.slice (some ⟨gn,0,none⟩) (m.names.length+8) nc) (.slice (some ⟨gq,0,none⟩) (m.aV.length+8) qc) (.slice (some ⟨gd,0,none⟩) (m.data.length+8) dc) (m.names++marks ab2 8) (m.aV++marks ab3 8) (m.data++marks 238 8)from⟨by have h:=Blk.aW HDX.out.k 12 (.slice (some ⟨gq,0,none⟩) m.aV.length qc);rw[adw]at h;exact h,acf (Nat.lt_succ_self x) HDX.out.n,acf (Nat.lt_succ_self x) HDX.out.q,acf (Nat.lt_succ_self x) HDX.out.d⟩)
   have aeD:=hid (show Below x w2 (wd.setCell ⟨x,12,none⟩ (.slice (some ⟨gq,0,none⟩) m.aV.length qc))from HDB.out.setCell (Nat.le_refl _) _)
   have ae7:=hid (show x+1≤(wd.setCell ⟨x,12,none⟩ (.slice (some ⟨gq,0,none⟩) m.aV.length qc)).heap.size from by rw[World.size_setCell];exact HDS.out)
   refine hK.out _ (wd.setCell ⟨x,12,none⟩ (.slice (some ⟨gq,0,none⟩) m.aV.length qc)) ⟨Blk.cell HC1.out.k 37,(aeD.out.cell (p:=⟨z,12,none⟩) HZX.out).trans (Blk.cell HMX.out 12)⟩ (fun hHeld=> ?_)
   clear hK k z1 hHeld
   try simp only[ah]
   refine wpAnyH_done (by kernel_rfl) ?_ _
   clear HDX HDB HDS
   generalize wd.setCell ⟨x,12,none⟩ (.slice (some ⟨gq,0,none⟩) m.aV.length qc)=wc1 at HC1 aeD ae7⊢
   go_upto_region 13 with(fail)
   try simp only[Act.put]
   have HDX:=hid (HC1.out.new (aC wc1))
   have HDB:=hid (aeD.out.drew)
   have HDS:=hid (show x+1≤wc1.drew.heap.size from ae7.out)
   refine wp_region_held_drew (S:=fun wx=>wx.cell? ⟨x,38,none⟩=some (.slice (some ⟨gd,0,none⟩) (m.data.length+8) dc)∧wx.cell? ⟨z,22,none⟩=some (.slice Ad m.data.length cd)) (by kernel_rfl) ⟨Blk.cell HDX.out.k 38,(HDB.out.cell (p:=⟨z,22,none⟩) HZX.out).trans (Blk.cell HMX.out 22)⟩ (fun hHeld=> ?_)
   generalize wc1.drew=wd at hHeld HDX HDB HDS⊢
   refine tk 94 0 (.pointer (some ⟨x,0,none⟩)) ?_
   refine tk 95 1 (.pointer (some ⟨x,0,none⟩)) ?_
   refine tk 96 2 (.pointer (some ⟨x,0,none⟩)) ?_
   refine tk 97 3 (.pointer (some ⟨x,38,none⟩)) ?_
   refine tk2 98 4 (.slice (some ⟨gd,0,none⟩) (m.data.length+8) dc) rfl (fun wq hSw=>by have k:=hSw.1;go_simp) ?_
   refine tk 99 5 (.pointer (some ⟨z,22,none⟩)) ?_
   refine tk2 100 6 (.slice Ad m.data.length cd) rfl (fun wq hSw=>by have k:=hSw.2;go_simp) ?_
   refine tk 101 7 (.int .i64 (m.data.length:Int)) ?_
   refine tk2 102 8 (.slice (some ⟨gd,0,none⟩) m.data.length dc) rfl (fun wq hSw=>by go_simp;intro hbad;exact absurd hbad (by omega)) ?_
   refine tk 103 9 (.pointer (some ⟨x,0,none⟩)) ?_
   refine tk 104 10 (.pointer (some ⟨x,0,none⟩)) ?_
   refine tk 105 11 (.pointer (some ⟨x,22,none⟩)) ?_
   refine wpAnyH_ready (rs:=[12]) (by kernel_rfl) (by simp) ?_
   refine AllReadyH.cons rfl (fun K hK=> ?_) AllReadyH.nil
   rw[if_pos (by rfl)]
   have k:wd.cell? ⟨x,22,none⟩=some (.slice Ad m.data.length cd):=Blk.cell HDX.out.k 22
   have z1:wd.frozen? ⟨x,22,none⟩=false:=Blk.frozen HDX.out.k 22
   go_simp
   have HC2:=hid (show LB (wd.setCell ⟨x,22,none⟩ (.slice (some ⟨gd,0,none⟩) m.data.length dc)) x (x+1) m (.slice (some ⟨gn,0,none⟩) m.names.length nc) (.slice (some ⟨gq,0,none⟩) m.aV.length qc) (.slice (some ⟨gd,0,none⟩) m.data.length dc) (.slice (some ⟨gn,0,none⟩) (m.names.length+8) nc) (.slice (some ⟨gq,0,none⟩) (m.aV.length+8) qc) (.slice (some ⟨gd,0,none⟩) (m.data.length+8) dc) (m.names++marks ab2 8) (m.aV++marks ab3 8) (m.data++marks 238 8)from⟨by have h:=Blk.aW HDX.out.k 22 (.slice (some ⟨gd,0,none⟩) m.data.length dc);rw[adx]at h;exact h,acf (Nat.lt_succ_self x) HDX.out.n,acf (Nat.lt_succ_self x) HDX.out.q,acf (Nat.lt_succ_self x) HDX.out.d⟩)
   have aeE:=hid (show Below x w2 (wd.setCell ⟨x,22,none⟩ (.slice (some ⟨gd,0,none⟩) m.data.length dc))from HDB.out.setCell (Nat.le_refl _) _)
   have afs:=hid (show x+1≤(wd.setCell ⟨x,22,none⟩ (.slice (some ⟨gd,0,none⟩) m.data.length dc)).heap.size from by rw[World.size_setCell];exact HDS.out)
   refine hK.out _ (wd.setCell ⟨x,22,none⟩ (.slice (some ⟨gd,0,none⟩) m.data.length dc)) ⟨Blk.cell HC2.out.k 38,(aeE.out.cell (p:=⟨z,22,none⟩) HZX.out).trans (Blk.cell HMX.out 22)⟩ (fun hHeld=> ?_)
   clear hK k z1 hHeld
   try simp only[ah]
   refine wpAnyH_done (by kernel_rfl) ?_ _
   clear HDX HDB HDS
   generalize wd.setCell ⟨x,22,none⟩ (.slice (some ⟨gd,0,none⟩) m.data.length dc)=wc2 at HC2 aeE afs⊢
   have HF:=hid (HUX.out.trans (aeE.out.mono (Nat.le_of_lt HZX.out)))
   go_wp2_with fail
   go_ret
   exact⟨x,rfl,by rw[HZZ.out];exact Nat.le_of_lt HZX.out,by rw[HZZ.out];exact HF.out,_,_,_,_,_,_,HC2.out⟩
end Go.Proofs.YtkblmloobkiloaaGreatDoor
