/-
  MWI MWJ: what the laws of package msg need of them.
-/
import Derived.Test.YtkblmloobkiloaaGreatDoorK00
import Derived.Test.YtkblmloobkiloaaGreatDoorK21
import Derived.Test.YtkblmloobkiloaaGreatDoorK26
namespace Go.Proofs.YtkblmloobkiloaaGreatDoor
open Go.Lib (hid)
open Go.RowKit
def upTo{α:Type}(f:α→α)(j:Nat)(l:List α):List α:=(l.take j).map f++l.drop j
theorem ace{α:Type}(f:α→α)(j:Nat)(l:List α):(upTo f j l).length=l.length:=by
 unfold upTo
 rw[List.length_append,List.length_map,List.length_take,List.length_drop]
 omega
theorem acQ{α:Type}(f:α→α)(l:List α):upTo f l.length l=l.map f:=by simp[upTo]
theorem ac4{α:Type}(f:α→α)(j:Nat)(l r:List α)(x:α)(h:l[j]? =some x):(upTo f j l++r)[j]? =some x:=by
 have hj:=(List.getElem?_eq_some_iff.1 h).1
 have hl:((l.take j).map f).length=j:=by rw[List.length_map,List.length_take];omega
 unfold upTo
 rw[List.append_assoc,List.getElem?_append_right (by omega),hl,Nat.sub_self,List.getElem?_append_left (by rw[List.length_drop];omega),List.getElem?_drop]
 simpa using h
theorem acR{α:Type}(f:α→α)(j:Nat)(l r:List α)(x:α)(h:l[j]? =some x):(upTo f j l++r).set j (f x)=upTo f (j+1) l++r:=by
 have hj:=(List.getElem?_eq_some_iff.1 h).1
 have hl:((l.take j).map f).length=j:=by rw[List.length_map,List.length_take];omega
 have hd:l.drop j=x::l.drop (j+1):=by
  rw[List.drop_eq_getElem_cons hj]
  have:=List.getElem?_eq_getElem hj
  rw[h]at this
  injection this with this
  rw[this]
 unfold upTo
 rw[List.append_assoc,List.set_append_right _ _ (by omega),hl,Nat.sub_self,hd,List.take_add_one,h,Option.toList_some,List.map_append,List.append_assoc,List.append_assoc]
 rfl
theorem ad_(l:List Qd)(j v:Nat)(q:Qd)(h:l[j]? =some q):(ng l).set (j*3+1) (.int .u32 (v:Int))=ng (l.set j {q with vers:=v}):=by
 induction l generalizing j with
 |nil=>simp at h
 |cons x l ih=>
  cases j with
  |zero=>
   simp at h
   subst h
   rfl
  |succ j=>
   show(nU x++ng l).set ((j+1)*3+1) _=nU x++ng (l.set j _)
   rw[List.set_append_right _ _ (by show 3≤_;omega),←ih j (by simpa using h)]
   congr 2
   show(j+1)*3+1-3=_
   omega
theorem adg(l:List Qd)(i:Nat)(q:Qd)(h:l[i]? =some q):(ng l)[i*3+1]? =some (.int .u32 (q.vers:Int)):=by
 induction l generalizing i with
 |nil=>simp at h
 |cons x l ih=>
  cases i with
  |zero=>
   simp at h
   subst h
   rfl
  |succ i=>
   have h:=ih i (by simpa using h)
   show(nU x++ng l)[(i+1)*3+1]? =_
   rw[List.getElem?_append_right (by show 3≤_;omega),←h]
   congr 1
   show(i+1)*3+1-3=_
   omega
def ab5(s:ByteArray):ByteArray:=s++⟨#[120]⟩
def acp(q:Qd):Qd:= {q with vers:=(q.vers+1)%4294967296}
def acy(c:UInt8):UInt8:=c ^^^ 17
def turned(m:Mg):Mg:= {m with names:=m.names.map ab5,aV:=m.aV.map acp,data:=m.data.map acy}
def acz(w:World)(x:Nat)(m:Mg)(b:Nat):Prop:=∃gn nc gq qc gd dc:Nat,LB w x (x+1) m (.slice (some ⟨gn,0,none⟩) m.names.length nc) (.slice (some ⟨gq,0,none⟩) m.aV.length qc) (.slice (some ⟨gd,0,none⟩) m.data.length dc) (.slice (some ⟨gn,0,none⟩) (m.names.length+8) nc) (.slice (some ⟨gq,0,none⟩) (m.aV.length+8) qc) (.slice (some ⟨gd,0,none⟩) (m.data.length+8) dc) (m.names++marks ab2 8) (m.aV++marks ab3 8) (m.data++marks 238 8)∧x<b∧gn<b∧gq<b∧gd<b
theorem acz.w{w:World}{x b:Nat}{m:Mg}(h:acz w x m b):acs w x m:=by
 obtain⟨gn,nc,gq,qc,gd,dc,h, -⟩:=h
 exact⟨gn,nc,gq,qc,gd,dc,h⟩
theorem acz.below{w w':World}{x b:Nat}{m:Mg}(h:acz w x m b)(hb:Below b w w'):acz w' x m b:=by
 obtain⟨gn,nc,gq,qc,gd,dc,h,h1,h2,h3,h4⟩:=h
 have f:∀ {g:Nat} {n c gg:Nat},g<b→(Value.slice (some ⟨g,0,none⟩) n c).ownBlock=some gg→gg<b:=fun {g n c gg} hg he=>by
  have he:some g=some gg:=he
  injection he with he
  omega
 exact⟨gn,nc,gq,qc,gd,dc,⟨Blk.below h.k hb h1,Ns h.n (fun g he=>f h2 he) hb,Ns h.q (fun g he=>f h3 he) hb,Ns h.d (fun g he=>f h4 he) hb⟩,h1,h2,h3,h4⟩
theorem acA{w:World}{base s n g k:Nat}{e e0:TypeId}{u v:Value}{xs:List Value}(hg:∃cur fr,w.heap[g]? =some (Obj.cells cur e0 fr))(h:w.ownsRow base e s v n xs)(hne:e0≠e):(w.setCell ⟨g,k,none⟩ u).ownsRow base e s v n xs:=
 dL (bM w g k u) h fun i cur fr hi hh=>by
  have hi:i=g:=hi
  subst hi
  obtain⟨c2,f2,h2⟩:=hg
  rw[h2]at hh
  injection hh with hh
  injection hh with _ he _
  exact hne he
theorem LB.aeF{w:World}{x base g n c i:Nat}{m:Mg}{vn vq vd sq sd v u:Value}{N:List ByteArray}{Q:List Qd}{D:List UInt8}{N':List ByteArray}(h:LB w x base m vn vq vd (.slice (some ⟨g,0,none⟩) n c) sq sd N Q D)(hx:x<base)(hlen:N.length=n)(hv:(h_ N)[i]? =some v)(hs:(h_ N).set i u=h_ N')(hl:N'.length=N.length):LB (w.setCell ⟨g,i,none⟩ u) x base m vn vq vd (.slice (some ⟨g,0,none⟩) n c) sq sd N' Q D:=by
 have hr:=h.n
 rw[hlen]at hr
 obtain⟨ad,e2,hge,hcell,hfz,hgh,hset⟩:=Nu hr hv
 injection e2 with e2
 subst e2
 have h3:=hset u
 rw[Addr.add_mid,Nat.zero_add,hs]at h3
 have h3:(w.setCell ⟨g,i,none⟩ u).ownsRow base 9 1 (.slice (some ⟨g,0,none⟩) n c) N'.length (h_ N'):=by rw[hl,hlen];exact h3
 exact⟨(bM w g i u).blk h.k (fun e=>by have e:x=g:=e;have hge:base≤g:=hge;omega),h3,acA hgh h.q (by decide),acA hgh h.d (by decide)⟩
theorem LB.aeG{w:World}{x base g n c i:Nat}{m:Mg}{vn vq vd sn sd v u:Value}{N:List ByteArray}{Q:List Qd}{D:List UInt8}{Q':List Qd}(h:LB w x base m vn vq vd sn (.slice (some ⟨g,0,none⟩) n c) sd N Q D)(hx:x<base)(hlen:Q.length=n)(hv:(ng Q)[i]? =some v)(hs:(ng Q).set i u=ng Q')(hl:Q'.length=Q.length):LB (w.setCell ⟨g,i,none⟩ u) x base m vn vq vd sn (.slice (some ⟨g,0,none⟩) n c) sd N Q' D:=by
 have hr:=h.q
 rw[hlen]at hr
 obtain⟨ad,e2,hge,hcell,hfz,hgh,hset⟩:=Nu hr hv
 injection e2 with e2
 subst e2
 have h3:=hset u
 rw[Addr.add_mid,Nat.zero_add,hs]at h3
 have h3:(w.setCell ⟨g,i,none⟩ u).ownsRow base 37 3 (.slice (some ⟨g,0,none⟩) n c) Q'.length (ng Q'):=by rw[hl,hlen];exact h3
 exact⟨(bM w g i u).blk h.k (fun e=>by have e:x=g:=e;have hge:base≤g:=hge;omega),acA hgh h.n (by decide),h3,acA hgh h.d (by decide)⟩
theorem LB.aeH{w:World}{x base g n c i:Nat}{m:Mg}{vn vq vd sn sq v u:Value}{N:List ByteArray}{Q:List Qd}{D:List UInt8}{D':List UInt8}(h:LB w x base m vn vq vd sn sq (.slice (some ⟨g,0,none⟩) n c) N Q D)(hx:x<base)(hlen:D.length=n)(hv:(aX D)[i]? =some v)(hs:(aX D).set i u=aX D')(hl:D'.length=D.length):LB (w.setCell ⟨g,i,none⟩ u) x base m vn vq vd sn sq (.slice (some ⟨g,0,none⟩) n c) N Q D':=by
 have hr:=h.d
 rw[hlen]at hr
 obtain⟨ad,e2,hge,hcell,hfz,hgh,hset⟩:=Nu hr hv
 injection e2 with e2
 subst e2
 have h3:=hset u
 rw[Addr.add_mid,Nat.zero_add,hs]at h3
 have h3:(w.setCell ⟨g,i,none⟩ u).ownsRow base 5 1 (.slice (some ⟨g,0,none⟩) n c) D'.length (aX D'):=by rw[hl,hlen];exact h3
 exact⟨(bM w g i u).blk h.k (fun e=>by have e:x=g:=e;have hge:base≤g:=hge;omega),acA hgh h.n (by decide),acA hgh h.q (by decide),h3⟩
theorem ae8(c:UInt8):bits .xor .u8 (c.toNat:Int) 17=((c ^^^ 17).toNat:Int):=by
 have h:∀n:Nat,n<256→bits .xor .u8 (n:Int) 17=((n ^^^ 17:Nat):Int):=by decide+kernel
 rw[h _ c.toNat_lt,UInt8.toNat_xor]
 rfl
set_option maxRecDepth 100000 in
set_option maxHeartbeats 12800000 in
theorem adh(m:Mg)(x b:Nat)(w:World)(hx:acz w x m b)(hs:m.small)(hm:m.ok):
  Calls Tryz.prog 29 #[.pointer (some ⟨x,0,none⟩)] w fun e w'=>e= .returned (.tuple #[])∧acz w' x (turned m) b∧Off (fun i=>x<i∧i<b) w w':=by
 obtain⟨gn,nc,gq,qc,gd,dc,hlb,hxb,hgn,hgq,hgd⟩:=hx
 have HB:=hid hlb
 have HX:=hid (And.intro hxb (And.intro hgn (And.intro hgq hgd)))
 have HN:=hid (And.intro hs.names (And.intro hs.aV hs.data))
 have HNZ:=hid (aak hs)
 have HQZ:=hid hm.aV
 have hn1:=hs.names
 have hn2:=hs.aV
 have hn3:=hs.data
 clear hlb hxb hgn hgq hgd hs hm
 go_enter Tryz.func29,Tryz.ntmps29
 go_upto_region 1 with(fail)
 go_loopw [2] (fun i wr=>∃j:Nat,j≤m.names.length∧i= .int .i64 (j:Int)∧LB wr x (x+1) m (.slice (some ⟨gn,0,none⟩) m.names.length nc) (.slice (some ⟨gq,0,none⟩) m.aV.length qc) (.slice (some ⟨gd,0,none⟩) m.data.length dc) (.slice (some ⟨gn,0,none⟩) (m.names.length+8) nc) (.slice (some ⟨gq,0,none⟩) (m.aV.length+8) qc) (.slice (some ⟨gd,0,none⟩) (m.data.length+8) dc) (upTo ab5 j m.names++marks ab2 8) (m.aV++marks ab3 8) (m.data++marks 238 8)∧Off (fun i=>x<i∧i<b) w wr) (fun i _=>m.names.length-(intOf i).toNat)
 case atStart=>exact⟨0,by omega,rfl,HB.out,(Off.refl _ _)⟩
 case round=>
  obtain⟨j,hj,rfl,hlb,hoff⟩:=hrel
  have HL0:=hid hlb
  have HO0:=hid hoff
  clear hlb hoff
  have k0:wr.cell? ⟨x,11,none⟩=some (.slice (some ⟨gn,0,none⟩) m.names.length nc):=Blk.cell HL0.out.k 11
  by_cases hlt:j<m.names.length
  ·obtain⟨y,hy⟩:∃y,m.names[j]? =some y:=⟨m.names[j],List.getElem?_eq_getElem _⟩
   have e1:(upTo ab5 j m.names++marks ab2 8).length=m.names.length+8:=by rw[List.length_append,ace];simp[marks]
   have hrow:=HL0.out.n
   rw[e1]at hrow
   have hat:=ac4 ab5 j m.names (marks ab2 8) y hy
   have hst:=acR ab5 j m.names (marks ab2 8) y hy
   obtain⟨ad,e2,hge,hcell,hfz,hgh,hset⟩:=Nu (i:=j) (v:= .string y) hrow (by rw[h_,List.getElem?_map,hat];rfl)
   have hys:y.size≤16777216:=HNZ.out y (List.mem_of_getElem? hy)
   obtain⟨Y,hY⟩:∃Y,Y=ab5 y:=⟨_,rfl⟩
   have a1:∀w,(Op.stringOp .add y ⟨#[120]⟩).run Tryz.prog w= .ok (.string Y) w:=fun w=>by rw[hY];exact run_string_add_sum w _ _ (by show y.size+1≤_;omega)
   have aea:=hid (show(h_ (upTo ab5 j m.names++marks ab2 8)).set j (.string Y)=h_ (upTo ab5 (j+1) m.names++marks ab2 8)from by rw[←hst,hY,h_,h_,List.map_set])
   clear hY
   injection e2 with e2
   subst e2
   rw[Addr.add_mid,Nat.zero_add]at hcell hfz
   have HCE:=hid hcell
   have HFZ:=hid hfz
   have HGH:=hid hgh
   have HLN:=hid (show∀wd:World,LB wd x (x+1) m (.slice (some ⟨gn,0,none⟩) m.names.length nc) (.slice (some ⟨gq,0,none⟩) m.aV.length qc) (.slice (some ⟨gd,0,none⟩) m.data.length dc) (.slice (some ⟨gn,0,none⟩) (m.names.length+8) nc) (.slice (some ⟨gq,0,none⟩) (m.aV.length+8) qc) (.slice (some ⟨gd,0,none⟩) (m.data.length+8) dc) (upTo ab5 j m.names++marks ab2 8) (m.aV++marks ab3 8) (m.data++marks 238 8)→LB (wd.setCell ⟨gn,j,none⟩ (.string Y)) x (x+1) m (.slice (some ⟨gn,0,none⟩) m.names.length nc) (.slice (some ⟨gq,0,none⟩) m.aV.length qc) (.slice (some ⟨gd,0,none⟩) m.data.length dc) (.slice (some ⟨gn,0,none⟩) (m.names.length+8) nc) (.slice (some ⟨gq,0,none⟩) (m.aV.length+8) qc) (.slice (some ⟨gd,0,none⟩) (m.data.length+8) dc) (upTo ab5 (j+1) m.names++marks ab2 8) (m.aV++marks ab3 8) (m.data++marks 238 8)from fun wd hw=>LB.aeF hw (Nat.lt_succ_self x) e1 (v:= .string y) (by rw[h_,List.getElem?_map,hat];rfl) aea.out (by rw[List.length_append,List.length_append,ace,ace]))
   have HGE:=hid (show x<gn∧gn<b from⟨hge,HX.out.2.1⟩)
   clear e1 hrow hat hst hy hge hcell hfz hgh hset
   go_upto_region 3 with(fail)
   try simp only[Act.put]
   clear k0
   have HDC:=hid (show wr.drew.cell? ⟨x,36,none⟩=some (.slice (some ⟨gn,0,none⟩) (m.names.length+8) nc)from Blk.cell HL0.out.k 36)
   have HDE:=hid (show wr.drew.cell? ⟨gn,j,none⟩=some (.string y)from HCE.out)
   have HDF:=hid (show wr.drew.frozen? ⟨gn,j,none⟩=false from HFZ.out)
   have HDH:=hid (HL0.out.new (aC wr))
   have HDO:=hid (HO0.out.drew)
   refine wp_region_held_drew (S:=fun wx=>wx.cell? ⟨x,36,none⟩=some (.slice (some ⟨gn,0,none⟩) (m.names.length+8) nc)) (by kernel_rfl) HDC.out (fun hHeld=> ?_)
   generalize wr.drew=wd at hHeld HDC HDE HDF HDH HDO⊢
   refine tk 15 0 (.pointer (some ⟨x,0,none⟩)) ?_
   refine tk 16 1 (.pointer (some ⟨x,0,none⟩)) ?_
   refine tk 17 2 (.pointer (some ⟨x,36,none⟩)) ?_
   refine tk2 18 3 (.slice (some ⟨gn,0,none⟩) (m.names.length+8) nc) rfl (fun wq hSw=>by have k:=hSw;go_simp) ?_
   refine tk 19 4 (.int .i64 (j:Int)) ?_
   refine tk 20 5 (.pointer (some ⟨x,0,none⟩)) ?_
   refine tk 21 6 (.pointer (some ⟨x,0,none⟩)) ?_
   refine tk 22 7 (.pointer (some ⟨x,36,none⟩)) ?_
   refine tk2 23 8 (.slice (some ⟨gn,0,none⟩) (m.names.length+8) nc) rfl (fun wq hSw=>by have k:=hSw;go_simp) ?_
   refine tk 24 9 (.int .i64 (j:Int)) ?_
   refine tk2 25 10 (.pointer (some ⟨gn,j,none⟩)) rfl (fun wq hSw=>by go_simp;intro hbad;exact absurd hbad (by omega)) ?_
   refine wpAnyH_ready (rs:=[11]) (by kernel_rfl) (by simp) ?_
   refine AllReadyH.cons rfl (fun K hK=> ?_) AllReadyH.nil
   rw[if_pos (by rfl)]
   have k:=HDE.out
   go_simp
   refine hK.out _ _ hHeld (fun hHeld=> ?_)
   clear hK k
   try simp only[ah]
   refine tk 27 12 (.string Y) ?_
   refine tk2 28 13 (.pointer (some ⟨gn,j,none⟩)) rfl (fun wq hSw=>by go_simp;intro hbad;exact absurd hbad (by omega)) ?_
   refine wpAnyH_ready (rs:=[14]) (by kernel_rfl) (by simp) ?_
   refine AllReadyH.cons rfl (fun K hK=> ?_) AllReadyH.nil
   rw[if_pos (by rfl)]
   have k:=HDE.out
   have z1:=HDF.out
   go_simp
   have HNB:=hid (HLN.out wd HDH.out)
   refine hK.out _ (wd.setCell ⟨gn,j,none⟩ (.string Y)) (Blk.cell HNB.out.k 36) (fun hHeld=> ?_)
   clear hK k z1 hHeld
   try simp only[ah]
   refine wpAnyH_done (by kernel_rfl) ?_ _
   go_wp2_with fail
   go_roundw
   case rel=>exact⟨j+1,by omega,by go_num,HNB.out,HDO.out.setCell (p:=⟨gn,j,none⟩) HGE.out _⟩
   case measure=>simp[intOf];omega
  ·have hjl:j=m.names.length:=by omega
   subst hjl
   have HE0:=hid (show LB wr x (x+1) m (.slice (some ⟨gn,0,none⟩) m.names.length nc) (.slice (some ⟨gq,0,none⟩) m.aV.length qc) (.slice (some ⟨gd,0,none⟩) m.data.length dc) (.slice (some ⟨gn,0,none⟩) (m.names.length+8) nc) (.slice (some ⟨gq,0,none⟩) (m.aV.length+8) qc) (.slice (some ⟨gd,0,none⟩) (m.data.length+8) dc) (m.names.map ab5++marks ab2 8) (m.aV++marks ab3 8) (m.data++marks 238 8)from by have h:=HL0.out;rw[acQ]at h;exact h)
   clear hlt hj
   go_upto_region 5 with(fail)
   go_loopw [3] (fun i wr=>∃j:Nat,j≤m.aV.length∧i= .int .i64 (j:Int)∧LB wr x (x+1) m (.slice (some ⟨gn,0,none⟩) m.names.length nc) (.slice (some ⟨gq,0,none⟩) m.aV.length qc) (.slice (some ⟨gd,0,none⟩) m.data.length dc) (.slice (some ⟨gn,0,none⟩) (m.names.length+8) nc) (.slice (some ⟨gq,0,none⟩) (m.aV.length+8) qc) (.slice (some ⟨gd,0,none⟩) (m.data.length+8) dc) (m.names.map ab5++marks ab2 8) (upTo acp j m.aV++marks ab3 8) (m.data++marks 238 8)∧Off (fun i=>x<i∧i<b) w wr) (fun i _=>m.aV.length-(intOf i).toNat)
   case atStart=>exact⟨0,by omega,rfl,HE0.out,HO0.out⟩
   case round=>
    obtain⟨j,hj,rfl,hlb,hoff⟩:=hrel
    have HL1:=hid hlb
    have HO1:=hid hoff
    clear hlb hoff
    have k0:wr.cell? ⟨x,12,none⟩=some (.slice (some ⟨gq,0,none⟩) m.aV.length qc):=Blk.cell HL1.out.k 12
    by_cases hlt:j<m.aV.length
    ·obtain⟨y,hy⟩:∃y,m.aV[j]? =some y:=⟨m.aV[j],List.getElem?_eq_getElem _⟩
     have e1:(upTo acp j m.aV++marks ab3 8).length=m.aV.length+8:=by rw[List.length_append,ace];simp[marks]
     have hrow:=HL1.out.q
     rw[e1]at hrow
     have hat:=ac4 acp j m.aV (marks ab3 8) y hy
     have hst:=acR acp j m.aV (marks ab3 8) y hy
     obtain⟨ad,e2,hge,hcell,hfz,hgh,hset⟩:=Nu (i:=j*3+1) (v:= .int .u32 (y.vers:Int)) hrow (adg _ _ _ hat)
     have hyv:=(HQZ.out y (List.mem_of_getElem? hy)).2.1
     have hwv:IntKind.u32.wrap ((y.vers:Int)+1)=(((y.vers+1)%4294967296:Nat):Int):=by rw[IntKind.wrap_u32];omega
     obtain⟨V,hV⟩:∃V,V=(y.vers+1)%4294967296:=⟨_,rfl⟩
     rw[←hV]at hwv
     have aea:=hid (show(ng (upTo acp j m.aV++marks ab3 8)).set (j*3+1) (.int .u32 (V:Int))=ng (upTo acp (j+1) m.aV++marks ab3 8)from by rw[←hst,ad_ _ _ _ _ hat,hV];rfl)
     clear hV hyv
     injection e2 with e2
     subst e2
     rw[Addr.add_mid,Nat.zero_add]at hcell hfz
     have HCE:=hid hcell
     have HFZ:=hid hfz
     have HGH:=hid hgh
     have HLN:=hid (show∀wd:World,LB wd x (x+1) m (.slice (some ⟨gn,0,none⟩) m.names.length nc) (.slice (some ⟨gq,0,none⟩) m.aV.length qc) (.slice (some ⟨gd,0,none⟩) m.data.length dc) (.slice (some ⟨gn,0,none⟩) (m.names.length+8) nc) (.slice (some ⟨gq,0,none⟩) (m.aV.length+8) qc) (.slice (some ⟨gd,0,none⟩) (m.data.length+8) dc) (m.names.map ab5++marks ab2 8) (upTo acp j m.aV++marks ab3 8) (m.data++marks 238 8)→LB (wd.setCell ⟨gq,j*3+1,none⟩ (.int .u32 (V:Int))) x (x+1) m (.slice (some ⟨gn,0,none⟩) m.names.length nc) (.slice (some ⟨gq,0,none⟩) m.aV.length qc) (.slice (some ⟨gd,0,none⟩) m.data.length dc) (.slice (some ⟨gn,0,none⟩) (m.names.length+8) nc) (.slice (some ⟨gq,0,none⟩) (m.aV.length+8) qc) (.slice (some ⟨gd,0,none⟩) (m.data.length+8) dc) (m.names.map ab5++marks ab2 8) (upTo acp (j+1) m.aV++marks ab3 8) (m.data++marks 238 8)from fun wd hw=>LB.aeG hw (Nat.lt_succ_self x) e1 (v:= .int .u32 (y.vers:Int)) (adg _ _ _ hat) aea.out (by rw[List.length_append,List.length_append,ace,ace]))
     have HGE:=hid (show x<gq∧gq<b from⟨hge,HX.out.2.2.1⟩)
     clear e1 hrow hat hst hy hge hcell hfz hgh hset
     have k1:wr.cell? ⟨x,37,none⟩=some (.slice (some ⟨gq,0,none⟩) (m.aV.length+8) qc):=Blk.cell HL1.out.k 37
     have k2:wr.cell? ⟨gq,j*3+1,none⟩=some (.int .u32 (y.vers:Int)):=HCE.out
     have z2:wr.frozen? ⟨gq,j*3+1,none⟩=false:=HFZ.out
     go_wp2_with fail
     go_roundw
     case rel=>exact⟨j+1,by omega,by go_num,HLN.out wr HL1.out,HO1.out.setCell (p:=⟨gq,j*3+1,none⟩) HGE.out _⟩
     case measure=>simp[intOf];omega
    ·have hjl:j=m.aV.length:=by omega
     subst hjl
     have HE1:=hid (show LB wr x (x+1) m (.slice (some ⟨gn,0,none⟩) m.names.length nc) (.slice (some ⟨gq,0,none⟩) m.aV.length qc) (.slice (some ⟨gd,0,none⟩) m.data.length dc) (.slice (some ⟨gn,0,none⟩) (m.names.length+8) nc) (.slice (some ⟨gq,0,none⟩) (m.aV.length+8) qc) (.slice (some ⟨gd,0,none⟩) (m.data.length+8) dc) (m.names.map ab5++marks ab2 8) (m.aV.map acp++marks ab3 8) (m.data++marks 238 8)from by have h:=HL1.out;rw[acQ]at h;exact h)
     clear hlt hj
     go_upto_region 9 with(fail)
     go_loopw [4] (fun i wr=>∃j:Nat,j≤m.data.length∧i= .int .i64 (j:Int)∧LB wr x (x+1) m (.slice (some ⟨gn,0,none⟩) m.names.length nc) (.slice (some ⟨gq,0,none⟩) m.aV.length qc) (.slice (some ⟨gd,0,none⟩) m.data.length dc) (.slice (some ⟨gn,0,none⟩) (m.names.length+8) nc) (.slice (some ⟨gq,0,none⟩) (m.aV.length+8) qc) (.slice (some ⟨gd,0,none⟩) (m.data.length+8) dc) (m.names.map ab5++marks ab2 8) (m.aV.map acp++marks ab3 8) (upTo acy j m.data++marks 238 8)∧Off (fun i=>x<i∧i<b) w wr) (fun i _=>m.data.length-(intOf i).toNat)
     case atStart=>exact⟨0,by omega,rfl,HE1.out,HO1.out⟩
     case round=>
      obtain⟨j,hj,rfl,hlb,hoff⟩:=hrel
      have HL2:=hid hlb
      have HO2:=hid hoff
      clear hlb hoff
      have k0:wr.cell? ⟨x,22,none⟩=some (.slice (some ⟨gd,0,none⟩) m.data.length dc):=Blk.cell HL2.out.k 22
      by_cases hlt:j<m.data.length
      ·obtain⟨y,hy⟩:∃y,m.data[j]? =some y:=⟨m.data[j],List.getElem?_eq_getElem _⟩
       have e1:(upTo acy j m.data++marks 238 8).length=m.data.length+8:=by rw[List.length_append,ace];simp[marks]
       have hrow:=HL2.out.d
       rw[e1]at hrow
       have hat:=ac4 acy j m.data (marks 238 8) y hy
       have hst:=acR acy j m.data (marks 238 8) y hy
       obtain⟨ad,e2,hge,hcell,hfz,hgh,hset⟩:=Nu (i:=j) (v:= .int .u8 (y.toNat:Int)) hrow (by rw[aX,List.getElem?_map,hat];rfl)
       obtain⟨V,hV⟩:∃V,V=acy y:=⟨_,rfl⟩
       have hxo:bits .xor .u8 (y.toNat:Int) 17=(V.toNat:Int):=by rw[hV];exact ae8 y
       have aea:=hid (show(aX (upTo acy j m.data++marks 238 8)).set j (.int .u8 (V.toNat:Int))=aX (upTo acy (j+1) m.data++marks 238 8)from by rw[←hst,hV,aX,aX,List.map_set])
       clear hV
       injection e2 with e2
       subst e2
       rw[Addr.add_mid,Nat.zero_add]at hcell hfz
       have HCE:=hid hcell
       have HFZ:=hid hfz
       have HGH:=hid hgh
       have HLN:=hid (show∀wd:World,LB wd x (x+1) m (.slice (some ⟨gn,0,none⟩) m.names.length nc) (.slice (some ⟨gq,0,none⟩) m.aV.length qc) (.slice (some ⟨gd,0,none⟩) m.data.length dc) (.slice (some ⟨gn,0,none⟩) (m.names.length+8) nc) (.slice (some ⟨gq,0,none⟩) (m.aV.length+8) qc) (.slice (some ⟨gd,0,none⟩) (m.data.length+8) dc) (m.names.map ab5++marks ab2 8) (m.aV.map acp++marks ab3 8) (upTo acy j m.data++marks 238 8)→LB (wd.setCell ⟨gd,j,none⟩ (.int .u8 (V.toNat:Int))) x (x+1) m (.slice (some ⟨gn,0,none⟩) m.names.length nc) (.slice (some ⟨gq,0,none⟩) m.aV.length qc) (.slice (some ⟨gd,0,none⟩) m.data.length dc) (.slice (some ⟨gn,0,none⟩) (m.names.length+8) nc) (.slice (some ⟨gq,0,none⟩) (m.aV.length+8) qc) (.slice (some ⟨gd,0,none⟩) (m.data.length+8) dc) (m.names.map ab5++marks ab2 8) (m.aV.map acp++marks ab3 8) (upTo acy (j+1) m.data++marks 238 8)from fun wd hw=>LB.aeH hw (Nat.lt_succ_self x) e1 (v:= .int .u8 (y.toNat:Int)) (by rw[aX,List.getElem?_map,hat];rfl) aea.out (by rw[List.length_append,List.length_append,ace,ace]))
       have HGE:=hid (show x<gd∧gd<b from⟨hge,HX.out.2.2.2⟩)
       clear e1 hrow hat hst hy hge hcell hfz hgh hset
       go_upto_region 11 with(fail)
       try simp only[Act.put]
       clear k0
       have HDC:=hid (show wr.drew.cell? ⟨x,38,none⟩=some (.slice (some ⟨gd,0,none⟩) (m.data.length+8) dc)from Blk.cell HL2.out.k 38)
       have HDE:=hid (show wr.drew.cell? ⟨gd,j,none⟩=some (.int .u8 (y.toNat:Int))from HCE.out)
       have HDF:=hid (show wr.drew.frozen? ⟨gd,j,none⟩=false from HFZ.out)
       have HDH:=hid (HL2.out.new (aC wr))
       have HDO:=hid (HO2.out.drew)
       refine wp_region_held_drew (S:=fun wx=>wx.cell? ⟨x,38,none⟩=some (.slice (some ⟨gd,0,none⟩) (m.data.length+8) dc)) (by kernel_rfl) HDC.out (fun hHeld=> ?_)
       generalize wr.drew=wd at hHeld HDC HDE HDF HDH HDO⊢
       refine tk 60 0 (.pointer (some ⟨x,0,none⟩)) ?_
       refine tk 61 1 (.pointer (some ⟨x,0,none⟩)) ?_
       refine tk 62 2 (.pointer (some ⟨x,38,none⟩)) ?_
       refine tk2 63 3 (.slice (some ⟨gd,0,none⟩) (m.data.length+8) dc) rfl (fun wq hSw=>by have k:=hSw;go_simp) ?_
       refine tk 64 4 (.int .i64 (j:Int)) ?_
       refine tk 65 5 (.pointer (some ⟨x,0,none⟩)) ?_
       refine tk 66 6 (.pointer (some ⟨x,0,none⟩)) ?_
       refine tk 67 7 (.pointer (some ⟨x,38,none⟩)) ?_
       refine tk2 68 8 (.slice (some ⟨gd,0,none⟩) (m.data.length+8) dc) rfl (fun wq hSw=>by have k:=hSw;go_simp) ?_
       refine tk 69 9 (.int .i64 (j:Int)) ?_
       refine tk2 70 10 (.pointer (some ⟨gd,j,none⟩)) rfl (fun wq hSw=>by go_simp;intro hbad;exact absurd hbad (by omega)) ?_
       refine wpAnyH_ready (rs:=[11]) (by kernel_rfl) (by simp) ?_
       refine AllReadyH.cons rfl (fun K hK=> ?_) AllReadyH.nil
       rw[if_pos (by rfl)]
       have k:=HDE.out
       go_simp
       refine hK.out _ _ hHeld (fun hHeld=> ?_)
       clear hK k
       try simp only[ah]
       refine tk 72 12 (.int .u8 (V.toNat:Int)) ?_
       refine tk2 73 13 (.pointer (some ⟨gd,j,none⟩)) rfl (fun wq hSw=>by go_simp;intro hbad;exact absurd hbad (by omega)) ?_
       refine wpAnyH_ready (rs:=[14]) (by kernel_rfl) (by simp) ?_
       refine AllReadyH.cons rfl (fun K hK=> ?_) AllReadyH.nil
       rw[if_pos (by rfl)]
       have k:=HDE.out
       have z1:=HDF.out
       go_simp
       have HNB:=hid (HLN.out wd HDH.out)
       refine hK.out _ (wd.setCell ⟨gd,j,none⟩ (.int .u8 (V.toNat:Int))) (Blk.cell HNB.out.k 38) (fun hHeld=> ?_)
       clear hK k z1 hHeld
       try simp only[ah]
       refine wpAnyH_done (by kernel_rfl) ?_ _
       go_wp2_with fail
       go_roundw
       case rel=>exact⟨j+1,by omega,by go_num,HNB.out,HDO.out.setCell (p:=⟨gd,j,none⟩) HGE.out _⟩
       case measure=>simp[intOf];omega
      ·have hjl:j=m.data.length:=by omega
       subst hjl
       have HE2:=hid (show LB wr x (x+1) m (.slice (some ⟨gn,0,none⟩) m.names.length nc) (.slice (some ⟨gq,0,none⟩) m.aV.length qc) (.slice (some ⟨gd,0,none⟩) m.data.length dc) (.slice (some ⟨gn,0,none⟩) (m.names.length+8) nc) (.slice (some ⟨gq,0,none⟩) (m.aV.length+8) qc) (.slice (some ⟨gd,0,none⟩) (m.data.length+8) dc) (m.names.map ab5++marks ab2 8) (m.aV.map acp++marks ab3 8) (m.data.map acy++marks 238 8)from by have h:=HL2.out;rw[acQ]at h;exact h)
       clear hlt hj
       have HFO:=hid HO2.out
       go_wp2_with fail
       go_end0
       refine⟨rfl, ?_,HFO.out⟩
       refine⟨gn,nc,gq,qc,gd,dc, ?_,HX.out.1,HX.out.2.1,HX.out.2.2.1,HX.out.2.2.2⟩
       rw[show(turned m).names.length=m.names.length from List.length_map ..,show(turned m).aV.length=m.aV.length from List.length_map ..,show(turned m).data.length=m.data.length from List.length_map ..]
       exact⟨HE2.out.k,HE2.out.n,HE2.out.q,HE2.out.d⟩
structure BkV(w0 w:World)(b i j H:Nat):Prop where
 up:Below w0.heap.size w0 w
 bb:w0.heap.size≤b
 ex:∃Y N Q CY CN CQ,BkS w b b Y N Q∧Fam w b 5 1 Y CY∧Fam w b 9 1 N CN∧Fam w b 37 3 Q CQ∧(Y.length=i∧N.length=j∧Q.length=j)∧∀v∈Y++N++Q,(∀A n c,v= .slice A n c→n≤16777216)∧∀g,v.ownBlock=some g→g<H
theorem BkV.lt{w0 w:World}{b i j H:Nat}(h:BkV w0 w b i j H):b<w.heap.size:=by
 obtain⟨-, -,_,_,_,_,_,_,⟨_,_,_,k, -⟩, -⟩:=h
 exact Blk.lt k
theorem BkV.new{w0 w w':World}{b i j H:Nat}(h:BkV w0 w b i j H)(hb:Below w.heap.size w w'):BkV w0 w' b i j H:=by
 obtain⟨h1,h2,Y,N,Q,CY,CN,CQ,⟨vy,vn,vq,k1,k2,k3,k4⟩,f1,f2,f3,hl,hs⟩:=h
 exact⟨h1.trans (hb.mono h1.size),h2,Y,N,Q,CY,CN,CQ,⟨vy,vn,vq,Blk.below k1 hb (Blk.lt k1),aI k2 hb,aI k3 hb,aI k4 hb⟩,f1.new hb,f2.new hb,f3.new hb,hl,hs⟩
theorem BkV.start{w0 w:World}(h:Below w0.heap.size w0 w):BkV w0 (w.alloc (.cells #[.slice none 0 0,.slice none 0 0,.slice none 0 0] 29)) w.heap.size 0 0 0:=
 ⟨h.alloc h.size _,h.size,[],[],[],fun _=>[],fun _=>[],fun _=>[],⟨_,_,_,Blk.new w _ _,dS _ _ _ _,dS _ _ _ _,dS _ _ _ _⟩,Fam.nil_ ..,Fam.nil_ ..,Fam.nil_ ..,⟨rfl,rfl,rfl⟩,fun v hv=>by simp at hv⟩
theorem adB{w:World}{b s:Nat}{e:TypeId}{vs:List Value}{C:Nat→List Value}(hf:Fam w b e s vs C){v:Value}{g:Nat}(hv:v∈vs)(hg:v.ownBlock=some g):g<w.heap.size:=by
 obtain⟨i,hi⟩:=List.getElem?_of_mem hv
 obtain⟨n,hr⟩:=hf.own i v hi
 exact(hr.lt g hg).2
theorem aeb{w0 w:World}{b i j:Nat}{Y N Q:List Value}{CY CN CQ:Nat→List Value}(h1:Below w0.heap.size w0 w)(h2:w0.heap.size≤b)(hk:BkS w b b Y N Q)(f1:Fam w b 5 1 Y CY)(f2:Fam w b 9 1 N CN)(f3:Fam w b 37 3 Q CQ)(hy:Y.length=i)(hn:N.length=j)(hq:Q.length=j)(hs:∀v∈Y++N++Q,∀A n c,v= .slice A n c→n≤16777216):BkV w0 w b i j w.heap.size:=by
 refine⟨h1,h2,Y,N,Q,CY,CN,CQ,hk,f1,f2,f3,⟨hy,hn,hq⟩,fun v hv=>⟨hs v hv,fun g hg=> ?_⟩⟩
 simp only[List.mem_append]at hv
 rcases hv with(hv|hv)|hv
 ·exact adB f1 hv hg
 ·exact adB f2 hv hg
 ·exact adB f3 hv hg
theorem BkV.here{w0 w:World}{b i j H:Nat}(h:BkV w0 w b i j H):BkV w0 w b i j w.heap.size:=by
 obtain⟨h1,h2,Y,N,Q,CY,CN,CQ,hk,f1,f2,f3,hl,hs⟩:=h
 exact aeb h1 h2 hk f1 f2 f3 hl.1 hl.2.1 hl.2.2 fun v hv=>(hs v hv).1
theorem adN{w0 w:World}{b i j H:Nat}{m:Mg}{An Aq Ad:Option Addr}{nn cn nq cq nd cd:Nat}(h:BkV w0 w b i j H)(hH:b≤H)(hi:i≤1000)(hj:j≤1000)(ho:OL w H m (.slice An nn cn) (.slice Aq nq cq) (.slice Ad nd cd))(hs:nn≤16777216∧nq≤16777216∧nd≤16777216):
  Calls Tryz.prog 16 #[.pointer (some ⟨b,0,none⟩),iM m (.slice An nn cn) (.slice Aq nq cq) (.slice Ad nd cd)] w fun e w'=>e= .returned (.tuple #[])∧BkV w0 w' b (i+1) (j+1) w'.heap.size∧f_ b w w':=by
 obtain⟨hup,hbb,Y,N,Q,CY,CN,CQ,hk,f1,f2,f3,⟨hy,hn,hq⟩,hsh⟩:=h
 have far:∀ {vs:List Value},(∀(i:Nat) (v:Value),vs[i]? =some v→v∈Y++N++Q)→∀ {u:Value} {n s2:Nat} {e2:TypeId} {xs:List Value},w.ownsRow H e2 s2 u n xs→∀(i:Nat) (v:Value) (g:Nat),vs[i]? =some v→v.ownBlock=some g→u.ownBlock≠some g:=fun hf u n s2 e2 xs hr i v g hv hg hu=>by
  have h1:=(hsh v (hf i v hv)).2 g hg
  have h2:=dH hr g hu
  omega
 have g1:=f1.snoc (iw ho.d hH) (far (fun i v h=>adE h) ho.d)
 have g2:=f2.snoc (iw ho.n hH) (far (fun i v h=>ad6 h) ho.n)
 have g3:=f3.snoc (iw ho.q hH) (far (fun i v h=>ad7 h) ho.q)
 refine(Ea (Nat.le_refl b) hk (by omega) (by omega) (by omega)).mono ?_
 rintro e w' ⟨rfl,hk',hr⟩
 have fam:∀ {e:TypeId} {s:Nat} {vs:List Value} {C:Nat→List Value},(e=5∨e=9∨e=37)→Fam w b e s vs C→Fam w' b e s vs C:=fun he hf=>⟨fun i v hv=>by obtain⟨n,hr'⟩:=hf.own i v hv;exact⟨n,hr.r _ _ _ _ _ _ he hr'⟩,hf.apart⟩
 have hup':=hup.trans (hr.b.mono hbb)
 have n16:∀v∈Y++[Value.slice Ad nd cd]++(N++[Value.slice An nn cn])++(Q++[Value.slice Aq nq cq]),∀A n c,v= .slice A n c→n≤16777216:=by
  intro v hv A n c e
  simp only[List.mem_append,List.mem_singleton]at hv
  rcases hv with((hv|hv)|(hv|hv))|(hv|hv)
  ·exact(hsh v (by simp[hv])).1 A n c e
  ·rw[hv]at e;injection e with _ e2 _;omega
  ·exact(hsh v (by simp[hv])).1 A n c e
  ·rw[hv]at e;injection e with _ e2 _;omega
  ·exact(hsh v (by simp[hv])).1 A n c e
  ·rw[hv]at e;injection e with _ e2 _;omega
 refine⟨rfl,aeb hup' hbb hk' (fam (.inl rfl) g1) (fam (.inr (.inl rfl)) g2) (fam (.inr (.inr rfl)) g3) (by rw[List.length_append,hy];rfl) (by rw[List.length_append,hn];rfl) (by rw[List.length_append,hq];rfl) n16,hr⟩
structure BkD(w0 w:World)(b i j H:Nat)(vy vn vq:Value)(Y N Q:List Value)(CY CN CQ:Nat→List Value):Prop where
 up:Below w0.heap.size w0 w
 bb:w0.heap.size≤b
 k:Blk w b 29 #[vy,vn,vq]
 y:w.ownsRow b 22 1 vy Y.length Y
 n:w.ownsRow b 33 1 vn N.length N
 q:w.ownsRow b 34 1 vq Q.length Q
 f:Fam w b 5 1 Y CY∧Fam w b 9 1 N CN∧Fam w b 37 3 Q CQ
 l:Y.length=i∧N.length=j∧Q.length=j
 s:∀v∈Y++N++Q,(∀A n c,v= .slice A n c→n≤16777216)∧∀g,v.ownBlock=some g→g<H
theorem BkV.open_{w0 w:World}{b i j H:Nat}(h:BkV w0 w b i j H):∃vy vn vq Y N Q CY CN CQ,BkD w0 w b i j H vy vn vq Y N Q CY CN CQ:=by
 obtain⟨h1,h2,Y,N,Q,CY,CN,CQ,⟨vy,vn,vq,k1,k2,k3,k4⟩,f1,f2,f3,hl,hs⟩:=h
 exact⟨vy,vn,vq,Y,N,Q,CY,CN,CQ,h1,h2,k1,k2,k3,k4,⟨f1,f2,f3⟩,hl,hs⟩
section
variable {w0 w w':World} {b i j H:Nat} {vy vn vq:Value} {Y N Q:List Value} {CY CN CQ:Nat→List Value}
theorem BkD.new(h:BkD w0 w b i j H vy vn vq Y N Q CY CN CQ)(hb:Below w.heap.size w w'):BkD w0 w' b i j H vy vn vq Y N Q CY CN CQ:=
 ⟨h.up.trans (hb.mono h.up.size),h.bb,Blk.below h.k hb (Blk.lt h.k),aI h.y hb,aI h.n hb,aI h.q hb,⟨h.f.1.new hb,h.f.2.1.new hb,h.f.2.2.new hb⟩,h.l,h.s⟩
theorem BkD.grown(h:BkD w0 w b i j H vy vn vq Y N Q CY CN CQ)(hg:w.grownBy w' vy.ownBlock):Blk w' b 29 #[vy,vn,vq]:=
 ((Off.refl (fun i=>vy.ownBlock=some i) w).grown hg (fun g hg=>hg)).blk h.k fun e=>bZ h.y (by decide) b _ _ e h.k
theorem BkD.row{n G:Nat}{A4 Af:Option Addr}{c4 cf:Nat}{xs:List Value}(h:BkD w0 w b i j H vy vn vq Y N Q CY CN CQ)(hH:b≤H)(hHG:H≤G)(hf:w.ownsRow H 5 1 (.slice Af n cf) n xs)(hfG:∀g,(Value.slice Af n cf).ownBlock=some g→g<G)(hn:n≤16777216)(hown:w'.ownsRow b 22 1 (.slice A4 (Y.length+1) c4) (Y.length+1) (Y++[.slice Af n cf]))(hg:w.grownBy w' vy.ownBlock):
  BkV w0 (w'.setCell ⟨b,0,none⟩ (.slice A4 (Y.length+1) c4)) b (i+1) j G∧f_ b w (w'.setCell ⟨b,0,none⟩ (.slice A4 (Y.length+1) c4)):=by
 have hk4:=h.grown hg
 have ho:=(Off.refl (fun i=>vy.ownBlock=some i) w).grown hg (fun g hg=>hg)
 have ho2:=fU w' b 0 (Value.slice A4 (Y.length+1) c4)
 have hr1:f_ b w w':=f_.off ho (fun i hi=>dH h.y i hi) (Nat.le_of_lt (Blk.lt h.k)) (fun i cur fr e hi he=>by rcases he with rfl|rfl|rfl|rfl<;>exact bZ h.y (by decide) i cur fr hi)
 have hr2:f_ b w' (w'.setCell ⟨b,0,none⟩ (.slice A4 (Y.length+1) c4)):=f_.off ho2 (fun i hi=>by have hi:i=b:=hi;omega) (Nat.le_of_lt (Blk.lt hk4)) (fun i cur fr e hi he=>by rcases he with rfl|rfl|rfl|rfl<;>exact Blk.noT hk4 (by decide) i cur fr hi)
 have hr:=hr1.trans hr2
 have hy2:=dL ho2 hown (Blk.noT hk4 (by decide))
 have hn2:=dL ho2 (h.n.kept hg (fC h.n h.y (by decide))) (Blk.noT hk4 (by decide))
 have hq2:=dL ho2 (h.q.kept hg (fC h.q h.y (by decide))) (Blk.noT hk4 (by decide))
 have hb2:Blk (w'.setCell ⟨b,0,none⟩ (.slice A4 (Y.length+1) c4)) b 29 #[.slice A4 (Y.length+1) c4,vn,vq]:=Blk.aW hk4 0 _
 have g1:=h.f.1.snoc (iw hf hH) (fun i v g hv hg hu=>by
  have h1:=(h.s v (adE hv)).2 g hg
  have h2:=dH hf g hu
  omega)
 generalize w'.setCell ⟨b,0,none⟩ (.slice A4 (Y.length+1) c4)=w2 at hr hy2 hn2 hq2 hb2⊢
 have fam:∀ {e:TypeId} {s:Nat} {vs:List Value} {C:Nat→List Value},(e=5∨e=9∨e=37)→Fam w b e s vs C→Fam w2 b e s vs C:=fun he hf=>⟨fun i v hv=>by obtain⟨n,hr'⟩:=hf.own i v hv;exact⟨n,hr.r _ _ _ _ _ _ he hr'⟩,hf.apart⟩
 refine⟨⟨h.up.trans (hr.b.mono h.bb),h.bb,Y++[.slice Af n cf],N,Q,_,CN,CQ,⟨_,_,_,hb2,by rw[List.length_append];exact hy2,hn2,hq2⟩,fam (.inl rfl) g1,fam (.inr (.inl rfl)) h.f.2.1,fam (.inr (.inr rfl)) h.f.2.2,⟨by rw[List.length_append,h.l.1];rfl,h.l.2.1,h.l.2.2⟩,fun v hv=> ?_⟩,hr⟩
 simp only[List.mem_append,List.mem_singleton]at hv
 have old:∀u,u∈Y++N++Q→(∀A n c,u= .slice A n c→n≤16777216)∧∀g,u.ownBlock=some g→g<G:=fun u hu=>⟨(h.s u hu).1,fun g hg=>Nat.lt_of_lt_of_le ((h.s u hu).2 g hg) hHG⟩
 rcases hv with((hv|hv)|hv)|hv
 ·exact old v (by simp[hv])
 ·exact⟨fun A n c e=>by rw[hv]at e;injection e with _ e2 _;omega,fun g hg=>by rw[hv]at hg;exact hfG g hg⟩
 ·exact old v (by simp[hv])
 ·exact old v (by simp[hv])
end
theorem aec{w0 w:World}{b i j H:Nat}(h:BkV w0 w b i j H)(hi:i≤20)(hj:j≤20):Calls Tryz.prog 18 #[.pointer (some ⟨b,0,none⟩)] w fun e w'=>e= .returned (.bool true)∧Below b w w'∧Off (fun k=>k<H) w w':=by
 obtain⟨-, -,Y,N,Q,CY,CN,CQ,hk,f1,f2,f3,⟨hy,hn,hq⟩,hsh⟩:=h
 refine(Gi (Nat.le_refl b) hk f1 f2 f3 (by omega) (by omega) (by omega) fun v hv=>(hsh v hv).1).mono ?_
 rintro e w' ⟨rfl,hb,ho⟩
 exact⟨rfl,hb,ho.mono fun k _ ⟨v,hv,hg⟩=>(hsh v hv).2 k hg⟩
end Go.Proofs.YtkblmloobkiloaaGreatDoor
