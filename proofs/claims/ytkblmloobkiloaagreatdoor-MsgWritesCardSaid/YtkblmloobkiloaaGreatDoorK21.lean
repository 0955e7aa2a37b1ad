/-
  MWH: what the laws of package msg need of them.
-/
import Derived.Test.YtkblmloobkiloaaGreatDoorK00
import Derived.Test.YtkblmloobkiloaaGreatDoorK20
import Derived.Test.YtkblmloobkiloaaGreatDoorK13
namespace Go.Proofs.YtkblmloobkiloaaGreatDoor
open Go.Lib (hid)
open Go.RowKit
theorem ad4{op:Oper}{a:Act}{w:World}(x:Operand){q:Nat}{m:Mg}{vn vq vd sn sq sd:Value}(ho:op.op= .load 41 x)(hx:a.eval x= .pointer (some ⟨q,0,none⟩))(hk:acH w q m vn vq vd sn sq sd):(execOp a.eval op).run Tryz.prog w= .ok (.value (iM m vn vq vd)) w:=by
 unfold execOp
 simp only[ho,hx,Instr.loadAt,Instr.sureAddr,Sem.run_bind,Sem.run_pure,Result.andThen_ok,run_loadVar_mid w q 0 41 (aF m vn vq vd) _ (Blk.range hk 0 _ rfl) Tryz.underlying41 rfl aB]
theorem adf{w:World}{a:Addr}{v:Value}(h:w.cell? a=some v):a.block<w.heap.size:=by
 unfold World.cell? at h
 split at h
 ·rename_i hb;exact(Array.getElem?_eq_some_iff.1 hb).1
 ·cases h
theorem acu{w:World}{base s n g c:Nat}{e:TypeId}{xs:List Value}{i:Nat}{v:Value}(h:w.ownsRow base e s (.slice (some ⟨g,0,none⟩) n c) n xs)(hx:xs[i]? =some v):w.cell? ⟨g,i,none⟩=some v:=by
 have h1:=Reads.iH h
 have hn:0<xs.length:=Nat.lt_of_le_of_lt (Nat.zero_le _) (List.getElem?_eq_some_iff.1 hx).1
 have h0:0<n:=by
  rcases Nat.eq_zero_or_pos n with h0|h0
  ·have:=h1.1;rw[h0,Nat.zero_mul]at this;omega
  ·exact h0
 obtain⟨ad,e1, -,hc⟩:=h1.2 h0
 injection e1 with e1
 have h2:=hc i v hx
 rw[←e1,Addr.add_mid,Nat.zero_add]at h2
 exact h2
theorem acP{α:Type}(l:List α)(x:α)(k:Nat)(h1:1≤k)(h2:k≤8):(l++marks x 8)[l.length+8-k]? =some x:=by
 rw[List.getElem?_append_right (by omega),marks,List.getElem?_replicate,if_pos (by omega)]
theorem ad5(l:List Qd)(i:Nat)(q:Qd)(h:l[i]? =some q):(ng l)[i*3+2]? =some (.int .u64 (q.path:Int)):=by
 induction l generalizing i with
 |nil=>simp at h
 |cons x l ih=>
  cases i with
  |zero=>
   simp at h
   subst h
   rfl
  |succ i=>
   have h:=ih i (by simpa using h)
   show(nU x++ng l)[(i+1)*3+2]? =_
   rw[List.getElem?_append_right (by show 3≤_;omega)]
   rw[←h]
   congr 1
   show(i+1)*3+2-3=_
   omega
theorem acs.lists{w:World}{x:Nat}{m:Mg}{gn nc gq qc gd dc:Nat}(h:LB w x (x+1) m (.slice (some ⟨gn,0,none⟩) m.names.length nc) (.slice (some ⟨gq,0,none⟩) m.aV.length qc) (.slice (some ⟨gd,0,none⟩) m.data.length dc) (.slice (some ⟨gn,0,none⟩) (m.names.length+8) nc) (.slice (some ⟨gq,0,none⟩) (m.aV.length+8) qc) (.slice (some ⟨gd,0,none⟩) (m.data.length+8) dc) (m.names++marks ab2 8) (m.aV++marks ab3 8) (m.data++marks 238 8)):Lists w w.heap.size m (.slice (some ⟨gn,0,none⟩) m.names.length nc) (.slice (some ⟨gq,0,none⟩) m.aV.length qc) (.slice (some ⟨gd,0,none⟩) m.data.length dc):=by
 have e1:(m.names++marks ab2 8).length=m.names.length+8:=by simp[marks]
 have e2:(m.aV++marks ab3 8).length=m.aV.length+8:=by simp[marks]
 have e3:(m.data++marks 238 8).length=m.data.length+8:=by simp[marks]
 have hn:=h.n
 have hq:=h.q
 have hd:=h.d
 rw[e1]at hn
 rw[e2]at hq
 rw[e3]at hd
 obtain⟨_,_,i1,c1,d1⟩:=aJ hn
 injection i1 with j1 j2 j3
 subst j1 j3
 obtain⟨_,_,i2,c2,d2⟩:=aJ hq
 injection i2 with k1 k2 k3
 subst k1 k3
 obtain⟨_,_,i3,c3,d3⟩:=aJ hd
 injection i3 with l1 l2 l3
 subst l1 l3
 have blk:∀ {e:TypeId} {s n g c:Nat} {xs:List Value},w.ownsRow (x+1) e s (.slice (some ⟨g,0,none⟩) n c) n xs→g<w.heap.size:=fun {e s n g c xs} hr=>by
  rcases hr.2 with⟨h0, -⟩|⟨g',cap,cur,h0,hb,hg, -⟩
  ·cases h0
  ·injection h0 with h1 _ _
   injection h1 with h1
   injection h1 with h1 _ _
   rw[h1]
   exact dP hg
 refine⟨⟨_,_,rfl,by omega,d1, ?_⟩,⟨_,_,rfl,by omega,d2, ?_⟩,⟨_,_,rfl,by omega,d3, ?_⟩⟩
 ·refine⟨by simp,fun _=>⟨_,rfl,blk hn,fun j u hj=> ?_⟩⟩
  rw[Addr.add_mid,Nat.zero_add]
  exact acu hn (by rw[h_,List.map_append,List.getElem?_append_left (List.getElem?_eq_some_iff.1 hj).1];exact hj)
 ·refine⟨by rw[aa1],fun _=>⟨_,rfl,blk hq,fun j u hj=> ?_⟩⟩
  rw[Addr.add_mid,Nat.zero_add]
  exact acu hq (by rw[ng,List.flatMap_append,List.getElem?_append_left (List.getElem?_eq_some_iff.1 hj).1];exact hj)
 ·refine⟨by simp,fun _=>⟨_,rfl,blk hd,fun j u hj=> ?_⟩⟩
  rw[Addr.add_mid,Nat.zero_add]
  exact acu hd (by rw[gy,List.getElem?_append_left (List.getElem?_eq_some_iff.1 hj).1];exact hj)
set_option maxRecDepth 100000 in
set_option maxHeartbeats 12800000 in
theorem acF(m m0:Mg)(x:Nat)(vn vq vd:Value)(w:World)(hx:acs w x m)(hl0:Lists w w.heap.size m0 vn vq vd)(hs:m.small):
  Calls Tryz.prog 28 #[.pointer (some ⟨x,0,none⟩),iM m0 vn vq vd] w (qK m m0 w):=by
 obtain⟨gn,nc,gq,qc,gd,dc,hlb⟩:=hx
 have hup:Below w.heap.size w (w.alloc (.cells (aF m0 vn vq vd).toArray 41)):=(Below.refl _ _).alloc (Nat.le_refl _) _
 have HU:=hid hup
 have HM:=hid (show aK (w.alloc (.cells (aF m0 vn vq vd).toArray 41)) w.heap.size m0 vn vq vd from Blk.new w _ _)
 have HL0:=hid ((hl0.below hup).more hup.size)
 have HB:=hid (hlb.new hup)
 have HN:=hid (And.intro hs.names (And.intro hs.aV hs.data))
 clear hup hlb hl0 hs
 go_enter Tryz.func28,Tryz.ntmps28
 go_upto_region 1 with(fail)
 change Code.wp _ _ _ _ (w.alloc (.cells (aF m0 vn vq vd).toArray 41))
 generalize w.alloc (.cells (aF m0 vn vq vd).toArray 41)=w1 at HU HM HB HL0⊢
 generalize hz:w.heap.size=z at HU HM⊢
 have HZZ:=hid hz;clear hz
 have HLS:=hid (acs.lists HB.out)
 obtain⟨nl,hnl⟩:∃n,n=m.names.length+8:=⟨_,rfl⟩
 obtain⟨ql,hql⟩:∃n,n=m.aV.length+8:=⟨_,rfl⟩
 obtain⟨dl,hdl⟩:∃n,n=m.data.length+8:=⟨_,rfl⟩
 have HRN:=hid (show∀k,1≤k→k≤8→w1.cell? ⟨gn,nl-k,none⟩=some (.string ab2)from fun k h1 h2=>by
  have h:=HB.out.n
  rw[show(m.names++marks ab2 8).length=m.names.length+8 by simp[marks]]at h
  rw[hnl]
  exact acu h (by rw[h_,List.getElem?_map,acP _ _ _ h1 h2];rfl))
 have HRQ:=hid (show∀k,1≤k→k≤8→w1.cell? ⟨gq,(ql-k)*3+2,none⟩=some (.int .u64 88)from fun k h1 h2=>by
  have h:=HB.out.q
  rw[show(m.aV++marks ab3 8).length=m.aV.length+8 by simp[marks]]at h
  rw[hql]
  exact acu h (ad5 _ _ _ (acP _ _ _ h1 h2)))
 have HRD:=hid (show∀k,1≤k→k≤8→w1.cell? ⟨gd,dl-k,none⟩=some (.int .u8 238)from fun k h1 h2=>by
  have h:=HB.out.d
  rw[show(m.data++marks (238:UInt8) 8).length=m.data.length+8 by simp[marks]]at h
  rw[hdl]
  exact acu h (by rw[aX,List.getElem?_map,acP _ _ _ h1 h2];rfl))
 rw[←hnl,←hql,←hdl]at HB
 have HNL:=hid (show 8≤nl∧nl≤16777224∧8≤ql∧ql≤16777224∧8≤dl∧dl≤16777224 from by have:=HN.out;omega)
 clear hnl hql hdl
 have aft:∀ {p:Addr},True:=fun {_}=>trivial
 clear aft
 have HG:=hid (show gn<w1.heap.size∧gq<w1.heap.size∧gd<w1.heap.size from by
  have f:∀(q:Addr) (v:Value),w1.cell? q=some v→q.block<w1.heap.size:=fun q v h=>adf h
  exact⟨f _ _ (HRN.out 1 (by decide) (by decide)),f _ _ (HRQ.out 1 (by decide) (by decide)),f _ _ (HRD.out 1 (by decide) (by decide))⟩)
 go_upto_region 2 with(fail)
 go_loopw [5] (fun i wr=>∃k:Nat,1≤k∧k≤9∧i= .int .i64 (k:Int)∧Below w1.heap.size w1 wr) (fun i _=>9-(intOf i).toNat)
 case atStart=>exact⟨1,by decide,by decide,rfl,Below.refl _ _⟩
 case round=>
  obtain⟨k,hk1,hk9,rfl,hb⟩:=hrel
  have HBR:=hid hb
  clear hb
  by_cases hlt:k≤8
  ·have HKZ:=hid (Blk.below HB.out.k HBR.out (Blk.lt HB.out.k))
   have hnl:=HNL.out
   have hle:(k:Int)≤8:=by omega
   have j0:wr.drew.cell? ⟨x,36,none⟩=some (.slice (some ⟨gn,0,none⟩) nl nc):=Blk.cell HKZ.out 36
   have j1:wr.drew.cell? ⟨x,37,none⟩=some (.slice (some ⟨gq,0,none⟩) ql qc):=Blk.cell HKZ.out 37
   have j2:wr.drew.cell? ⟨x,38,none⟩=some (.slice (some ⟨gd,0,none⟩) dl dc):=Blk.cell HKZ.out 38
   have e0:wr.drew.cell? ⟨gn,nl-k,none⟩=some (.string ⟨#[108,101,110,116]⟩):=(HBR.out.cell (p:=⟨gn,nl-k,none⟩) HG.out.1).trans (HRN.out k hk1 hlt)
   have e1:wr.drew.cell? ⟨gq,(ql-k)*3+2,none⟩=some (.int .u64 88):=(HBR.out.cell (p:=⟨gq,(ql-k)*3+2,none⟩) HG.out.2.1).trans (HRQ.out k hk1 hlt)
   have e2:wr.drew.cell? ⟨gd,dl-k,none⟩=some (.int .u8 238):=(HBR.out.cell (p:=⟨gd,dl-k,none⟩) HG.out.2.2).trans (HRD.out k hk1 hlt)
   go_wp2_with fail
   go_region
   go_wp2_with fail
   go_roundw
   case rel=>exact⟨k+1,by omega,by omega,by go_num,HBR.out.drew⟩
   case measure=>simp[intOf];omega
  ·have hle:¬(k:Int)≤8:=by omega
   go_upto_region 6 with(fail)
   try simp only[Act.put]
   have HMS:=hid (show∀wx:World,Below w1.heap.size w1 wx→aK wx z m0 vn vq vd from fun wx h=>Blk.below HM.out h (Blk.lt HM.out))
   have HKS:=hid (show∀wx:World,Below w1.heap.size w1 wx→acH wx x m (.slice (some ⟨gn,0,none⟩) m.names.length nc) (.slice (some ⟨gq,0,none⟩) m.aV.length qc) (.slice (some ⟨gd,0,none⟩) m.data.length dc) (.slice (some ⟨gn,0,none⟩) nl nc) (.slice (some ⟨gq,0,none⟩) ql qc) (.slice (some ⟨gd,0,none⟩) dl dc)from fun wx h=>Blk.below HB.out.k h (Blk.lt HB.out.k))
   refine wp_region_held_drew (S:=fun wx=>Below w1.heap.size w1 wx) (by kernel_rfl) HBR.out.drew (fun hHeld=> ?_)
   generalize wr.drew=wd at hHeld⊢
   refine tk 57 0 (.pointer (some ⟨x,0,none⟩)) ?_
   refine tk 58 1 (.pointer (some ⟨x,0,none⟩)) ?_
   refine tk 59 2 (.pointer (some ⟨x,0,none⟩)) ?_
   refine tk2 60 3 (iM m (.slice (some ⟨gn,0,none⟩) m.names.length nc) (.slice (some ⟨gq,0,none⟩) m.aV.length qc) (.slice (some ⟨gd,0,none⟩) m.data.length dc)) rfl (fun wq hSw=>by exact ad4 _ rfl rfl (HKS.out _ hSw)) ?_
   refine tk2 61 4 (iM m0 vn vq vd) rfl (fun wq hSw=>by exact acI _ rfl rfl (HMS.out _ hSw)) ?_
   refine wpAnyH_ready (rs:=[5]) (by kernel_rfl) (by simp) ?_
   refine AllReadyH.cons rfl (fun K hK=> ?_) AllReadyH.nil
   rw[if_pos (by rfl)]
   go_simp
   refine(FW m m0 (.slice (some ⟨gn,0,none⟩) m.names.length nc) (.slice (some ⟨gq,0,none⟩) m.aV.length qc) (.slice (some ⟨gd,0,none⟩) m.data.length dc) vn vq vd wd ((HLS.out.below hHeld).more hHeld.size) ((HL0.out.below hHeld).more hHeld.size)).mono ?_
   rintro e wy ⟨⟨rb,rfl,hrb⟩,hby⟩
   dsimp only
   have cO:=hHeld.trans (hby.mono hHeld.size)
   have HRB:=hid hrb
   clear hHeld hby hrb
   refine hK.out _ _ cO (fun hHeld=> ?_)
   clear hK cO
   refine tk 4 6 (.bool rb) ?_
   refine wpAnyH_done (by kernel_rfl) ?_ _
   have HF:=hid (HU.out.trans (hHeld.mono (by have:=HU.out.size;have:=HZZ.out;omega)))
   clear hHeld
   go_wp2_with fail
   go_ret
   exact⟨⟨rb,rfl,HRB.out⟩,by rw[HZZ.out];exact HF.out⟩
end Go.Proofs.YtkblmloobkiloaaGreatDoor
