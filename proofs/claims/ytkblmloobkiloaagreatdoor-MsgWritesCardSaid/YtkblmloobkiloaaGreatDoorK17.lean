/-
  MWC MWB: what the laws of package msg need of them.
-/
import Derived.Test.YtkblmloobkiloaaGreatDoorK00
import Derived.Test.YtkblmloobkiloaaGreatDoorK12
import Derived.Test.YtkblmloobkiloaaGreatDoorK16
import Derived.Test.YtkblmloobkiloaaGreatDoorK09
import Derived.IntWalk
set_option maxRecDepth 100000
set_option maxHeartbeats 12800000
namespace Go.Proofs.YtkblmloobkiloaaGreatDoor
open Go.Lib (hid)
open Go.RowKit
theorem adC(m:Mg):(refused m).2=(enc m).1.length:=by
 by_cases h:(refused m).1=0
 ·exact(NQ h).symm
 ·rw[abk h]
  unfold refused at h⊢
  split at h
  ·rfl
  ·split at h
   ·split at h
    ·rename_i h1 h2
     rw[if_pos h1,if_pos h2]
     rfl
    ·exact absurd rfl h
   ·rename_i h1
    rw[if_neg h1]
    rfl
theorem ac_(m:Mg)(hk:m.kind<256)(vn vq vd:Value)(w:World)(hl:Lists w w.heap.size m vn vq vd)(hs:m.small):
  Calls Tryz.prog 68 #[iM m vn vq vd] w fun e w'=>e= .returned (.int .i64 ((enc m).1.length:Int))∧Below w.heap.size w w':=by
 have hup:Below w.heap.size w (w.alloc (.cells (aF m vn vq vd).toArray 41)):=(Below.refl _ _).alloc (Nat.le_refl _) _
 have HU:=hid hup
 have HM:=hid (show aK (w.alloc (.cells (aF m vn vq vd).toArray 41)) w.heap.size m vn vq vd from Blk.new w _ _)
 have HL:=hid ((hl.below hup).more hup.size)
 have HK:=hid (And.intro hk hs)
 clear hup hl hk hs
 go_enter Tryz.func68,Tryz.ntmps68
 go_upto_region 1 with(fail)
 change Code.wp _ _ _ _ (w.alloc (.cells (aF m vn vq vd).toArray 41))
 generalize w.alloc (.cells (aF m vn vq vd).toArray 41)=w1 at HU HM HL⊢
 generalize hz:w.heap.size=z at HU HM⊢
 have HZZ:=hid hz;clear hz
 go_wp2_with(refine wlw HM.out 0 (aF m vn vq vd) rfl rfl _ _ rfl rfl _ Tryz.underlying41 rfl aB ?_)
 refine(Y1 m vn vq vd w1 HK.out.1 HL.out HK.out.2).mono ?_
 rintro e w2 ⟨rfl,hb⟩
 have HB2:=hid (HU.out.trans (hb.mono (by have:=HU.out.size;have:=HZZ.out;omega)))
 clear hb
 rw[Z9,adC]
 go_wp2_with fail
 go_ret
 exact⟨rfl,by rw[HZZ.out];exact HB2.out⟩
theorem acI{op:Oper}{a:Act}{w:World}(x:Operand){q:Nat}{m:Mg}{vn vq vd:Value}(ho:op.op= .load 41 x)(hx:a.eval x= .pointer (some ⟨q,0,none⟩))(hk:aK w q m vn vq vd):(execOp a.eval op).run Tryz.prog w= .ok (.value (iM m vn vq vd)) w:=by
 unfold execOp
 simp only[ho,hx,Instr.loadAt,Instr.sureAddr,Sem.run_bind,Sem.run_pure,Result.andThen_ok,run_loadVar_mid w q 0 41 (aF m vn vq vd) _ (Blk.range hk 0 _ rfl) Tryz.underlying41 rfl aB]
def adS(l:List Fld)(xn xq xd:Value):Prop:=(.names∉l→xn= .slice none 0 0)∧(.aV∉l→xq= .slice none 0 0)∧(.data∉l→xd= .slice none 0 0)
theorem adS.more{l:List Fld}{xn xq xd:Value}(h:adS l xn xq xd)(f:Fld):adS (l++[f]) xn xq xd:=
 ⟨fun e=>h.1 fun h=>e (List.mem_append_left _ h),fun e=>h.2.1 fun h=>e (List.mem_append_left _ h),fun e=>h.2.2 fun h=>e (List.mem_append_left _ h)⟩
theorem acL(f:Fld):((f.rX.toNat:Int)==113)=decide (f= .qid)∧((f.rX.toNat:Int)==68)=decide (f= .data):=by cases f<;>exact⟨by decide,by decide⟩
theorem ada{f:Fld}(h:0<f.width)(k m:Mg):k.move m f=k.aG (m.num f) f:=by cases f<;>first|exact absurd h (by decide)|rfl
theorem adb{f:Fld}(h:f.isText=true)(k m:Mg):k.move m f=k.bV (m.txt f) f:=by cases f<;>first|exact absurd h (by decide)|rfl
theorem adT{m:Mg}(hm:m.ok){f:Fld}(hf:0<f.width):m.num f<256^f.width:=by
 cases f<;>first
  |exact absurd hf (by decide)
  |exact hm.bI
  |exact hm.dB
  |exact hm.fid
  |exact hm.aU
  |exact hm.aQ
  |exact hm.perm
  |exact hm.count
  |exact hm.aT
  |exact hm.mode
  |exact hm.offset
theorem adU{w:World}{z:Nat}{k:Mg}{xn xq xd:Value}(h:OL w z k xn xq xd)(n:Nat)(f:Fld):OL w z (k.aG n f) xn xq xd:=by cases f<;>exact⟨h.n,h.q,h.d⟩
theorem adV{w:World}{z:Nat}{k:Mg}{xn xq xd:Value}(h:OL w z k xn xq xd)(s:ByteArray)(f:Fld):OL w z (k.bV s f) xn xq xd:=by cases f<;>exact⟨h.n,h.q,h.d⟩
theorem ade{f:Fld}(hw:¬0<f.width)(ht:f.isText=false)(h1:f≠ .names)(h2:f≠ .aV)(h3:f≠ .qid)(h4:f≠ .data)(h5:f≠ .stat):False:=by
 cases f<;>first|exact hw (by decide)|exact absurd ht (by decide)|exact h1 rfl|exact h2 rfl|exact h3 rfl|exact h4 rfl|exact h5 rfl
def acG(c z:Nat)(l:List Fld)(k:Mg)(w w':World):Prop:=(∃xn xq xd,aK w' c k xn xq xd∧OL w' z k xn xq xd∧adS l xn xq xd)∧Off (fun i=>i=c) w w'
theorem acG.end_{w0 w w1 w':World}{c z:Nat}{l:List Fld}{k k':Mg}{xn xq xd yn yq yd:Value}(h0:Off (fun i=>i=c) w0 w)(hk:aK w1 c k xn xq xd)(ho:OL w1 z k' yn yq yd)(h1:Below w.heap.size w w1)(hb:aK w' c k' yn yq yd)(hoff:Off (fun i=>i=c) w1 w')(hn:adS l yn yq yd):acG c z l k' w0 w':=
 ⟨⟨_,_,_,hb,ho.qp hk hoff,hn⟩,h0.trans ((Off.of_below h1).trans hoff)⟩
theorem ac0(m:Mg)(hm:m.ok)(vn vq vd:Value)(w:World)(hl:Lists w w.heap.size m vn vq vd)(hs:m.small):Calls Tryz.prog 67 #[iM m vn vq vd] w (ado (clean m) w):=by
 obtain⟨hu,hmb,hz⟩:=uZ w m vn vq vd
 have HU:=hid hu
 have HM:=hid hmb
 have HZ:=hid hz
 have HL:=hid hl
 have HMO:=hid hm
 have HN:=hid (And.intro hs.names (And.intro hs.aV hs.data))
 have ZY:=hid (fun w1=>Bv m.kind hm.kind w1)
 obtain⟨An,cn,rfl, -⟩:=hl.n
 obtain⟨Aq,cq,rfl, -⟩:=hl.q
 obtain⟨Ad,cd,rfl, -⟩:=hl.d
 clear hu hmb hz hs hl hm
 obtain⟨fs,hfs⟩:∃fs,fs=(bQ m.kind).getD []:=⟨_,rfl⟩
 have HLL:=hid (show(iQ m.kind).data.toList=fs.map Fld.rX from by
  rw[hfs]
  unfold iQ
  cases bQ m.kind<;>simp[ofL])
 have hLs:(iQ m.kind).size=fs.length:=by
  have h:=congrArg List.length HLL.out
  rw[Array.length_toList,List.length_map]at h
  exact h
 have h20:fs.length≤20:=by rw[hfs];exact adR
 have HCL:=hid (show clean m=fs.foldl (fun c f=>c.move m f) (head m.kind m.tag)from by rw[hfs];rfl)
 have HND:=hid (show fs.Nodup from by
  rw[hfs]
  cases h:bQ m.kind with
  |none=>exact List.nodup_nil
  |some l=>exact Gf h)
 clear hfs
 generalize iQ m.kind=S at HLL hLs ZY
 generalize(bQ m.kind).isSome=bs at ZY
 go_enter Tryz.func67,Tryz.ntmps67
 go_upto_region 1 with(fail)
 change Code.wp _ _ _ _ ((w.alloc (.cells (aF m (.slice An m.names.length cn) (.slice Aq m.aV.length cq) (.slice Ad m.data.length cd)).toArray 41)).alloc (.cells (mgN (head 0 0)).toArray 41))
 generalize(w.alloc (.cells (aF m (.slice An m.names.length cn) (.slice Aq m.aV.length cq) (.slice Ad m.data.length cd)).toArray 41)).alloc (.cells (mgN (head 0 0)).toArray 41)=w1 at HU HM HZ⊢
 generalize hq:w.heap.size+1=q at HZ⊢
 have HQ:=hid hq;clear hq
 generalize hz:w.heap.size=z at HM HU HL⊢
 have HZZ:=hid hz;clear hz
 have HZQ:=hid (show z+1=q from by rw[←HZZ.out];exact HQ.out)
 have HS1:=hid (show q<w1.heap.size from Blk.lt HZ.out)
 have k0:w1.cell? ⟨z,0,none⟩=some (.int .u8 (m.kind:Int)):=Blk.cell HM.out 0
 go_wp2_with fail
 refine(ZY.out w1).mono ?_
 rintro e w' ⟨rfl,rfl⟩
 have k1:w1.cell? ⟨z,1,none⟩=some (.int .u16 (m.tag:Int)):=Blk.cell HM.out 1
 go_upto_region 3 with(change wpList _ _ _ _ _ (w1.alloc (.cells (mgN (head 0 0)).toArray 41));have HC2:=hid (show aK (w1.alloc (.cells (mgN (head 0 0)).toArray 41)) w1.heap.size (head 0 0) (.slice none 0 0) (.slice none 0 0) (.slice none 0 0)from Blk.new w1 _ _);have HZ2:=hid (Blk.alloc HZ.out (.cells (mgN (head 0 0)).toArray 41));have HM2:=hid (Blk.alloc HM.out (.cells (mgN (head 0 0)).toArray 41));have HB2:=hid (HU.out.alloc (by have:=HZQ.out;have:=HS1.out;omega) (.cells (mgN (head 0 0)).toArray 41));clear k0 k1;generalize w1.alloc (.cells (mgN (head 0 0)).toArray 41)=w2 at HC2 HZ2 HM2 HB2⊢;generalize w1.heap.size=c at HC2 HS1⊢;refine dA HC2.out 0 (mgN (head m.kind m.tag)) _ (bW ..) (Nat.le_refl 36) (bT _ rfl rfl rfl) rfl _ _ _ rfl rfl rfl aB ?_;intro w3 hs ho;have HC3:=hid (show aK w3 c (head m.kind m.tag) (.slice none 0 0) (.slice none 0 0) (.slice none 0 0)from hs);have HO3:=hid (ho (fun i=>i=c) rfl w2 (Off.refl _ _));clear hs ho)
 have hqc:q<c:=HS1.out
 have hzq:z+1=q:=HZQ.out
 have HM3:=hid (show aK w3 z m (.slice An m.names.length cn) (.slice Aq m.aV.length cq) (.slice Ad m.data.length cd)from HO3.out.blk HM2.out (show z≠c by omega))
 have HZ3:=hid (show aK w3 q (head 0 0) (.slice none 0 0) (.slice none 0 0) (.slice none 0 0)from HO3.out.blk HZ2.out (show q≠c by omega))
 have HB3:=hid (HB2.out.trans (HO3.out.below (B:=z) (fun i hi=>(by have hi:i=c:=hi;omega)) (by have:=Blk.lt HM2.out;omega)))
 have HNE:=hid (show z<c∧q<c∧z<q from⟨by omega,hqc,by omega⟩)
 have HL3:=hid (HL.out.below HB3.out)
 clear hqc hzq HU HM HZ HL HC2 HZ2 HM2 HB2 HO3 HQ
 go_upto_region 4 with(fail)
 go_loopw [6] (fun i wr=>∃j:Nat,j≤fs.length∧i= .int .i64 (j:Int)∧acG c z (fs.take j) ((fs.take j).foldl (fun c f=>c.move m f) (head m.kind m.tag)) w3 wr) (fun i _=>fs.length-(intOf i).toNat)
 case atStart=>exact⟨0,by omega,rfl,⟨_,_,_,HC3.out,OL.nil_ ..,⟨fun _=>rfl,fun _=>rfl,fun _=>rfl⟩⟩,Off.refl _ _⟩
 case round=>
  obtain⟨j,hj,rfl,⟨xn,xq,xd,hmb,hol,hnil⟩,ho⟩:=hrel
  have HK:=hid hmb
  have HO:=hid hol
  have HNI:=hid hnil
  have HR:=hid ho
  clear hmb hol hnil ho
  by_cases hlt:j<fs.length
  ·obtain⟨f,hfj⟩:∃f,fs[j]? =some f:=⟨fs[j],List.getElem?_eq_getElem _⟩
   have hjS:j<S.size:=by omega
   have hidx:S[j]'hjS=f.rX:=by
    have h:=byte_at S j hjS
    rw[HLL.out,List.getElem?_map,hfj]at h
    injection h with h
    exact h.symm
   have HTK:=hid (show fs.take (j+1)=fs.take j++[f]from by rw[List.take_add_one,hfj];rfl)
   have aeu:=hid (show f∉fs.take j from fun hmem=>by
    obtain⟨i,hi,he⟩:=List.getElem_of_mem hmem
    rw[List.length_take]at hi
    rw[List.getElem_take]at he
    have h2:fs[j]'hlt=f:=by have:=hfj;rw[List.getElem?_eq_getElem hlt]at this;exact Option.some.inj this
    exact List.pairwise_iff_getElem.1 HND.out i j (by omega) hlt (by omega) (he.trans h2.symm))
   obtain⟨k,hk⟩:∃k,k=(fs.take j).foldl (fun c f=>c.move m f) (head m.kind m.tag):=⟨_,rfl⟩
   rw[←hk]at HK HO
   have HNX:=hid (show(fs.take (j+1)).foldl (fun c f=>c.move m f) (head m.kind m.tag)=k.move m f from by rw[HTK.out,List.foldl_append,←hk];rfl)
   clear hk hfj
   have HMR:=hid (show aK wr z m (.slice An m.names.length cn) (.slice Aq m.aV.length cq) (.slice Ad m.data.length cd)from HR.out.blk HM3.out (show z≠c from fun e=>by have:=HNE.out.1;omega))
   have HLR:=hid (HL3.out.below (HR.out.below (B:=z) (fun i hi=>(by have hi:i=c:=hi;have:=HNE.out.1;omega)) (by have:=Blk.lt HM3.out;omega)))
   have h1:=bG HO.out.n
   have h2:=bG HO.out.q
   have h3:=bG HO.out.d
   have HLE:=hid (show z≤wr.heap.size from Nat.le_of_lt (Blk.lt HMR.out))
   go_wp2_with fail
   refine(jL f wr).mono ?_
   rintro e w' ⟨rfl,rfl⟩
   by_cases hw:0<f.width
   ·have hw1:(0:Int)<(f.width:Int):=by omega
    have HW:=hid hw
    clear hw
    go_upto_region 8 with(fail)
    try simp only[Act.put]
    have HMD:=hid (Blk.below HMR.out (aC wr) (Blk.lt HMR.out))
    have HKD:=hid (show aK wr.drew c k xn xq xd from Blk.below HK.out (aC wr) (Blk.lt HK.out))
    have HUD:=hid (aC wr)
    refine wp_region_held_drew (S:=fun wx=>aK wx z m (.slice An m.names.length cn) (.slice Aq m.aV.length cq) (.slice Ad m.data.length cd)) (by kernel_rfl) HMD.out (fun hHeld=> ?_)
    generalize wr.drew=wd at HMD HKD HUD hHeld⊢
    refine tk 33 1 (.int .u8 (f.rX.toNat:Int)) ?_
    refine tk 35 3 (.int .u8 (f.rX.toNat:Int)) ?_
    refine tk2 34 2 (iM m (.slice An m.names.length cn) (.slice Aq m.aV.length cq) (.slice Ad m.data.length cd)) rfl (fun wq hSw=>by exact acI _ rfl rfl hSw) ?_
    refine wpAnyH_ready (rs:=[0,4]) (by kernel_rfl) (by simp) ?_
    refine AllReadyH.cons rfl (fun K hK=> ?_) (AllReadyH.cons rfl (fun K hK=> ?_) AllReadyH.nil)
    ·rw[if_pos (by rfl)]
     refine wp_load_mid _ _ rfl _ _ rfl (aF k xn xq xd) _ (Blk.range HKD.out 0 _ rfl) Tryz.underlying41 rfl aB ?_
     refine hK.out _ _ hHeld (fun hHeld=> ?_)
     clear hK
     try simp only[ah]
     refine wpAnyH_ready (rs:=[4]) (by kernel_rfl) (by simp) ?_
     refine AllReadyH.cons rfl (fun K hK=> ?_) AllReadyH.nil
     rw[if_pos (by rfl)]
     go_simp
     refine(aaW f HW.out m HMO.out (.slice An m.names.length cn) (.slice Aq m.aV.length cq) (.slice Ad m.data.length cd) wd).mono ?_
     rintro e wn ⟨rfl,hb⟩
     dsimp only
     have HMN:=hid (Blk.below HMD.out hb (Blk.lt HMD.out))
     have HKN:=hid (show aK wn c k xn xq xd from Blk.below HKD.out hb (Blk.lt HKD.out))
     have HUN:=hid (HUD.out.trans (hb.mono HUD.out.size))
     clear hb
     refine hK.out _ _ HMN.out (fun hHeld=> ?_)
     clear hK
     try simp only[ah]
     refine wpAnyH_ready (rs:=[5]) (by kernel_rfl) (by simp) ?_
     refine AllReadyH.cons rfl (fun K hK=> ?_) AllReadyH.nil
     rw[if_pos (by rfl)]
     go_simp
     refine(uT f HW.out (m.num f) (adT HMO.out HW.out) k xn xq xd h1 h2 h3 wn).mono ?_
     rintro e wt ⟨rfl,hb⟩
     dsimp only
     have HMT:=hid (Blk.below HMN.out hb (Blk.lt HMN.out))
     have HKT:=hid (show aK wt c k xn xq xd from Blk.below HKN.out hb (Blk.lt HKN.out))
     have HUT:=hid (HUN.out.trans (hb.mono HUN.out.size))
     clear hb
     refine hK.out _ _ HMT.out (fun hHeld=> ?_)
     clear hK
     try simp only[ah]
     refine wpAnyH_ready (rs:=[6]) (by kernel_rfl) (by simp) ?_
     refine AllReadyH.cons rfl (fun K hK=> ?_) AllReadyH.nil
     rw[if_pos (by rfl)]
     refine WA HKT.out 0 (aF (k.aG (m.num f) f) xn xq xd) _ (kQ ..) (Nat.le_refl 36) (bT _ h1 h2 h3) _ _ _ rfl rfl rfl aB ?_
     intro wg hs ho
     have HOG:=hid (ho (fun i=>i=c) rfl _ (Off.refl _ _))
     have aax:=hid (acG.end_ (l:=fs.take (j+1)) (k':=(k.aG (m.num f) f)) HR.out HKT.out (adU (HO.out.below HUT.out) _ f) HUT.out hs HOG.out (by rw[HTK.out];exact HNI.out.more f))
     have HMG:=hid (HOG.out.blk HMT.out (show z≠c from fun e=>by have:=HNE.out.1;omega))
     clear hs ho
     refine hK.out _ _ HMG.out (fun hHeld=> ?_)
     clear hK
     refine wpAnyH_done (by kernel_rfl) ?_ _
     go_wp2_with fail
     go_roundw
     case rel=>exact⟨j+1,hlt,by go_num,by rw[HNX.out,ada HW.out k m];exact aax.out⟩
     case measure=>simp[intOf];omega
    ·rw[if_pos (by rfl)]
     go_simp
     refine(aaW f HW.out m HMO.out (.slice An m.names.length cn) (.slice Aq m.aV.length cq) (.slice Ad m.data.length cd) wd).mono ?_
     rintro e wn ⟨rfl,hb⟩
     dsimp only
     have HMN:=hid (Blk.below HMD.out hb (Blk.lt HMD.out))
     have HKN:=hid (show aK wn c k xn xq xd from Blk.below HKD.out hb (Blk.lt HKD.out))
     have HUN:=hid (HUD.out.trans (hb.mono HUD.out.size))
     clear hb
     refine hK.out _ _ HMN.out (fun hHeld=> ?_)
     clear hK
     try simp only[ah]
     refine wpAnyH_ready (rs:=[0]) (by kernel_rfl) (by simp) ?_
     refine AllReadyH.cons rfl (fun K hK=> ?_) AllReadyH.nil
     rw[if_pos (by rfl)]
     refine wp_load_mid _ _ rfl _ _ rfl (aF k xn xq xd) _ (Blk.range HKN.out 0 _ rfl) Tryz.underlying41 rfl aB ?_
     refine hK.out _ _ hHeld (fun hHeld=> ?_)
     clear hK
     try simp only[ah]
     refine wpAnyH_ready (rs:=[5]) (by kernel_rfl) (by simp) ?_
     refine AllReadyH.cons rfl (fun K hK=> ?_) AllReadyH.nil
     rw[if_pos (by rfl)]
     go_simp
     refine(uT f HW.out (m.num f) (adT HMO.out HW.out) k xn xq xd h1 h2 h3 wn).mono ?_
     rintro e wt ⟨rfl,hb⟩
     dsimp only
     have HMT:=hid (Blk.below HMN.out hb (Blk.lt HMN.out))
     have HKT:=hid (show aK wt c k xn xq xd from Blk.below HKN.out hb (Blk.lt HKN.out))
     have HUT:=hid (HUN.out.trans (hb.mono HUN.out.size))
     clear hb
     refine hK.out _ _ HMT.out (fun hHeld=> ?_)
     clear hK
     try simp only[ah]
     refine wpAnyH_ready (rs:=[6]) (by kernel_rfl) (by simp) ?_
     refine AllReadyH.cons rfl (fun K hK=> ?_) AllReadyH.nil
     rw[if_pos (by rfl)]
     refine WA HKT.out 0 (aF (k.aG (m.num f) f) xn xq xd) _ (kQ ..) (Nat.le_refl 36) (bT _ h1 h2 h3) _ _ _ rfl rfl rfl aB ?_
     intro wg hs ho
     have HOG:=hid (ho (fun i=>i=c) rfl _ (Off.refl _ _))
     have aax:=hid (acG.end_ (l:=fs.take (j+1)) (k':=(k.aG (m.num f) f)) HR.out HKT.out (adU (HO.out.below HUT.out) _ f) HUT.out hs HOG.out (by rw[HTK.out];exact HNI.out.more f))
     have HMG:=hid (HOG.out.blk HMT.out (show z≠c from fun e=>by have:=HNE.out.1;omega))
     clear hs ho
     refine hK.out _ _ HMG.out (fun hHeld=> ?_)
     clear hK
     refine wpAnyH_done (by kernel_rfl) ?_ _
     go_wp2_with fail
     go_roundw
     case rel=>exact⟨j+1,hlt,by go_num,by rw[HNX.out,ada HW.out k m];exact aax.out⟩
     case measure=>simp[intOf];omega
   ·have hw1:¬(0:Int)<(f.width:Int):=by omega
    have HWW:=hid hw
    clear hw
    go_wp2_with fail
    refine(jV f wr).mono ?_
    rintro e w' ⟨rfl,rfl⟩
    obtain⟨b,hb⟩:∃b,b=f.isText:=⟨_,rfl⟩
    rw[←hb]
    cases b with
    |true=>
     have HW:=hid hb.symm
     clear hb
     go_upto_region 10 with(fail)
     try simp only[Act.put]
     have HMD:=hid (Blk.below HMR.out (aC wr) (Blk.lt HMR.out))
     have HKD:=hid (show aK wr.drew c k xn xq xd from Blk.below HK.out (aC wr) (Blk.lt HK.out))
     have HUD:=hid (aC wr)
     refine wp_region_held_drew (S:=fun wx=>aK wx z m (.slice An m.names.length cn) (.slice Aq m.aV.length cq) (.slice Ad m.data.length cd)) (by kernel_rfl) HMD.out (fun hHeld=> ?_)
     generalize wr.drew=wd at HMD HKD HUD hHeld⊢
     refine tk 42 1 (.int .u8 (f.rX.toNat:Int)) ?_
     refine tk 44 3 (.int .u8 (f.rX.toNat:Int)) ?_
     refine tk2 43 2 (iM m (.slice An m.names.length cn) (.slice Aq m.aV.length cq) (.slice Ad m.data.length cd)) rfl (fun wq hSw=>by exact acI _ rfl rfl hSw) ?_
     refine wpAnyH_ready (rs:=[0,4]) (by kernel_rfl) (by simp) ?_
     refine AllReadyH.cons rfl (fun K hK=> ?_) (AllReadyH.cons rfl (fun K hK=> ?_) AllReadyH.nil)
     ·rw[if_pos (by rfl)]
      refine wp_load_mid _ _ rfl _ _ rfl (aF k xn xq xd) _ (Blk.range HKD.out 0 _ rfl) Tryz.underlying41 rfl aB ?_
      refine hK.out _ _ hHeld (fun hHeld=> ?_)
      clear hK
      try simp only[ah]
      refine wpAnyH_ready (rs:=[4]) (by kernel_rfl) (by simp) ?_
      refine AllReadyH.cons rfl (fun K hK=> ?_) AllReadyH.nil
      rw[if_pos (by rfl)]
      go_simp
      refine(YB f HW.out m (.slice An m.names.length cn) (.slice Aq m.aV.length cq) (.slice Ad m.data.length cd) wd).mono ?_
      rintro e wn ⟨rfl,hb⟩
      dsimp only
      have HMN:=hid (Blk.below HMD.out hb (Blk.lt HMD.out))
      have HKN:=hid (show aK wn c k xn xq xd from Blk.below HKD.out hb (Blk.lt HKD.out))
      have HUN:=hid (HUD.out.trans (hb.mono HUD.out.size))
      clear hb
      refine hK.out _ _ HMN.out (fun hHeld=> ?_)
      clear hK
      try simp only[ah]
      refine wpAnyH_ready (rs:=[5]) (by kernel_rfl) (by simp) ?_
      refine AllReadyH.cons rfl (fun K hK=> ?_) AllReadyH.nil
      rw[if_pos (by rfl)]
      go_simp
      refine(yP f HW.out (m.txt f) k xn xq xd h1 h2 h3 wn).mono ?_
      rintro e wt ⟨rfl,hb⟩
      dsimp only
      have HMT:=hid (Blk.below HMN.out hb (Blk.lt HMN.out))
      have HKT:=hid (show aK wt c k xn xq xd from Blk.below HKN.out hb (Blk.lt HKN.out))
      have HUT:=hid (HUN.out.trans (hb.mono HUN.out.size))
      clear hb
      refine hK.out _ _ HMT.out (fun hHeld=> ?_)
      clear hK
      try simp only[ah]
      refine wpAnyH_ready (rs:=[6]) (by kernel_rfl) (by simp) ?_
      refine AllReadyH.cons rfl (fun K hK=> ?_) AllReadyH.nil
      rw[if_pos (by rfl)]
      refine WA HKT.out 0 (aF (k.bV (m.txt f) f) xn xq xd) _ (kQ ..) (Nat.le_refl 36) (bT _ h1 h2 h3) _ _ _ rfl rfl rfl aB ?_
      intro wg hs ho
      have HOG:=hid (ho (fun i=>i=c) rfl _ (Off.refl _ _))
      have aax:=hid (acG.end_ (l:=fs.take (j+1)) (k':=(k.bV (m.txt f) f)) HR.out HKT.out (adV (HO.out.below HUT.out) _ f) HUT.out hs HOG.out (by rw[HTK.out];exact HNI.out.more f))
      have HMG:=hid (HOG.out.blk HMT.out (show z≠c from fun e=>by have:=HNE.out.1;omega))
      clear hs ho
      refine hK.out _ _ HMG.out (fun hHeld=> ?_)
      clear hK
      refine wpAnyH_done (by kernel_rfl) ?_ _
      go_wp2_with fail
      go_roundw
      case rel=>exact⟨j+1,hlt,by go_num,by rw[HNX.out,adb HW.out k m];exact aax.out⟩
      case measure=>simp[intOf];omega
     ·rw[if_pos (by rfl)]
      go_simp
      refine(YB f HW.out m (.slice An m.names.length cn) (.slice Aq m.aV.length cq) (.slice Ad m.data.length cd) wd).mono ?_
      rintro e wn ⟨rfl,hb⟩
      dsimp only
      have HMN:=hid (Blk.below HMD.out hb (Blk.lt HMD.out))
      have HKN:=hid (show aK wn c k xn xq xd from Blk.below HKD.out hb (Blk.lt HKD.out))
      have HUN:=hid (HUD.out.trans (hb.mono HUD.out.size))
      clear hb
      refine hK.out _ _ HMN.out (fun hHeld=> ?_)
      clear hK
      try simp only[ah]
      refine wpAnyH_ready (rs:=[0]) (by kernel_rfl) (by simp) ?_
      refine AllReadyH.cons rfl (fun K hK=> ?_) AllReadyH.nil
      rw[if_pos (by rfl)]
      refine wp_load_mid _ _ rfl _ _ rfl (aF k xn xq xd) _ (Blk.range HKN.out 0 _ rfl) Tryz.underlying41 rfl aB ?_
      refine hK.out _ _ hHeld (fun hHeld=> ?_)
      clear hK
      try simp only[ah]
      refine wpAnyH_ready (rs:=[5]) (by kernel_rfl) (by simp) ?_
      refine AllReadyH.cons rfl (fun K hK=> ?_) AllReadyH.nil
      rw[if_pos (by rfl)]
      go_simp
      refine(yP f HW.out (m.txt f) k xn xq xd h1 h2 h3 wn).mono ?_
      rintro e wt ⟨rfl,hb⟩
      dsimp only
      have HMT:=hid (Blk.below HMN.out hb (Blk.lt HMN.out))
      have HKT:=hid (show aK wt c k xn xq xd from Blk.below HKN.out hb (Blk.lt HKN.out))
      have HUT:=hid (HUN.out.trans (hb.mono HUN.out.size))
      clear hb
      refine hK.out _ _ HMT.out (fun hHeld=> ?_)
      clear hK
      try simp only[ah]
      refine wpAnyH_ready (rs:=[6]) (by kernel_rfl) (by simp) ?_
      refine AllReadyH.cons rfl (fun K hK=> ?_) AllReadyH.nil
      rw[if_pos (by rfl)]
      refine WA HKT.out 0 (aF (k.bV (m.txt f) f) xn xq xd) _ (kQ ..) (Nat.le_refl 36) (bT _ h1 h2 h3) _ _ _ rfl rfl rfl aB ?_
      intro wg hs ho
      have HOG:=hid (ho (fun i=>i=c) rfl _ (Off.refl _ _))
      have aax:=hid (acG.end_ (l:=fs.take (j+1)) (k':=(k.bV (m.txt f) f)) HR.out HKT.out (adV (HO.out.below HUT.out) _ f) HUT.out hs HOG.out (by rw[HTK.out];exact HNI.out.more f))
      have HMG:=hid (HOG.out.blk HMT.out (show z≠c from fun e=>by have:=HNE.out.1;omega))
      clear hs ho
      refine hK.out _ _ HMG.out (fun hHeld=> ?_)
      clear hK
      refine wpAnyH_done (by kernel_rfl) ?_ _
      go_wp2_with fail
      go_roundw
      case rel=>exact⟨j+1,hlt,by go_num,by rw[HNX.out,adb HW.out k m];exact aax.out⟩
      case measure=>simp[intOf];omega
    |false=>
     have HTT:=hid hb.symm
     clear hb
     have hl1:=ZX f
     have hl2:=acL f
     obtain⟨g78,g81,g83⟩:=hl1
     obtain⟨Xx,g68⟩:=hl2
     by_cases ab7:f= .names
     ·rw[decide_eq_true ab7]at g78
      have HF:=hid ab7
      clear ab7
      have hx:xn= .slice none 0 0:=HNI.out.1 (by rw[←HF.out];exact aeu.out)
      subst hx
      obtain⟨_,_,e0, -, -,hrd⟩:=HLR.out.n
      injection e0 with e1 e2 e3
      subst e1
      have HRD:=hid hrd
      clear hrd e2 e3
      have HLN:=hid (show([]:List ByteArray).length+m.names.length≤8796093022207 from by have:=HN.out.1;simp only[List.length_nil];omega)
      have c0:wr.cell? ⟨c,11,none⟩=some (.slice none 0 0):=Blk.cell HK.out 11
      have c1:wr.cell? ⟨z,11,none⟩=some (.slice An m.names.length cn):=Blk.cell HMR.out 11
      go_wp2_with(at_builtin;refine oQ (.tmp 51) (.tmp 53) rfl rfl z (.slice none 0 0) [] rfl (dS _ _ _ _) z An cn m.names rfl HRD.out HLN.out HLE.out ?_;intro v4 w4 hown hgr hor;have hown:w4.ownsRow z 9 1 v4 m.names.length (h_ m.names):=hown;obtain⟨v4A,v4c,rfl, -⟩:=aJ hown;have HW4:=hid hown;have HG:=hid ((Below.refl wr.heap.size wr).grown hgr (Nat.le_refl _) (fun g hg=>(by cases hg)));clear hown hgr hor c0 c1;have HK4:=hid (Blk.below HK.out HG.out (Blk.lt HK.out));have c0:w4.cell? ⟨c,11,none⟩=some (.slice none 0 0):=Blk.cell HK4.out 11;have f0:w4.frozen? ⟨c,11,none⟩=false:=Blk.frozen HK4.out 11)
      have aax:=hid (acG.end_ (l:=fs.take (j+1)) (k':=k.move m f) (w':=w4.setCell ⟨c,11,none⟩ (.slice v4A m.names.length v4c)) HR.out HK4.out (show OL w4 z (k.move m f) (.slice v4A m.names.length v4c) xq xd from by rw[HF.out];exact⟨HW4.out,aI HO.out.q HG.out,aI HO.out.d HG.out⟩) HG.out (by rw[HF.out];exact aK.aW HK4.out _ _ (sZ ..)) (bM ..) (by rw[HTK.out,HF.out];exact⟨fun e=>absurd (List.mem_append_right _ (List.mem_singleton.2 rfl)) e,fun e=>HNI.out.2.1 fun h=>e (List.mem_append_left _ h),fun e=>HNI.out.2.2 fun h=>e (List.mem_append_left _ h)⟩))
      go_roundw
      case rel=>exact⟨j+1,hlt,by go_num,by rw[HNX.out];exact aax.out⟩
      case measure=>simp[intOf];omega
     rw[decide_eq_false ab7]at g78
     by_cases acn:f= .aV
     ·rw[decide_eq_true acn]at g81
      have HF:=hid acn
      clear acn
      have hx:xq= .slice none 0 0:=HNI.out.2.1 (by rw[←HF.out];exact aeu.out)
      subst hx
      obtain⟨_,_,e0, -, -,hrd⟩:=HLR.out.q
      injection e0 with e1 e2 e3
      subst e1
      have HRD:=hid hrd
      clear hrd e2 e3
      have HLN:=hid (show([]:List Qd).length+m.aV.length≤8796093022207 from by have:=HN.out.2.1;simp only[List.length_nil];omega)
      have c0:wr.cell? ⟨c,12,none⟩=some (.slice none 0 0):=Blk.cell HK.out 12
      have c1:wr.cell? ⟨z,12,none⟩=some (.slice Aq m.aV.length cq):=Blk.cell HMR.out 12
      go_wp2_with(at_builtin;refine Ai (.tmp 60) (.tmp 62) rfl rfl z (.slice none 0 0) [] rfl (dS _ _ _ _) z Aq cq m.aV rfl HRD.out HLN.out HLE.out ?_;intro v4 w4 hown hgr hor;have hown:w4.ownsRow z 37 3 v4 m.aV.length (ng m.aV):=hown;obtain⟨v4A,v4c,rfl, -⟩:=aJ hown;have HW4:=hid hown;have HG:=hid ((Below.refl wr.heap.size wr).grown hgr (Nat.le_refl _) (fun g hg=>(by cases hg)));clear hown hgr hor c0 c1;have HK4:=hid (Blk.below HK.out HG.out (Blk.lt HK.out));have c0:w4.cell? ⟨c,12,none⟩=some (.slice none 0 0):=Blk.cell HK4.out 12;have f0:w4.frozen? ⟨c,12,none⟩=false:=Blk.frozen HK4.out 12)
      have aax:=hid (acG.end_ (l:=fs.take (j+1)) (k':=k.move m f) (w':=w4.setCell ⟨c,12,none⟩ (.slice v4A m.aV.length v4c)) HR.out HK4.out (show OL w4 z (k.move m f) xn (.slice v4A m.aV.length v4c) xd from by rw[HF.out];exact⟨aI HO.out.n HG.out,HW4.out,aI HO.out.d HG.out⟩) HG.out (by rw[HF.out];exact aK.aW HK4.out _ _ (xA ..)) (bM ..) (by rw[HTK.out,HF.out];exact⟨fun e=>HNI.out.1 fun h=>e (List.mem_append_left _ h),fun e=>absurd (List.mem_append_right _ (List.mem_singleton.2 rfl)) e,fun e=>HNI.out.2.2 fun h=>e (List.mem_append_left _ h)⟩))
      go_roundw
      case rel=>exact⟨j+1,hlt,by go_num,by rw[HNX.out];exact aax.out⟩
      case measure=>simp[intOf];omega
     rw[decide_eq_false acn]at g81
     by_cases aco:f= .qid
     ·rw[decide_eq_true aco]at Xx
      have HF:=hid aco
      clear aco
      have j0:wr.cell? ⟨z,13,none⟩=some (.int .u8 (m.qid.kind:Int)):=Blk.cell HMR.out 13
      have c0:wr.cell? ⟨c,13,none⟩=some (.int .u8 (k.qid.kind:Int)):=Blk.cell HK.out 13
      have f0:wr.frozen? ⟨c,13,none⟩=false:=Blk.frozen HK.out 13
      have j1:wr.cell? ⟨z,14,none⟩=some (.int .u32 (m.qid.vers:Int)):=Blk.cell HMR.out 14
      have c1:wr.cell? ⟨c,14,none⟩=some (.int .u32 (k.qid.vers:Int)):=Blk.cell HK.out 14
      have f1:wr.frozen? ⟨c,14,none⟩=false:=Blk.frozen HK.out 14
      have j2:wr.cell? ⟨z,15,none⟩=some (.int .u64 (m.qid.path:Int)):=Blk.cell HMR.out 15
      have c2:wr.cell? ⟨c,15,none⟩=some (.int .u64 (k.qid.path:Int)):=Blk.cell HK.out 15
      have f2:wr.frozen? ⟨c,15,none⟩=false:=Blk.frozen HK.out 15
      have aax:=hid (acG.end_ (l:=fs.take (j+1)) (k':=k.move m f) (w':=((wr.setCell ⟨c,13,none⟩ (.int .u8 (m.qid.kind:Int))).setCell ⟨c,14,none⟩ (.int .u32 (m.qid.vers:Int))).setCell ⟨c,15,none⟩ (.int .u64 (m.qid.path:Int))) (yn:=xn) (yq:=xq) (yd:=xd) HR.out HK.out (by rw[HF.out];exact⟨HO.out.n,HO.out.q,HO.out.d⟩) (Below.refl _ _) (by
       have h:=((Blk.aW HK.out 13 (.int .u8 (m.qid.kind:Int))).aW 14 (.int .u32 (m.qid.vers:Int))).aW 15 (.int .u64 (m.qid.path:Int))
       rw[Bh]at h
       rw[HF.out]
       exact h) (((bM wr c 13 _).trans (bM _ c 14 _)).trans (bM _ c 15 _)) (by rw[HTK.out];exact HNI.out.more f))
      go_wp2_with fail
      go_roundw
      case rel=>exact⟨j+1,hlt,by go_num,by rw[HNX.out];exact aax.out⟩
      case measure=>simp[intOf];omega
     rw[decide_eq_false aco]at Xx
     by_cases acg:f= .data
     ·rw[decide_eq_true acg]at g68
      have HF:=hid acg
      clear acg
      have hx:xd= .slice none 0 0:=HNI.out.2.2 (by rw[←HF.out];exact aeu.out)
      subst hx
      obtain⟨_,_,e0, -, -,hrd⟩:=HLR.out.d
      injection e0 with e1 e2 e3
      subst e1
      have HRD:=hid hrd
      clear hrd e2 e3
      have HLN:=hid (show([]:List UInt8).length+m.data.length≤8796093022207 from by have:=HN.out.2.2;simp only[List.length_nil];omega)
      have c0:wr.cell? ⟨c,22,none⟩=some (.slice none 0 0):=Blk.cell HK.out 22
      have c1:wr.cell? ⟨z,22,none⟩=some (.slice Ad m.data.length cd):=Blk.cell HMR.out 22
      go_wp2_with(at_builtin;refine kY (.tmp 75) (.tmp 77) rfl rfl z (.slice none 0 0) [] rfl (dS _ _ _ _) z Ad cd m.data rfl HRD.out (Nat.le_trans HLN.out (by decide)) HLE.out ?_;intro v4 w4 hown hgr hor;have hown:w4.ownsRow z 5 1 v4 m.data.length (aX m.data):=hown;obtain⟨v4A,v4c,rfl, -⟩:=aJ hown;have HW4:=hid hown;have HG:=hid ((Below.refl wr.heap.size wr).grown hgr (Nat.le_refl _) (fun g hg=>(by cases hg)));clear hown hgr hor c0 c1;have HK4:=hid (Blk.below HK.out HG.out (Blk.lt HK.out));have c0:w4.cell? ⟨c,22,none⟩=some (.slice none 0 0):=Blk.cell HK4.out 22;have f0:w4.frozen? ⟨c,22,none⟩=false:=Blk.frozen HK4.out 22)
      have aax:=hid (acG.end_ (l:=fs.take (j+1)) (k':=k.move m f) (w':=w4.setCell ⟨c,22,none⟩ (.slice v4A m.data.length v4c)) HR.out HK4.out (show OL w4 z (k.move m f) xn xq (.slice v4A m.data.length v4c)from by rw[HF.out];exact⟨aI HO.out.n HG.out,aI HO.out.q HG.out,HW4.out⟩) HG.out (by rw[HF.out];exact aK.aW HK4.out _ _ (xB ..)) (bM ..) (by rw[HTK.out,HF.out];exact⟨fun e=>HNI.out.1 fun h=>e (List.mem_append_left _ h),fun e=>HNI.out.2.1 fun h=>e (List.mem_append_left _ h),fun e=>absurd (List.mem_append_right _ (List.mem_singleton.2 rfl)) e⟩))
      go_roundw
      case rel=>exact⟨j+1,hlt,by go_num,by rw[HNX.out];exact aax.out⟩
      case measure=>simp[intOf];omega
     rw[decide_eq_false acg]at g68
     by_cases ab8:f= .stat
     ·rw[decide_eq_true ab8]at g83
      have HF:=hid ab8
      clear ab8
      go_wp2_with(first|(refine wlw HMR.out 23 (stL m.stat) rfl rfl _ _ rfl rfl _ Tryz.underlying39 rfl bP ?_)|(refine dA HK.out 23 (stL m.stat) _ (qc ..) (Nat.le_refl 36) (uY _) rfl _ _ _ rfl rfl rfl bP ?_;intro w2 hs hoo;have HMX:=hid hs;have HOX:=hid (hoo (fun i=>i=c) rfl wr (Off.refl _ _));clear hs hoo))
      have aax:=hid (acG.end_ (l:=fs.take (j+1)) (k':=k.move m f) (yn:=xn) (yq:=xq) (yd:=xd) HR.out HK.out (by rw[HF.out];exact⟨HO.out.n,HO.out.q,HO.out.d⟩) (Below.refl _ _) (by rw[HF.out];exact HMX.out) HOX.out (by rw[HTK.out];exact HNI.out.more f))
      go_roundw
      case rel=>exact⟨j+1,hlt,by go_num,by rw[HNX.out];exact aax.out⟩
      case measure=>simp[intOf];omega
     rw[decide_eq_false ab8]at g83
     exact(ade HWW.out HTT.out ab7 acn aco acg ab8).elim
  ·have HJ:=hid (show fs.take j=fs from List.take_of_length_le (by omega))
   rw[HJ.out,←HCL.out]at HK
   rw[HJ.out,←HCL.out]at HO
   have HZR:=hid (show aK wr q (head 0 0) (.slice none 0 0) (.slice none 0 0) (.slice none 0 0)from HR.out.blk HZ3.out (show q≠c from fun e=>by have:=HNE.out.2.1;omega))
   have h1:=bG HO.out.n
   have h2:=bG HO.out.q
   have h3:=bG HO.out.d
   go_wp2_with(first|(refine wlw HK.out 0 (aF (clean m) xn xq xd) rfl rfl _ _ rfl rfl _ Tryz.underlying41 rfl aB ?_)|(refine dA HZR.out 0 (aF (clean m) xn xq xd) _ (bW ..) (Nat.le_refl 36) (bT _ h1 h2 h3) rfl _ _ _ rfl rfl rfl aB ?_;intro wz hs ho;have HZF:=hid hs;have HOF:=hid (ho (fun i=>i=q) rfl _ (Off.refl _ _));clear hs ho))
   refine bodyPost_ret (bf (l:=aF (clean m) xn xq xd) rfl Tryz.underlying41 rfl aB rfl HZF.out) rfl ⟨⟨_,_,_,rfl, ?_⟩, ?_⟩
   ·rw[HZZ.out]
    exact HO.out.qp HZR.out HOF.out
   ·rw[HZZ.out]
    exact(HB3.out.trans (HR.out.below (B:=z) (fun i hi=>(by have hi:i=c:=hi;have:=HNE.out.1;omega)) (by have:=Blk.lt HM3.out;omega))).trans (HOF.out.below (B:=z) (fun i hi=>(by have hi:i=q:=hi;have:=HNE.out.2.2;omega)) (by have:=Blk.lt HK.out;have:=HNE.out.1;omega))
open Go.Lib (decDigits)
theorem adW(w:World)(l:List UInt8)(hl:l.length≤maxLen):(convert 22 9 (.slice (some ⟨w.heap.size,0,none⟩) l.length l.length)).run Tryz.prog (w.alloc (.cells (aX l).toArray 5))= .ok (.string (ofL l)) (w.alloc (.cells (aX l).toArray 5)):=
 jH (B:=w.heap.size+1) ⟨_,_,rfl,Nat.le_refl _,hl,Yd w l⟩
theorem zS(n:Nat)(hn:n<18446744073709551616)(w:World):Calls Tryz.prog 123 #[.int .u64 (n:Int)] w fun e w'=>e= .returned (.string (ofL (decDigits n)))∧Below w.heap.size w w':=by
 have HN:=hid hn
 clear hn
 go_enter Tryz.func123,Tryz.ntmps123
 go_upto_region 2 with(fail)
 go_loopw [0,3] (fun v s wr=>∃(k:Nat) (X:ByteArray),v= .int .u64 (k:Int)∧s= .string X∧k≤n∧Below w.heap.size w wr∧Hid (decDigits n=decDigits k++X.data.toList)) (fun v _ _=>(intOf v).toNat)
 case atStart=>exact⟨n,⟨#[]⟩,rfl,rfl,Nat.le_refl _,Below.refl _ _,hid (by simp)⟩
 case round=>
  obtain⟨k,X,rfl,rfl,hk,hb,HX⟩:=hrel
  have HB:=hid hb
  clear hb
  have hXs:X.size≤20:=by
   have h1:=congrArg List.length HX.out
   have h2:=jD n HN.out
   rw[dU]at h2
   rw[List.length_append]at h1
   have h3:X.data.toList.length=X.size:=Array.length_toList ..
   omega
  have hnn:=HN.out
  obtain⟨c,hc⟩:∃c,c=UInt8.ofNat (48+k%10):=⟨_,rfl⟩
  have hcn:(c.toNat:Int)=48+(k:Int)%10:=by
   rw[hc,iK _ (by omega)]
   omega
  have h3:IntKind.u8.wrap (48+(k:Int)%10)=(c.toNat:Int):=by rw[hcn,IntKind.wrap_u8];omega
  have h4:IntKind.u64.wrap (48+(k:Int)%10)=48+(k:Int)%10:=by rw[IntKind.wrap_u64];omega
  have h1:Int.tmod (k:Int) 10=(k:Int)%10:=by rw[Int.tmod_eq_emod_of_nonneg (by omega)]
  have h2:Int.tdiv (k:Int) 10=((k/10:Nat):Int):=by rw[Int.tdiv_eq_ediv_of_nonneg (by omega)];omega
  have hcv:(convert 22 9 (.slice (some ⟨wr.heap.size,0,none⟩) 1 1)).run Tryz.prog (wr.alloc (.cells #[.int .u8 (c.toNat:Int)] 5))= .ok (.string (ofL [c])) (wr.alloc (.cells #[.int .u8 (c.toNat:Int)] 5)):=adW wr [c] (show 1≤maxLen by decide)
  have HUP:=hid (HB.out.trans (((Below.refl wr.heap.size wr).alloc (Nat.le_refl _) (.cells #[.int .u8 (c.toNat:Int)] 5)).mono HB.out.size))
  obtain⟨K,hK⟩:∃K,K=ofL [c]++X:=⟨_,rfl⟩
  have ha:∀w,(Op.stringOp .add (ofL [c]) X).run Tryz.prog w= .ok (.string K) w:=fun w=>by
   rw[hK]
   exact run_string_add_sum w _ _ (by rw[dU];show 1+X.size≤_;omega)
  have HKL:=hid (show K.data.toList=c::X.data.toList from by rw[hK];simp[ofL,ByteArray.data_append])
  have HC:=hid hc
  have HW:=hid (show IntKind.u64.wrap ((k:Int)/10)=((k/10:Nat):Int)from by rw[IntKind.wrap_u64];omega)
  clear hK hc hcn hnn
  generalize ofL [c]=C at*
  by_cases h9:9<(k:Int)
  ·have HNX:=hid (show decDigits n=decDigits (k/10)++K.data.toList from by
    have h:decDigits k=decDigits (k/10)++[UInt8.ofNat (48+k%10)]:=by
     rw[Lib.decDigits,dif_neg (by omega)]
    rw[HX.out,HKL.out,h,HC.out]
    simp)
   have HLE:=hid (show k/10≤n∧k/10<k from by omega)
   go_wp2_with fail
   go_roundw
   case rel=>exact⟨k/10,K,by rw[HW.out],rfl,HLE.out.1,HUP.out,HNX⟩
   case measure=>have:=HLE.out.2;rw[HW.out];simp[intOf];omega
  ·have HNX:=hid (show ofL (decDigits n)=K from by
    have h:decDigits k=[UInt8.ofNat (48+k%10)]:=by
     rw[Lib.decDigits,dif_pos (by omega),Nat.mod_eq_of_lt (by omega)]
    apply ByteArray.ext
    rw[←Array.toList_inj,HKL.out,HX.out,h,HC.out]
    simp[ofL])
   have h5:(k:Int)%10=(k:Int):=by omega
   rw[h5]at h3 h4
   go_wp2_with fail
   go_ret
   rw[HNX.out]
   exact⟨rfl,HUP.out⟩
theorem acv(q:Qd)(hq:q.kind<18446744073709551616∧q.vers<18446744073709551616∧q.path<18446744073709551616)(w:World):
  Calls Tryz.prog 193 #[qdV q] w fun e w'=>e= .returned (.string (ofL (iG q)))∧Below w.heap.size w w':=by
 have hup:Below w.heap.size w (w.alloc (.cells #[.int .u8 (q.kind:Int),.int .u32 (q.vers:Int),.int .u64 (q.path:Int)] 37)):=(Below.refl _ _).alloc (Nat.le_refl _) _
 have HN:=hid (Blk.new w 37 #[.int .u8 (q.kind:Int),.int .u32 (q.vers:Int),.int .u64 (q.path:Int)])
 have HB:=hid hup
 have HQ:=hid hq
 have h1:=jD q.kind hq.1
 have h2:=jD q.vers hq.2.1
 have h3:=jD q.path hq.2.2
 clear hup hq
 unfold qdV
 go_enter Tryz.func193,Tryz.ntmps193
 go_upto_region 1 with(fail)
 generalize w.alloc (.cells #[.int .u8 (q.kind:Int),.int .u32 (q.vers:Int),.int .u64 (q.path:Int)] 37)=w0 at HN HB⊢
 generalize hb:w.heap.size=b at HN HB⊢
 have HBB:=hid hb;clear hb
 obtain⟨K1,hK1⟩:∃K,K=ofL (decDigits q.kind)++⟨#[46]⟩:=⟨_,rfl⟩
 obtain⟨K2,hK2⟩:∃K,K=K1++ofL (decDigits q.vers):=⟨_,rfl⟩
 obtain⟨K3,hK3⟩:∃K,K=K2++⟨#[46]⟩:=⟨_,rfl⟩
 obtain⟨K4,hK4⟩:∃K,K=K3++ofL (decDigits q.path):=⟨_,rfl⟩
 have qm:=hid (show ofL (iG q)=K4 from by
  rw[hK4,hK3,hK2,hK1]
  apply ByteArray.ext
  rw[←Array.toList_inj]
  simp[ofL,iG,ByteArray.data_append])
 have s1:K1.size≤21:=by rw[hK1,ByteArray.size_append];show _+1≤21;omega
 have s2:K2.size≤41:=by rw[hK2,ByteArray.size_append];omega
 have s3:K3.size≤42:=by rw[hK3,ByteArray.size_append];show _+1≤42;omega
 generalize hx1:ofL (decDigits q.kind)=X1 at h1 hK1
 have HX1:=hid hx1;clear hx1
 generalize hx2:ofL (decDigits q.vers)=X2 at h2 hK2
 have HX2:=hid hx2;clear hx2
 generalize hx3:ofL (decDigits q.path)=X3 at h3 hK4
 have HX3:=hid hx3;clear hx3
 have a1:∀w,(Op.stringOp .add X1 ⟨#[46]⟩).run Tryz.prog w= .ok (.string K1) w:=fun w=>by
  rw[hK1]
  exact run_string_add_sum w _ _ (by show X1.size+1≤_;omega)
 have a2:∀w,(Op.stringOp .add K1 X2).run Tryz.prog w= .ok (.string K2) w:=fun w=>by
  rw[hK2]
  exact run_string_add_sum w _ _ (by omega)
 have a3:∀w,(Op.stringOp .add K2 ⟨#[46]⟩).run Tryz.prog w= .ok (.string K3) w:=fun w=>by
  rw[hK3]
  exact run_string_add_sum w _ _ (by show K2.size+1≤_;omega)
 have a4:∀w,(Op.stringOp .add K3 X3).run Tryz.prog w= .ok (.string K4) w:=fun w=>by
  rw[hK4]
  exact run_string_add_sum w _ _ (by omega)
 clear hK1 hK2 hK3 hK4 h1 h2 h3 s1 s2 s3
 have k0:w0.cell? ⟨b,0,none⟩=some (.int .u8 (q.kind:Int)):=HN.out.cell 0
 have hw1:IntKind.u64.wrap (q.kind:Int)=(q.kind:Int):=eH HQ.out.1
 have hw2:IntKind.u64.wrap (q.vers:Int)=(q.vers:Int):=eH HQ.out.2.1
 go_wp2_with fail
 refine(zS q.kind HQ.out.1 w0).mono ?_
 rintro e w1 ⟨rfl,hb⟩
 rw[HX1.out]
 have HN1:=hid (Blk.below HN.out hb (Blk.lt HN.out))
 have HB1:=hid (HB.out.trans (hb.mono (by have:=HB.out.size;have:=HBB.out;omega)))
 clear hb k0
 have k1:w1.cell? ⟨b,1,none⟩=some (.int .u32 (q.vers:Int)):=HN1.out.cell 1
 go_wp2_with fail
 refine(zS q.vers HQ.out.2.1 w1).mono ?_
 rintro e w2 ⟨rfl,hb⟩
 rw[HX2.out]
 have HN2:=hid (Blk.below HN1.out hb (Blk.lt HN1.out))
 have HB2:=hid (HB1.out.trans (hb.mono (by have:=HB1.out.size;have:=HBB.out;omega)))
 clear hb k1
 have k2:w2.cell? ⟨b,2,none⟩=some (.int .u64 (q.path:Int)):=HN2.out.cell 2
 go_wp2_with fail
 refine(zS q.path HQ.out.2.2 w2).mono ?_
 rintro e w3 ⟨rfl,hb⟩
 rw[HX3.out]
 have HB3:=hid (HB2.out.trans (hb.mono (by have:=HB2.out.size;have:=HBB.out;omega)))
 clear hb k2
 go_wp2_with fail
 go_ret
 rw[qm.out]
 exact⟨rfl,by rw[HBB.out];exact HB3.out⟩
end Go.Proofs.YtkblmloobkiloaaGreatDoor
