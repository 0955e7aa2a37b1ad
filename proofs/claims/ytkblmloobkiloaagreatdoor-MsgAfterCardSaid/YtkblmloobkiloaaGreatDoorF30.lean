/-
  MSD MUI: what the laws of package msg need of them.
-/
import Derived.Test.YtkblmloobkiloaaGreatDoorF00
import Derived.Test.YtkblmloobkiloaaGreatDoorF29
set_option maxRecDepth 100000
set_option maxHeartbeats 6400000
namespace Go.Proofs.YtkblmloobkiloaaGreatDoor
open Go.Lib (hid)
open Go.RowKit
theorem D6{p:Nat}{hv:Value}{x:List UInt8}{st:Option (List UInt8)}{w w':World}{e:Ending}(h:Uj p hv x st w e w'):
  ∃(n:Nat) (s1:Option (List UInt8)),e= .returned (.int .i64 (n:Int))∧n≤16∧Off (fun i=>i=p) w w'∧BdS w' p hv x s1∧∀ {α:Type} (one:List UInt8→Option (α×List UInt8)),st.bind (fF one)=s1.bind (getMany one n):=by
 obtain⟨n,he,hn,ho,hm⟩:=h
 cases st with
 |none=>exact⟨n,none,he,hn,ho,hm,fun _=>rfl⟩
 |some l=>
  have e1:(some l).bind (bU 2)=bU 2 l:=rfl
  rw[e1]at hm
  cases hg:bU 2 l with
  |none=>
   rw[hg]at hm
   exact⟨n,none,he,hn,ho,hm,fun one=>by show fF one l=none;unfold fF;rw[hg]⟩
  |some y=>
   obtain⟨k,r⟩:=y
   rw[hg]at hm
   by_cases hk:k≤16
   ·replace hm:=(if_pos hk).mp hm
    exact⟨n,some r,he,hn,ho,hm.2,fun one=>by show fF one l=getMany one n r;unfold fF;rw[hg];dsimp only;rw[if_neg (by omega),hm.1]⟩
   ·replace hm:=(if_neg hk).mp hm
    exact⟨n,none,he,hn,ho,hm,fun one=>by show fF one l=none;unfold fF;rw[hg];dsimp only;rw[if_pos (by omega)]⟩
theorem zO{α:Type}{one:List UInt8→Option (α×List UInt8)}{s1 s2:Option (List UInt8)}{ns:List α}{s:α}(q:Nat)(h:Nc (s1.bind one) s s2):
  s1.bind (fun l=>(getMany one (q+1) l).map (fun p=>(ns++p.1,p.2)))=s2.bind (fun l=>(getMany one q l).map (fun p=>(ns++[s]++p.1,p.2))):=by
 cases s1 with
 |none=>have h:s2=none:=h;rw[h];rfl
 |some l=>
  have e:(some l).bind one=one l:=rfl
  rw[e]at h
  show(getMany one (q+1) l).map _=_
  cases ho:one l with
  |none=>rw[ho]at h;rw[show s2=none from h,gX one q ho];rfl
  |some y=>
   rw[ho]at h
   replace h:s=y.1∧s2=some y.2:=h
   rw[fM one q ho,h.2,h.1]
   show _=(getMany one q y.2).map _
   cases getMany one q y.2 with
   |none=>rfl
   |some z=>simp only[Option.map_some,List.append_assoc,List.cons_append,List.nil_append]
theorem uy{α:Type}(s1:Option (List UInt8))(one:List UInt8→Option (α×List UInt8))(n:Nat):s1.bind (getMany one n)=s1.bind (fun l=>(getMany one n l).map (fun p=>([]++p.1,p.2))):=by
 cases s1 with
 |none=>rfl
 |some l=>show getMany one n l=(getMany one n l).map _;cases getMany one n l<;>rfl
theorem D7{α:Type}(s1:Option (List UInt8))(one:List UInt8→Option (α×List UInt8))(ns:List α):s1.bind (fun l=>(getMany one 0 l).map (fun p=>(ns++p.1,p.2)))=s1.map (fun r=>(ns,r)):=by
 cases s1 with
 |none=>rfl
 |some l=>show some (ns++[],l)=some (ns,l);rw[List.append_nil]
theorem BJ{w:World}{p base:Nat}{hv vn vq vd:Value}{x:List UInt8}{st:Option (List UInt8)}{m:Mg}(hx:Bys w base hv x)(hbp:base≤p)(h:BdS w p hv x st)(ho:OL w base m vn vq vd)(hn:m.names=[]):
  Calls Tryz.prog 49 #[.pointer (some ⟨p,0,none⟩),iM m vn vq vd,.int .u8 78] w (uw p base hv x m .names st w):=by
 have HWC:=hid (fun w=>jL .names w)
 have HIT:=hid (fun w=>jV .names w)
 have HF0:=jO hx hbp h ho
 have HF:=hid HF0.1
 have HOL:=hid HF0.2
 have h1:=bG ho.n
 have h2:=bG ho.q
 have h3:=bG ho.d
 clear hx hbp h ho HF0
 go_enter Tryz.func49,Tryz.ntmps49
 go_upto_region 1 with(fail)
 change Code.wp _ _ _ _ ((w.alloc (.cells (aF m vn vq vd).toArray 41)).alloc (.cells (mgN (head 0 0)).toArray 41))
 generalize((w.alloc (.cells (aF m vn vq vd).toArray 41)).alloc (.cells (mgN (head 0 0)).toArray 41))=w1 at HF HOL⊢
 generalize w.heap.size+1=q at HF⊢
 generalize w.heap.size=z at HF⊢
 go_wp2_with fail
 refine(HWC.out _).mono ?_
 rintro e w2 ⟨rfl,rfl⟩
 go_wp2_with fail
 refine(HIT.out _).mono ?_
 rintro e w2 ⟨rfl,rfl⟩
 go_wp2_with fail
 refine(rY HF.out.x HF.out.bp HF.out.s).mono ?_
 intro e w2 hcr
 obtain⟨n,s1,rfl,hn16,ho,hs,hg⟩:=D6 hcr
 have HG:=hid (@hg ByteArray aN)
 have lN:=hid (HOL.out.bd HF.out.s (ho.mono fun _ _ hi=> .inl hi))
 have HF2:=hid (HF.out.step hs (ho.mono fun _ _ hi=> .inl hi))
 have HN:=hid hn
 clear hs ho HF HOL hcr hg hn
 go_upto_region 10 with(fail)
 go_loopw [10] (fun i wr=>∃(k:Nat) (ns:List ByteArray) (sk:Option (List UInt8)) (v:Value),k≤n∧i= .int .i64 (k:Int)∧ns.length=k∧FS w wr p z q base hv x sk {m with names:=ns} v vq vd∧OL wr base {m with names:=ns} v vq vd∧s1.bind (getMany aN n)=sk.bind (fun l=>(getMany aN (n-k) l).map (fun p=>(ns++p.1,p.2)))) (fun i _=>n-(intOf i).toNat)
 case atStart=>
  exact⟨0,[],s1,vn,Nat.zero_le _,rfl,rfl,(by rw[←HN.out];exact HF2.out),(by rw[←HN.out];exact lN.out),uy _ _ _⟩
 case round=>
  obtain⟨k,ns,sk,v,hk,rfl,hns,hf,hol,hg⟩:=hrel
  have HFK:=hid hf
  have HOK:=hid hol
  have HGK:=hid hg
  have HNS:=hid hns
  clear hf hol hg hns
  by_cases hlt:k<n
  ·go_wp2_with fail
   refine(xW HFK.out.x HFK.out.bp HFK.out.s).mono ?_
   rintro e w3 ⟨s,rfl, -,ho,hm⟩
   obtain⟨st',hs,HST⟩:∃st',BdS w3 p hv x st'∧Hid (Nc (sk.bind aN) s st'):=by
    cases hg:sk.bind aN with
    |none=>rw[hg]at hm;exact⟨none,hm,hid rfl⟩
    |some y=>rw[hg]at hm;exact⟨some y.2,hm.2,hid ⟨hm.1,rfl⟩⟩
   have HO3:=hid (HOK.out.bd HFK.out.s ho)
   have HF3:=hid (HFK.out.step hs ho)
   clear hs ho HFK hm HOK
   have hup:Below w3.heap.size w3 (w3.alloc (.cells #[.string s] 9)):=(Below.refl _ _).alloc (Nat.le_refl _) _
   have HF4:=hid (HF3.out.new hup)
   have HO4:=hid (HO3.out.below hup)
   have HRD:=hid (show Reads (w3.alloc (.cells #[.string s] 9)) (w3.heap.size+1) 1 (some ⟨w3.heap.size,0,none⟩) ([s]:List ByteArray).length (h_ [s])from dI w3 9 [.string s] 1 1 rfl)
   have HLN:=hid (show ns.length+([s]:List ByteArray).length≤8796093022207 from by rw[HNS.out];simp only[List.length_cons,List.length_nil];omega)
   have kz:w3.cell? ⟨z,11,none⟩=some v:=Blk.cell HF3.out.m 11
   clear hup
   go_wp2_with(at_builtin;refine oQ (.tmp 55) (.tmp 57) rfl rfl base _ ns rfl HO4.out.n (w3.heap.size+1) _ 1 [s] rfl HRD.out HLN.out HF4.out.size ?_;intro v4 w4 hown hgr hor;generalize Nj:(ns++[s]).length=n4 at hown;have HL4:=hid Nj;clear Nj;obtain⟨A4,c4,rfl, -⟩:=aJ hown;have HV4:=hid hown;have HF5:=hid (HF4.out.app HO4.out.n (by decide) (by decide) hgr);have HQ5:=hid (HO4.out.q.kept hgr (fC HO4.out.q HO4.out.n (by decide)));have HD5:=hid (HO4.out.d.kept hgr (fC HO4.out.d HO4.out.n (by decide)));clear hown hgr hor kz;have kz:w4.cell? ⟨z,11,none⟩=some v:=Blk.cell HF5.out.m 11;have fz:w4.frozen? ⟨z,11,none⟩=false:=Blk.frozen HF5.out.m 11)
   go_roundw
   case rel=>
    have hn':=HNS.out
    have hl4:=HL4.out
    subst hl4
    refine⟨k+1,ns++[s],st',_,by omega,by go_num,by rw[List.length_append,hn'];rfl,HF5.out.turn (aK.aW HF5.out.m _ _ (sZ ..)) (bM ..), ?_, ?_⟩
    ·exact OL.qp (m:= {m with names:=ns++[s]}) ⟨HV4.out,HQ5.out,HD5.out⟩ HF5.out.m (bM ..)
    ·rw[HGK.out,show n-k=(n-(k+1))+1 from by omega]
     exact zO _ HST.out
   case measure=>simp[intOf];omega
  ·have hkn:k=n:=by omega
   subst hkn
   have h4:=bG HOK.out.n
   go_wp2_with(first|(refine wlw HFK.out.m 0 (aF {m with names:=ns} v vq vd) rfl rfl _ _ rfl rfl _ Tryz.underlying41 rfl aB ?_)|(refine dA HFK.out.r 0 (aF {m with names:=ns} v vq vd) _ (bW ..) (Nat.le_refl 36) (bT _ h4 h2 h3) rfl _ _ _ rfl rfl rfl aB ?_;intro wz hs ho;have HZF:=hid hs;have HOF:=hid (ho (fun i=>i=q) rfl _ (Off.refl _ _));clear hs ho))
   obtain⟨r1,r2,r3⟩:=HFK.out.end_ HOK.out HOF.out
   refine bodyPost_ret (bf (l:=aF {m with names:=ns} v vq vd) rfl Tryz.underlying41 rfl aB rfl HZF.out) rfl ⟨_,_,_,_,rfl,r1,⟨fun h=>absurd rfl h,fun _=>rfl,fun _=>rfl⟩,r2, ?_⟩
   have e:st.bind (fun l=>rfF m l .names)=sk.map (fun r=>({m with names:=ns},r)):=by
    have e1:st.bind (fun l=>rfF m l .names)=(st.bind (fF aN)).map (fun p=>({m with names:=p.1},p.2)):=by cases st<;>rfl
    rw[e1,HG.out,HGK.out,Nat.sub_self,D7,Option.map_map]
    rfl
   rw[e]
   cases sk with
   |none=>exact r3
   |some r=>exact⟨rfl,r3⟩
theorem D8{w:World}{p base:Nat}{hv vn vq vd:Value}{x:List UInt8}{st:Option (List UInt8)}{m:Mg}(hx:Bys w base hv x)(hbp:base≤p)(h:BdS w p hv x st)(ho:OL w base m vn vq vd)(hn:m.aV=[]):
  Calls Tryz.prog 49 #[.pointer (some ⟨p,0,none⟩),iM m vn vq vd,.int .u8 81] w (uw p base hv x m .aV st w):=by
 have HWC:=hid (fun w=>jL .aV w)
 have HIT:=hid (fun w=>jV .aV w)
 have HF0:=jO hx hbp h ho
 have HF:=hid HF0.1
 have HOL:=hid HF0.2
 have h1:=bG ho.n
 have h2:=bG ho.q
 have h3:=bG ho.d
 clear hx hbp h ho HF0
 go_enter Tryz.func49,Tryz.ntmps49
 go_upto_region 1 with(fail)
 change Code.wp _ _ _ _ ((w.alloc (.cells (aF m vn vq vd).toArray 41)).alloc (.cells (mgN (head 0 0)).toArray 41))
 generalize((w.alloc (.cells (aF m vn vq vd).toArray 41)).alloc (.cells (mgN (head 0 0)).toArray 41))=w1 at HF HOL⊢
 generalize w.heap.size+1=q at HF⊢
 generalize w.heap.size=z at HF⊢
 go_wp2_with fail
 refine(HWC.out _).mono ?_
 rintro e w2 ⟨rfl,rfl⟩
 go_wp2_with fail
 refine(HIT.out _).mono ?_
 rintro e w2 ⟨rfl,rfl⟩
 go_wp2_with fail
 refine(rY HF.out.x HF.out.bp HF.out.s).mono ?_
 intro e w2 hcr
 obtain⟨n,s1,rfl,hn16,ho,hs,hg⟩:=D6 hcr
 have HG:=hid (@hg Qd dR)
 have lN:=hid (HOL.out.bd HF.out.s (ho.mono fun _ _ hi=> .inl hi))
 have HF2:=hid (HF.out.step hs (ho.mono fun _ _ hi=> .inl hi))
 have HN:=hid hn
 clear hs ho HF HOL hcr hg hn
 go_upto_region 17 with(fail)
 go_loopw [13] (fun i wr=>∃(k:Nat) (ns:List Qd) (sk:Option (List UInt8)) (v:Value),k≤n∧i= .int .i64 (k:Int)∧ns.length=k∧FS w wr p z q base hv x sk {m with aV:=ns} vn v vd∧OL wr base {m with aV:=ns} vn v vd∧s1.bind (getMany dR n)=sk.bind (fun l=>(getMany dR (n-k) l).map (fun p=>(ns++p.1,p.2)))) (fun i _=>n-(intOf i).toNat)
 case atStart=>
  exact⟨0,[],s1,vq,Nat.zero_le _,rfl,rfl,(by rw[←HN.out];exact HF2.out),(by rw[←HN.out];exact lN.out),uy _ _ _⟩
 case round=>
  obtain⟨k,ns,sk,v,hk,rfl,hns,hf,hol,hg⟩:=hrel
  have HFK:=hid hf
  have HOK:=hid hol
  have HGK:=hid hg
  have HNS:=hid hns
  clear hf hol hg hns
  by_cases hlt:k<n
  ·go_wp2_with fail
   refine(xX HFK.out.x HFK.out.bp HFK.out.s).mono ?_
   rintro e w3 ⟨⟨v1,v2,v3⟩,rfl, -,ho,hm⟩
   obtain⟨st',hs,HST⟩:∃st',BdS w3 p hv x st'∧Hid (Nc (sk.bind dR) ⟨v1,v2,v3⟩ st'):=by
    cases hg:sk.bind dR with
    |none=>rw[hg]at hm;exact⟨none,hm,hid rfl⟩
    |some y=>rw[hg]at hm;exact⟨some y.2,hm.2,hid ⟨hm.1,rfl⟩⟩
   have HO3:=hid (HOK.out.bd HFK.out.s ho)
   have HF3:=hid (HFK.out.step hs ho)
   clear hs ho HFK hm HOK
   go_upto_region 20 with(fail)
   have hup:Below w3.heap.size w3 (w3.alloc (.cells #[.int .u8 (v1:Int),.int .u32 (v2:Int),.int .u64 (v3:Int)] 37)):=(Below.refl _ _).alloc (Nat.le_refl _) _
   have HFa:=hid (HF3.out.new hup)
   have HOa:=hid (HO3.out.below hup)
   have HQa:=hid (Blk.new w3 37 #[.int .u8 (v1:Int),.int .u32 (v2:Int),.int .u64 (v3:Int)])
   clear hup HF3 HO3
   generalize w3.alloc (.cells #[.int .u8 (v1:Int),.int .u32 (v2:Int),.int .u64 (v3:Int)] 37)=wa at HFa HOa HQa⊢
   generalize w3.heap.size=c3 at HQa⊢
   have hup:Below wa.heap.size wa (wa.alloc (.cells #[.int .u8 (v1:Int),.int .u32 (v2:Int),.int .u64 (v3:Int)] 37)):=(Below.refl _ _).alloc (Nat.le_refl _) _
   have HF4:=hid (HFa.out.new hup)
   have HO4:=hid (HOa.out.below hup)
   have HRD:=hid (show Reads (wa.alloc (.cells #[.int .u8 (v1:Int),.int .u32 (v2:Int),.int .u64 (v3:Int)] 37)) (wa.heap.size+1) 3 (some ⟨wa.heap.size,0,none⟩) ([⟨v1,v2,v3⟩]:List Qd).length (ng [⟨v1,v2,v3⟩])from dI wa 37 [.int .u8 (v1:Int),.int .u32 (v2:Int),.int .u64 (v3:Int)] 1 3 rfl)
   have HLN:=hid (show ns.length+([⟨v1,v2,v3⟩]:List Qd).length≤8796093022207 from by rw[HNS.out];simp only[List.length_cons,List.length_nil];omega)
   have kz:wa.cell? ⟨z,12,none⟩=some v:=Blk.cell HFa.out.m 12
   have k1:wa.cell? ⟨c3,0,none⟩=some (.int .u8 (v1:Int)):=Blk.cell HQa.out 0
   have k2:wa.cell? ⟨c3,1,none⟩=some (.int .u32 (v2:Int)):=Blk.cell HQa.out 1
   have k3:wa.cell? ⟨c3,2,none⟩=some (.int .u64 (v3:Int)):=Blk.cell HQa.out 2
   clear hup
   go_wp2_with(at_builtin;refine Ai (.tmp 73) (.tmp 75) rfl rfl base _ ns rfl HO4.out.q (wa.heap.size+1) _ 1 [⟨v1,v2,v3⟩] rfl HRD.out HLN.out HF4.out.size ?_;intro v4 w4 hown hgr hor;generalize Nj:(ns++[(⟨v1,v2,v3⟩:Qd)]).length=n4 at hown;have HL4:=hid Nj;clear Nj;obtain⟨A4,c4,rfl, -⟩:=aJ hown;have HV4:=hid hown;have HF5:=hid (HF4.out.app HO4.out.q (by decide) (by decide) hgr);have HQ5:=hid (HO4.out.n.kept hgr (fC HO4.out.n HO4.out.q (by decide)));have HD5:=hid (HO4.out.d.kept hgr (fC HO4.out.d HO4.out.q (by decide)));clear hown hgr hor kz k1 k2 k3;have kz:w4.cell? ⟨z,12,none⟩=some v:=Blk.cell HF5.out.m 12;have fz:w4.frozen? ⟨z,12,none⟩=false:=Blk.frozen HF5.out.m 12)
   go_roundw
   case rel=>
    have hn':=HNS.out
    have hl4:=HL4.out
    subst hl4
    refine⟨k+1,ns++[⟨v1,v2,v3⟩],st',_,by omega,by go_num,by rw[List.length_append,hn'];rfl,HF5.out.turn (aK.aW HF5.out.m _ _ (xA ..)) (bM ..), ?_, ?_⟩
    ·exact OL.qp (m:= {m with aV:=ns++[⟨v1,v2,v3⟩]}) ⟨HQ5.out,HV4.out,HD5.out⟩ HF5.out.m (bM ..)
    ·rw[HGK.out,show n-k=(n-(k+1))+1 from by omega]
     exact zO _ HST.out
   case measure=>simp[intOf];omega
  ·have hkn:k=n:=by omega
   subst hkn
   have h4:=bG HOK.out.q
   go_wp2_with(first|(refine wlw HFK.out.m 0 (aF {m with aV:=ns} vn v vd) rfl rfl _ _ rfl rfl _ Tryz.underlying41 rfl aB ?_)|(refine dA HFK.out.r 0 (aF {m with aV:=ns} vn v vd) _ (bW ..) (Nat.le_refl 36) (bT _ h1 h4 h3) rfl _ _ _ rfl rfl rfl aB ?_;intro wz hs ho;have HZF:=hid hs;have HOF:=hid (ho (fun i=>i=q) rfl _ (Off.refl _ _));clear hs ho))
   obtain⟨r1,r2,r3⟩:=HFK.out.end_ HOK.out HOF.out
   refine bodyPost_ret (bf (l:=aF {m with aV:=ns} vn v vd) rfl Tryz.underlying41 rfl aB rfl HZF.out) rfl ⟨_,_,_,_,rfl,r1,⟨fun _=>rfl,fun h=>absurd rfl h,fun _=>rfl⟩,r2, ?_⟩
   have e:st.bind (fun l=>rfF m l .aV)=sk.map (fun r=>({m with aV:=ns},r)):=by
    have e1:st.bind (fun l=>rfF m l .aV)=(st.bind (fF dR)).map (fun p=>({m with aV:=p.1},p.2)):=by cases st<;>rfl
    rw[e1,HG.out,HGK.out,Nat.sub_self,D7,Option.map_map]
    rfl
   rw[e]
   cases sk with
   |none=>exact r3
   |some r=>exact⟨rfl,r3⟩
theorem F9{w:World}{p base:Nat}{hv vn vq vd:Value}{x:List UInt8}{st:Option (List UInt8)}{m:Mg}(hx:Bys w base hv x)(hbp:base≤p)(h:BdS w p hv x st)(ho:OL w base m vn vq vd):
  Calls Tryz.prog 49 #[.pointer (some ⟨p,0,none⟩),iM m vn vq vd,.int .u8 113] w (uw p base hv x m .qid st w):=by
 have HWC:=hid (fun w=>jL .qid w)
 have HIT:=hid (fun w=>jV .qid w)
 have HF0:=jO hx hbp h ho
 have HF:=hid HF0.1
 have HOL:=hid HF0.2
 have h1:=bG ho.n
 have h2:=bG ho.q
 have h3:=bG ho.d
 clear hx hbp h ho HF0
 go_enter Tryz.func49,Tryz.ntmps49
 go_upto_region 1 with(fail)
 change Code.wp _ _ _ _ ((w.alloc (.cells (aF m vn vq vd).toArray 41)).alloc (.cells (mgN (head 0 0)).toArray 41))
 generalize((w.alloc (.cells (aF m vn vq vd).toArray 41)).alloc (.cells (mgN (head 0 0)).toArray 41))=w1 at HF HOL⊢
 generalize w.heap.size+1=q at HF⊢
 generalize w.heap.size=z at HF⊢
 go_wp2_with fail
 refine(HWC.out _).mono ?_
 rintro e w2 ⟨rfl,rfl⟩
 go_wp2_with fail
 refine(HIT.out _).mono ?_
 rintro e w2 ⟨rfl,rfl⟩
 go_wp2_with fail
 refine(xX HF.out.x HF.out.bp HF.out.s).mono ?_
 rintro e w3 ⟨⟨v1,v2,v3⟩,rfl, -,ho,hm⟩
 obtain⟨st',hs,HST⟩:∃st',BdS w3 p hv x st'∧Hid (Nc (st.bind dR) ⟨v1,v2,v3⟩ st'):=by
  cases hg:st.bind dR with
  |none=>rw[hg]at hm;exact⟨none,hm,hid rfl⟩
  |some y=>rw[hg]at hm;exact⟨some y.2,hm.2,hid ⟨hm.1,rfl⟩⟩
 have HO3:=hid (HOL.out.bd HF.out.s ho)
 have HF3:=hid (HF.out.step hs ho)
 clear hs ho HF hm HOL
 have k0:w3.cell? ⟨z,13,none⟩=some (.int .u8 (m.qid.kind:Int)):=Blk.cell HF3.out.m 13
 have k1:w3.cell? ⟨z,14,none⟩=some (.int .u32 (m.qid.vers:Int)):=Blk.cell HF3.out.m 14
 have k2:w3.cell? ⟨z,15,none⟩=some (.int .u64 (m.qid.path:Int)):=Blk.cell HF3.out.m 15
 have z0:w3.frozen? ⟨z,13,none⟩=false:=Blk.frozen HF3.out.m 13
 have z1:w3.frozen? ⟨z,14,none⟩=false:=Blk.frozen HF3.out.m 14
 have z2:w3.frozen? ⟨z,15,none⟩=false:=Blk.frozen HF3.out.m 15
 have hmt:aK (((w3.setCell ⟨z,13,none⟩ (.int .u8 (v1:Int))).setCell ⟨z,14,none⟩ (.int .u32 (v2:Int))).setCell ⟨z,15,none⟩ (.int .u64 (v3:Int))) z {m with qid:=⟨v1,v2,v3⟩} vn vq vd:=by
  have h:=((Blk.aW HF3.out.m 13 (.int .u8 (v1:Int))).aW 14 (.int .u32 (v2:Int))).aW 15 (.int .u64 (v3:Int))
  rw[Bh m ⟨v1,v2,v3⟩]at h
  exact h
 have hoz:Off (fun i=>i=z) w3 (((w3.setCell ⟨z,13,none⟩ (.int .u8 (v1:Int))).setCell ⟨z,14,none⟩ (.int .u32 (v2:Int))).setCell ⟨z,15,none⟩ (.int .u64 (v3:Int))):=((bM w3 z 13 _).trans (bM _ z 14 _)).trans (bM _ z 15 _)
 have HF4:=hid (HF3.out.turn hmt hoz)
 have HO4:=hid (HO3.out.qp HF3.out.m hoz)
 clear hmt hoz HF3 HO3
 go_upto_region 34 with(fail)
 generalize((w3.setCell ⟨z,13,none⟩ (.int .u8 (v1:Int))).setCell ⟨z,14,none⟩ (.int .u32 (v2:Int))).setCell ⟨z,15,none⟩ (.int .u64 (v3:Int))=w4 at HF4 HO4⊢
 clear k0 k1 k2 z0 z1 z2
 go_wp2_with(first|(refine wlw HF4.out.m 0 (aF {m with qid:=⟨v1,v2,v3⟩} vn vq vd) rfl rfl _ _ rfl rfl _ Tryz.underlying41 rfl aB ?_)|(refine dA HF4.out.r 0 (aF {m with qid:=⟨v1,v2,v3⟩} vn vq vd) _ (bW ..) (Nat.le_refl 36) (bT _ h1 h2 h3) rfl _ _ _ rfl rfl rfl aB ?_;intro wz hs ho;have HZF:=hid hs;have HOF:=hid (ho (fun i=>i=q) rfl _ (Off.refl _ _));clear hs ho))
 obtain⟨r1,r2,r3⟩:=HF4.out.end_ (HO4.out.as (m':= {m with qid:=⟨v1,v2,v3⟩}) rfl rfl rfl) HOF.out
 refine bodyPost_ret (bf (l:=aF {m with qid:=⟨v1,v2,v3⟩} vn vq vd) rfl Tryz.underlying41 rfl aB rfl HZF.out) rfl ⟨_,_,_,_,rfl,r1,⟨fun _=>rfl,fun _=>rfl,fun _=>rfl⟩,r2, ?_⟩
 have e1:st.bind (fun l=>rfF m l .qid)=(st.bind dR).map (fun p=>({m with qid:=p.1},p.2)):=by cases st<;>rfl
 rw[e1]
 have hst:=HST.out
 cases hr:st.bind dR with
 |none=>rw[hr]at hst;rw[show st'=none from hst]at r3;exact r3
 |some r=>rw[hr]at hst;obtain⟨a1,a2⟩:=hst;rw[a2]at r3;exact⟨by rw[a1],r3⟩
theorem Nk(m:Mg)(st:Option (List UInt8)):st.bind (fun l=>rfF m l .data)=(dn (dn st 4).2 (aH (dn st 4).1)).2.map (fun r=>({m with data:=(dn (dn st 4).2 (aH (dn st 4).1)).1},r)):=by
 cases st with
 |none=>rfl
 |some l=>
  show(match bU 4 l with|none=>none|some (n,r)=>(gJ n r).map fun(p:List UInt8×List UInt8)=>(({m with data:=p.1}:Mg),p.2))=_
  by_cases h:4≤l.length
  ·rw[gU h]
   unfold bU
   rw[show gJ 4 l=some (l.take 4,l.drop 4)from if_pos h,Option.map_some]
   dsimp only
   by_cases h2:aH (l.take 4)≤(l.drop 4).length
   ·rw[gU h2,show gJ (aH (l.take 4)) (l.drop 4)=some ((l.drop 4).take (aH (l.take 4)),(l.drop 4).drop (aH (l.take 4)))from if_pos h2]
    rfl
   ·rw[jB (fun q hq=>by injection hq with hq;subst hq;omega),show gJ (aH (l.take 4)) (l.drop 4)=none from if_neg h2]
    rfl
  ·rw[jB (st:=some l) (n:=4) (fun q hq=>by injection hq with hq;subst hq;omega)]
   unfold bU
   rw[show gJ 4 l=none from if_neg h]
   rfl
theorem Nl(m:Mg)(st:Option (List UInt8)):st.bind (fun l=>rfF m l .stat)=(dn (dn st 2).2 (aH (dn st 2).1)).2.bind (fun r=>(fV (dn (dn st 2).2 (aH (dn st 2).1)).1).map fun s=>({m with stat:=s},r)):=by
 cases st with
 |none=>rfl
 |some l=>
  show(match bU 2 l with|none=>none|some (n,r)=>match gJ n r with|none=>none|some (b,r)=>(fV b).map fun s=>(({m with stat:=s}:Mg),r))=_
  by_cases h:2≤l.length
  ·rw[gU h]
   unfold bU
   rw[show gJ 2 l=some (l.take 2,l.drop 2)from if_pos h,Option.map_some]
   dsimp only
   by_cases h2:aH (l.take 2)≤(l.drop 2).length
   ·rw[gU h2,show gJ (aH (l.take 2)) (l.drop 2)=some ((l.drop 2).take (aH (l.take 2)),(l.drop 2).drop (aH (l.take 2)))from if_pos h2]
    rfl
   ·rw[jB (fun q hq=>by injection hq with hq;subst hq;omega),show gJ (aH (l.take 2)) (l.drop 2)=none from if_neg h2]
    rfl
  ·rw[jB (st:=some l) (n:=2) (fun q hq=>by injection hq with hq;subst hq;omega)]
   unfold bU
   rw[show gJ 2 l=none from if_neg h]
   rfl
theorem D9{w:World}{p base:Nat}{hv vn vq vd:Value}{x:List UInt8}{st:Option (List UInt8)}{m:Mg}(hx:Bys w base hv x)(hbp:base≤p)(h:BdS w p hv x st)(ho:OL w base m vn vq vd)(hn:m.data=[]):
  Calls Tryz.prog 49 #[.pointer (some ⟨p,0,none⟩),iM m vn vq vd,.int .u8 68] w (uw p base hv x m .data st w):=by
 have HR:=hid (oI st 4)
 have HNL:=hid (show aH (dn st 4).1<4294967296 from Nat.lt_of_lt_of_le (dD _) (show 256^_≤256^4 from Nat.pow_le_pow_right (by decide) (jM st 4)))
 have HWC:=hid (fun w=>jL .data w)
 have HIT:=hid (fun w=>jV .data w)
 have HF0:=jO hx hbp h ho
 have HF:=hid HF0.1
 have HOL:=hid HF0.2
 have h1:=bG ho.n
 have h2:=bG ho.q
 have h3:=bG ho.d
 clear hx hbp h ho HF0
 go_enter Tryz.func49,Tryz.ntmps49
 go_upto_region 1 with(fail)
 change Code.wp _ _ _ _ ((w.alloc (.cells (aF m vn vq vd).toArray 41)).alloc (.cells (mgN (head 0 0)).toArray 41))
 generalize((w.alloc (.cells (aF m vn vq vd).toArray 41)).alloc (.cells (mgN (head 0 0)).toArray 41))=w1 at HF HOL⊢
 generalize w.heap.size+1=q at HF⊢
 generalize w.heap.size=z at HF⊢
 go_wp2_with fail
 refine(HWC.out _).mono ?_
 rintro e w2 ⟨rfl,rfl⟩
 go_wp2_with fail
 refine(HIT.out _).mono ?_
 rintro e w2 ⟨rfl,rfl⟩
 go_wp2_with fail
 refine(iy 4 (by decide) HF.out.x HF.out.bp HF.out.s).mono ?_
 rintro e w2 ⟨rfl,hs,ho⟩
 have lN:=hid (HOL.out.bd HF.out.s (ho.mono fun _ _ hi=> .inl hi))
 have HF2:=hid (HF.out.step hs (ho.mono fun _ _ hi=> .inl hi))
 clear hs ho HF HOL
 have HRW:=hid (oH (aH (dn st 4).1) (by have:=HNL.out;omega) HF2.out.x HF2.out.bp HF2.out.s)
 go_wp2_with fail
 refine HRW.out.mono ?_
 rintro e w3 ⟨⟨l,rfl,hl⟩,hs,ho⟩
 have tJ:=hid (lN.out.bd HF2.out.s (ho.mono fun _ _ hi=> .inl hi))
 have HF3:=hid (HF2.out.step hs (ho.mono fun _ _ hi=> .inl hi))
 have HN:=hid hn
 obtain⟨D,hD⟩:∃D,D=dn (dn st 4).2 (aH (dn st 4).1):=⟨_,rfl⟩
 rw[←hD]at hl HF3
 have HDE:=hid hD
 have HDL:=hid (show D.1.length≤4294967296 from by rw[hD];exact Nat.le_trans (jM _ _) (Nat.le_of_lt HNL.out))
 obtain⟨A,c,rfl, -, -,hrd⟩:=hl
 have HRD:=hid hrd
 have HLN:=hid (show([]:List UInt8).length+D.1.length≤140737488355327 from by have:=HDL.out;rw[List.length_nil];omega)
 have HV0:=hid (show w3.ownsRow base 5 1 vd ([]:List UInt8).length (aX [])from by have h:=tJ.out.d;rw[HN.out]at h;exact h)
 have kz:w3.cell? ⟨z,22,none⟩=some vd:=Blk.cell HF3.out.m 22
 clear hs ho HF2 lN hn hD hrd HRW HNL
 go_wp2_with(first|(at_builtin;refine kY (.tmp 93) (.tmp 94) rfl rfl base _ [] rfl HV0.out base _ _ D.1 rfl HRD.out HLN.out HF3.out.size ?_;intro v4 w4 hown hgr hor;rw[List.nil_append]at hown;obtain⟨A4,c4,rfl, -⟩:=aJ hown;have HV4:=hid hown;have HF5:=hid (HF3.out.app HV0.out (by decide) (by decide) hgr);have HQ5:=hid (tJ.out.n.kept hgr (fC tJ.out.n HV0.out (by decide)));have HD5:=hid (tJ.out.q.kept hgr (fC tJ.out.q HV0.out (by decide)));clear hown hgr hor kz;have kz:w4.cell? ⟨z,22,none⟩=some vd:=Blk.cell HF5.out.m 22;have fz:w4.frozen? ⟨z,22,none⟩=false:=Blk.frozen HF5.out.m 22;have HF6:=hid (HF5.out.turn (aK.aW HF5.out.m 22 (.slice A4 D.1.length c4) (xB m D.1 ..)) (bM ..));have HO6:=hid (OL.qp (m:= {m with data:=D.1}) ⟨HQ5.out,HD5.out,HV4.out⟩ HF5.out.m (bM w4 z 22 (.slice A4 D.1.length c4)));clear HF5 HQ5 HD5 HF3 tJ HRD)|(refine wlw HF6.out.m 0 (aF {m with data:=D.1} vn vq (.slice A4 D.1.length c4)) rfl rfl _ _ rfl rfl _ Tryz.underlying41 rfl aB ?_)|(refine dA HF6.out.r 0 (aF {m with data:=D.1} vn vq (.slice A4 D.1.length c4)) _ (bW ..) (Nat.le_refl 36) (bT _ h1 h2 rfl) rfl _ _ _ rfl rfl rfl aB ?_;intro wz hs ho;have HZF:=hid hs;have HOF:=hid (ho (fun i=>i=q) rfl _ (Off.refl _ _));clear hs ho))
 obtain⟨r1,r2,r3⟩:=HF6.out.end_ HO6.out HOF.out
 refine bodyPost_ret (bf (l:=aF {m with data:=D.1} vn vq (.slice A4 D.1.length c4)) rfl Tryz.underlying41 rfl aB rfl HZF.out) rfl ⟨_,_,_,_,rfl,r1,⟨fun _=>rfl,fun _=>rfl,fun h=>absurd rfl h⟩,r2, ?_⟩
 have e1:=Nk m st
 rw[←HDE.out]at e1
 rw[e1]
 cases hr:D.2 with
 |none=>rw[hr]at r3;exact r3
 |some r=>rw[hr]at r3;exact⟨rfl,r3⟩
theorem D_{w:World}{p base:Nat}{hv vn vq vd:Value}{x:List UInt8}{st:Option (List UInt8)}{m:Mg}(hx:Bys w base hv x)(hbp:base≤p)(h:BdS w p hv x st)(ho:OL w base m vn vq vd):
  Calls Tryz.prog 49 #[.pointer (some ⟨p,0,none⟩),iM m vn vq vd,.int .u8 83] w (uw p base hv x m .stat st w):=by
 have HR:=hid (oI st 2)
 have HNL:=hid (show aH (dn st 2).1<65536 from Nat.lt_of_lt_of_le (dD _) (show 256^_≤256^2 from Nat.pow_le_pow_right (by decide) (jM st 2)))
 have HWC:=hid (fun w=>jL .stat w)
 have HIT:=hid (fun w=>jV .stat w)
 have HF0:=jO hx hbp h ho
 have HF:=hid HF0.1
 have HOL:=hid HF0.2
 have h1:=bG ho.n
 have h2:=bG ho.q
 have h3:=bG ho.d
 clear hx hbp h ho HF0
 go_enter Tryz.func49,Tryz.ntmps49
 go_upto_region 1 with(fail)
 change Code.wp _ _ _ _ ((w.alloc (.cells (aF m vn vq vd).toArray 41)).alloc (.cells (mgN (head 0 0)).toArray 41))
 generalize((w.alloc (.cells (aF m vn vq vd).toArray 41)).alloc (.cells (mgN (head 0 0)).toArray 41))=w1 at HF HOL⊢
 generalize w.heap.size+1=q at HF⊢
 generalize w.heap.size=z at HF⊢
 go_wp2_with fail
 refine(HWC.out _).mono ?_
 rintro e w2 ⟨rfl,rfl⟩
 go_wp2_with fail
 refine(HIT.out _).mono ?_
 rintro e w2 ⟨rfl,rfl⟩
 go_wp2_with fail
 refine(iy 2 (by decide) HF.out.x HF.out.bp HF.out.s).mono ?_
 rintro e w2 ⟨rfl,hs,ho⟩
 have lN:=hid (HOL.out.bd HF.out.s (ho.mono fun _ _ hi=> .inl hi))
 have HF2:=hid (HF.out.step hs (ho.mono fun _ _ hi=> .inl hi))
 clear hs ho HF HOL
 have HRW:=hid (oH (aH (dn st 2).1) (by have:=HNL.out;omega) HF2.out.x HF2.out.bp HF2.out.s)
 go_wp2_with fail
 refine HRW.out.mono ?_
 rintro e w3 ⟨⟨l,rfl,hl⟩,hs,ho⟩
 have tJ:=hid (lN.out.bd HF2.out.s (ho.mono fun _ _ hi=> .inl hi))
 have HF3:=hid (HF2.out.step hs (ho.mono fun _ _ hi=> .inl hi))
 obtain⟨D,hD⟩:∃D,D=dn (dn st 2).2 (aH (dn st 2).1):=⟨_,rfl⟩
 rw[←hD]at hl HF3
 have HDE:=hid hD
 have HDL:=hid (show D.1.length≤16777216 from by rw[hD];exact Nat.le_trans (jM _ _) (by have:=HNL.out;omega))
 have HL:=hid (hl.more HF3.out.size)
 clear hs ho HF2 lN hD HRW HNL
 obtain⟨A,c,rfl, -⟩:=hl
 go_wp2_with fail
 refine(yR HL.out HDL.out).mono ?_
 rintro e w4 ⟨hb,s,n,rfl,hm⟩
 have HF4:=hid (HF3.out.new hb)
 have HO4:=hid (tJ.out.below hb)
 have HM:=hid hm
 clear hb hm HF3 tJ HL
 go_upto_region 31 with(fail)
 change Code.wp _ _ _ _ (w4.alloc (.cells (stL s).toArray 39))
 have hup:Below w4.heap.size w4 (w4.alloc (.cells (stL s).toArray 39)):=(Below.refl _ _).alloc (Nat.le_refl _) _
 have HFa:=hid (HF4.out.new hup)
 have HOa:=hid (HO4.out.below hup)
 have HSa:=hid (Blk.new w4 39 (stL s).toArray)
 clear hup HF4 HO4
 generalize w4.alloc (.cells (stL s).toArray 39)=wa at HFa HOa HSa⊢
 generalize w4.heap.size=c3 at HSa⊢
 have HRS:=hid (Nl m st)
 rw[←HDE.out]at HRS
 cases hg:fV D.1 with
 |none=>
  have hm:=HM.out
  rw[hg]at hm
  obtain⟨rfl,rfl⟩:=hm
  rw[hg]at HRS
  clear hg HM
  obtain⟨a,b,hb,hax,hxz, -⟩:=HFa.out.s
  have HAX:=hid (And.intro hax hxz)
  have kb:wa.cell? ⟨p,2,none⟩=some (.bool b):=hb.cell 2
  have fb:wa.frozen? ⟨p,2,none⟩=false:=hb.frozen 2
  have HF6:=hid (HFa.out.step HFa.out.s.bad ((Off.refl _ wa).setCell (p:=⟨p,2,none⟩) (.inl rfl) (.bool true)))
  have HO6:=hid (HOa.out.bd HFa.out.s ((Off.refl _ wa).setCell (p:=⟨p,2,none⟩) (.inl rfl) (.bool true)))
  have HS6:=hid (show Blk (wa.setCell ⟨p,2,none⟩ (.bool true)) c3 39 (stL zS).toArray from((Off.refl (fun i=>i=p) wa).setCell (p:=⟨p,2,none⟩) rfl (.bool true)).blk HSa.out (fun e=>HFa.out.s.noT (by decide) _ _ _ e HSa.out))
  clear hb hax hxz
  go_upto_region 33 with(fail)
  clear HFa HOa HSa kb fb
  generalize wa.setCell ⟨p,2,none⟩ (.bool true)=wb at HF6 HO6 HS6⊢
  go_wp2_with(first|(refine wlw HS6.out 0 (stL zS) rfl rfl _ _ rfl rfl _ Tryz.underlying39 rfl bP ?_)|(refine dA HF6.out.m 23 (stL zS) _ (qc ..) (Nat.le_refl 36) (uY _) rfl _ _ _ rfl rfl rfl bP ?_;intro w7 hs hoo;have HO7:=hid (OL.qp (m:= {m with stat:=zS}) ⟨HO6.out.n,HO6.out.q,HO6.out.d⟩ HF6.out.m (hoo (fun i=>i=z) rfl _ (Off.refl _ _)));have HF7:=hid (HF6.out.turn hs (hoo (fun i=>i=z) rfl _ (Off.refl _ _)));clear hs hoo HF6 HO6 HS6)|(refine wlw HF7.out.m 0 (aF {m with stat:=zS} vn vq vd) rfl rfl _ _ rfl rfl _ Tryz.underlying41 rfl aB ?_)|(refine dA HF7.out.r 0 (aF {m with stat:=zS} vn vq vd) _ (bW ..) (Nat.le_refl 36) (bT _ h1 h2 h3) rfl _ _ _ rfl rfl rfl aB ?_;intro wz hs ho;have HZF:=hid hs;have HOF:=hid (ho (fun i=>i=q) rfl _ (Off.refl _ _));clear hs ho))
  obtain⟨r1,r2,r3⟩:=HF7.out.end_ HO7.out HOF.out
  refine bodyPost_ret (bf (l:=aF {m with stat:=zS} vn vq vd) rfl Tryz.underlying41 rfl aB rfl HZF.out) rfl ⟨_,_,_,_,rfl,r1,⟨fun _=>rfl,fun _=>rfl,fun _=>rfl⟩,r2, ?_⟩
  rw[HRS.out]
  cases hr:D.2 with
  |none=>exact r3
  |some r=>exact r3
 |some t=>
  have hm:=HM.out
  rw[hg]at hm
  obtain⟨rfl,rfl⟩:=hm
  rw[hg]at HRS
  have HF6:=HFa
  have HO6:=HOa
  have HS6:=HSa
  clear hg HM HFa HOa HSa
  go_upto_region 33 with(fail)
  go_wp2_with(first|(refine wlw HS6.out 0 (stL s) rfl rfl _ _ rfl rfl _ Tryz.underlying39 rfl bP ?_)|(refine dA HF6.out.m 23 (stL s) _ (qc ..) (Nat.le_refl 36) (uY _) rfl _ _ _ rfl rfl rfl bP ?_;intro w7 hs hoo;have HO7:=hid (OL.qp (m:= {m with stat:=s}) ⟨HO6.out.n,HO6.out.q,HO6.out.d⟩ HF6.out.m (hoo (fun i=>i=z) rfl _ (Off.refl _ _)));have HF7:=hid (HF6.out.turn hs (hoo (fun i=>i=z) rfl _ (Off.refl _ _)));clear hs hoo HF6 HO6 HS6)|(refine wlw HF7.out.m 0 (aF {m with stat:=s} vn vq vd) rfl rfl _ _ rfl rfl _ Tryz.underlying41 rfl aB ?_)|(refine dA HF7.out.r 0 (aF {m with stat:=s} vn vq vd) _ (bW ..) (Nat.le_refl 36) (bT _ h1 h2 h3) rfl _ _ _ rfl rfl rfl aB ?_;intro wz hs ho;have HZF:=hid hs;have HOF:=hid (ho (fun i=>i=q) rfl _ (Off.refl _ _));clear hs ho))
  obtain⟨r1,r2,r3⟩:=HF7.out.end_ HO7.out HOF.out
  refine bodyPost_ret (bf (l:=aF {m with stat:=s} vn vq vd) rfl Tryz.underlying41 rfl aB rfl HZF.out) rfl ⟨_,_,_,_,rfl,r1,⟨fun _=>rfl,fun _=>rfl,fun _=>rfl⟩,r2, ?_⟩
  rw[HRS.out]
  cases hr:D.2 with
  |none=>rw[hr]at r3;exact r3
  |some r=>rw[hr]at r3;exact⟨rfl,r3⟩
theorem OL.rw_{w w':World}{p base:Nat}{m:Mg}{vn vq vd:Value}{s:ByteArray}{st:Except Nat (List UInt8)}(h:OL w base m vn vq vd)(hs:RwS w p s st)(ho:Off (fun i=>i=p) w w'):OL w' base m vn vq vd:=
 h.off ho fun i cur fr e hi he=>by rcases he with rfl|rfl|rfl<;>exact hs.noT (by decide) i cur fr hi
def Yr(p base:Nat)(s:ByteArray)(m:Mg)(f:Fld)(st:Except Nat (List UInt8))(w:World)(e:Ending)(w':World):Prop:=
 ∃m' vn vq vd st',e= .returned (iM m' vn vq vd)∧OL w' base m' vn vq vd∧Ur m m' f∧Nh base w w'∧RwS w' p s st'∧XZ (st >>= fun l=>pF m l f) m' st'
structure GS(w0 w:World)(p z q base:Nat)(s:ByteArray)(st:Except Nat (List UInt8))(m:Mg)(vn vq vd:Value):Prop where
 ln:RwS w p s st
 mb:aK w z m vn vq vd
 rb:aK w q (head 0 0) (.slice none 0 0) (.slice none 0 0) (.slice none 0 0)
 bp:base≤p
 bb:base≤w0.heap.size
 bz:w0.heap.size≤z
 zq:z+1=q
 bl:Below base w0 w
 kp:∀g cs,Blk w0 g 41 cs→Blk w g 41 cs
section
variable {w w' w0:World} {p z q base:Nat} {vn vq vd:Value} {s:ByteArray} {st st':Except Nat (List UInt8)} {m:Mg}
theorem GS.step(h:GS w0 w p z q base s st m vn vq vd)(hs:RwS w' p s st')(ho:Off (fun i=>i=p) w w'):GS w0 w' p z q base s st' m vn vq vd:=by
 have hz:=Blk.lt h.mb
 have hbz:=h.bz
 have hbb:=h.bb
 have hbp:=h.bp
 have hS:∀i,i=p→base≤i:=fun i hi=>by omega
 have hK:∀g cs,Blk w g 41 cs→Blk w' g 41 cs:=fun g cs hg=>ho.blk hg (fun e=>h.ln.noT (by decide) _ _ _ e hg)
 exact⟨hs,hK _ _ h.mb,hK _ _ h.rb,hbp,hbb,hbz,h.zq,h.bl.trans (ho.below hS (by omega)),fun g cs hg=>hK g cs (h.kp g cs hg)⟩
theorem GS.new(h:GS w0 w p z q base s st m vn vq vd)(hb:Below w.heap.size w w'):GS w0 w' p z q base s st m vn vq vd:=h.step (h.ln.below hb) (Off.of_below hb)
theorem GS.size(h:GS w0 w p z q base s st m vn vq vd):base≤w.heap.size:=by
 have hz:=Blk.lt h.mb
 have hbz:=h.bz
 have hbb:=h.bb
 omega
theorem GS.turn{m':Mg}{xn xq xd:Value}(h:GS w0 w p z q base s st m vn vq vd)(hm:aK w' z m' xn xq xd)(ho:Off (fun i=>i=z) w w'):GS w0 w' p z q base s st m' xn xq xd:=by
 have hz:=Blk.lt h.mb
 have hbz:=h.bz
 have hbb:=h.bb
 have hzq:=h.zq
 have hS:∀i,i=z→base≤i:=fun i hi=>by omega
 exact⟨h.ln.off ho (fun e=>h.ln.noT (by decide) z _ _ e.symm h.mb),hm,ho.blk h.rb (fun e=>by have e:q=z:=e;omega),h.bp,hbb,hbz,hzq,h.bl.trans (ho.below hS (by omega)),fun g cs hg=>ho.blk (h.kp g cs hg) (fun e=>by have e:g=z:=e;have:=Blk.lt hg;omega)⟩
theorem GS.app{e:TypeId}{v:Value}{n k:Nat}{xs:List Value}(h:GS w0 w p z q base s st m vn vq vd)(hr:w.ownsRow base e k v n xs)(h1:e≠106)(h2:e≠41)(hg:w.grownBy w' v.ownBlock):GS w0 w' p z q base s st m vn vq vd:=by
 have hS:∀i,v.ownBlock=some i→base≤i:=fun i hi=>dH hr i hi
 have ho:=(Off.refl (fun i=>v.ownBlock=some i) w).grown hg (fun g hg=>hg)
 obtain⟨a,b,hb, -⟩:=id h.ln
 have hK:∀g cs,Blk w g 41 cs→Blk w' g 41 cs:=fun g cs hg=>ho.blk hg (fun e=>bZ hr h2 g _ _ e hg)
 exact⟨h.ln.off ho (fun e=>bZ hr h1 p _ _ e hb),hK _ _ h.mb,hK _ _ h.rb,h.bp,h.bb,h.bz,h.zq,h.bl.trans (ho.below hS h.size),fun g cs hg=>hK g cs (h.kp g cs hg)⟩
theorem GS.end_{wz:World}{m':Mg}{xn xq xd:Value}(h:GS w0 w p z q base s st m vn vq vd)(hl:OL w base m' xn xq xd)(ho:Off (fun i=>i=q) w wz):OL wz base m' xn xq xd∧Nh base w0 wz∧RwS wz p s st:=by
 have hq:=Blk.lt h.rb
 have hzq:=h.zq
 have hbz:=h.bz
 have hbb:=h.bb
 exact⟨hl.qp h.rb ho,⟨h.bl.trans (ho.below (fun i hi=>by have hi:i=q:=hi;omega) (by omega)),fun g cs hg=>ho.blk (h.kp g cs hg) (fun e=>by have e:g=q:=e;have:=Blk.lt hg;omega)⟩,h.ln.off ho (fun e=>h.ln.noT (by decide) q _ _ e.symm h.rb)⟩
theorem GS.kept(h:GS w0 w p z q base s st m vn vq vd)(hs:RwS w' p s st')(hk:Nh base w w'):GS w0 w' p z q base s st' m vn vq vd:=
 ⟨hs,hk.2 _ _ h.mb,hk.2 _ _ h.rb,h.bp,h.bb,h.bz,h.zq,h.bl.trans hk.1,fun g cs hg=>hk.2 g cs (h.kp g cs hg)⟩
end
theorem XV{w:World}{p base:Nat}{vn vq vd:Value}{s:ByteArray}{st:Except Nat (List UInt8)}{m:Mg}(hbp:base≤p)(h:RwS w p s st)(ho:OL w base m vn vq vd):
  GS w ((w.alloc (.cells (aF m vn vq vd).toArray 41)).alloc (.cells (mgN (head 0 0)).toArray 41)) p w.heap.size (w.heap.size+1) base s st m vn vq vd∧OL ((w.alloc (.cells (aF m vn vq vd).toArray 41)).alloc (.cells (mgN (head 0 0)).toArray 41)) base m vn vq vd:=by
 obtain⟨hu,hm,hz⟩:=uZ w m vn vq vd
 have hp:=h.lt
 exact⟨⟨h.below hu,hm,hz,hbp,by omega,Nat.le_refl _,rfl,hu.mono (by omega),fun g cs hg=>Blk.below hg hu (Blk.lt hg)⟩,ho.below hu⟩
theorem XZ.map{α β:Type}{o:Except Nat (α×List UInt8)}{x:α}{st:Except Nat (List UInt8)}(h:XZ o x st)(g:α→β):XZ (o.map fun p=>(g p.1,p.2)) (g x) st:=by
 unfold XZ at*
 cases o with
 |error k=>exact h
 |ok p=>obtain⟨h1,h2⟩:=h;subst h1;exact⟨rfl,h2⟩
theorem Yc{α β:Type}(st:Except Nat (List UInt8))(f:List UInt8→Except Nat α)(g:α→β):(st >>= fun l=>(f l).map g)=(st >>= f).map g:=by cases st<;>rfl
theorem YR{k:Nat}(hk:k=1∨k=2∨k=4∨k=8)(w:World):Calls Tryz.prog 101 #[.int .i64 (k:Int)] w fun e w'=>e= .returned (.int .u64 (most k:Int))∧w=w':=by
 rcases hk with rfl|rfl|rfl|rfl<;>
 ·go_enter Tryz.func101,Tryz.ntmps101
  go_wp2_with fail
  go_ret
  exact⟨rfl,rfl⟩
theorem YS{f:Fld}(hf:0<f.width):f.width=1∨f.width=2∨f.width=4∨f.width=8:=by cases f<;>first|decide|exact absurd hf (by decide)
theorem aai{k:Nat}(hk:k=1∨k=2∨k=4∨k=8):9≤most k∧most k<18446744073709551616∧most k+1=256^k:=by rcases hk with rfl|rfl|rfl|rfl<;>decide
theorem aap{f:Fld}(hf:0<f.width)(m:Mg)(l:List UInt8):pF m l f=(fZ (most f.width) l).map fun p=>(m.aG p.1 f,p.2):=by
 cases f<;>first|rfl|exact absurd hf (by decide)
theorem aaq{f:Fld}(hf:f.isText=true)(m:Mg)(l:List UInt8):pF m l f=(dJ l).map fun p=>(m.bV p.1 f,p.2):=by
 cases f<;>first|rfl|exact absurd hf (by decide)
theorem ZJ{w:World}{p base:Nat}{vn vq vd:Value}{s:ByteArray}{st:Except Nat (List UInt8)}{m:Mg}(hbp:base≤p)(h:RwS w p s st)(ho:OL w base m vn vq vd)(f:Fld)(hf:0<f.width):
  Calls Tryz.prog 55 #[.pointer (some ⟨p,0,none⟩),iM m vn vq vd,.int .u8 (f.rX.toNat:Int)] w (Yr p base s m f st w):=by
 have HMO:=hid (aai (YS hf))
 have HPF:=hid (show(st >>= fun l=>pF m l f)=(st >>= fZ (most f.width)).map (fun p=>(m.aG p.1 f,p.2))from by rw[←Yc];congr 1;funext l;exact aap hf m l)
 have HWC:=hid (jL f)
 have HGR:=hid (fun w=>YR (YS hf) w)
 have HSN:=hid (fun n hn=>uT f hf n hn m vn vq vd (bG ho.n) (bG ho.q) (bG ho.d))
 have hf1:(0:Int)<(f.width:Int):=by omega
 clear hf
 have HF0:=XV hbp h ho
 have HF:=hid HF0.1
 have HOL:=hid HF0.2
 have h1:=bG ho.n
 have h2:=bG ho.q
 have h3:=bG ho.d
 clear hbp h ho HF0
 go_enter Tryz.func55,Tryz.ntmps55
 go_upto_region 2 with(fail)
 change Code.wp _ _ _ _ ((w.alloc (.cells (aF m vn vq vd).toArray 41)).alloc (.cells (mgN (head 0 0)).toArray 41))
 generalize((w.alloc (.cells (aF m vn vq vd).toArray 41)).alloc (.cells (mgN (head 0 0)).toArray 41))=w1 at HF HOL⊢
 generalize w.heap.size+1=q at HF⊢
 generalize w.heap.size=z at HF⊢
 go_wp2_with fail
 refine(HWC.out _).mono ?_
 rintro e w2 ⟨rfl,rfl⟩
 go_wp2_with fail
 refine(HWC.out _).mono ?_
 rintro e w2 ⟨rfl,rfl⟩
 go_wp2_with fail
 refine(HGR.out _).mono ?_
 rintro e w2 ⟨rfl,rfl⟩
 go_wp2_with fail
 refine(XU (most f.width) HMO.out.1 HMO.out.2.1 HF.out.ln).mono ?_
 rintro e w2 ⟨n,s1,rfl,hn,hs,hg,ho⟩
 have HG:=hid hg
 have HLT:=hid (show n<256^f.width from by have:=HMO.out.2.2;omega)
 have lN:=hid (HOL.out.rw_ HF.out.ln ho)
 have HF2:=hid (HF.out.step hs ho)
 clear hs ho HF HOL hg hn
 go_wp2_with(refine wlw HF2.out.mb 0 (aF m vn vq vd) rfl rfl _ _ rfl rfl _ Tryz.underlying41 rfl aB ?_)
 refine(HSN.out n HLT.out _).mono ?_
 rintro e w3 ⟨rfl,hb⟩
 have HF3:=hid (HF2.out.new hb)
 have tJ:=hid (lN.out.below hb)
 clear hb HF2 lN
 go_wp2_with(refine dA HF3.out.rb 0 (aF (m.aG n f) vn vq vd) _ (bW ..) (Nat.le_refl 36) (bT _ h1 h2 h3) rfl _ _ _ rfl rfl rfl aB ?_;intro wz hs ho;have HZF:=hid hs;have HOF:=hid (ho (fun i=>i=q) rfl _ (Off.refl _ _));clear hs ho)
 obtain⟨e1,e2,e3⟩:=JE m n f
 obtain⟨r1,r2,r3⟩:=HF3.out.end_ (tJ.out.as e1 e2 e3) HOF.out
 exact bodyPost_ret (bf (l:=aF (m.aG n f) vn vq vd) rfl Tryz.underlying41 rfl aB rfl HZF.out) rfl ⟨_,_,_,_,_,rfl,r1,⟨fun _=>e1,fun _=>e2,fun _=>e3⟩,r2,r3,by rw[HPF.out];exact HG.out.map (fun n=>m.aG n f)⟩
theorem ZK{w:World}{p base:Nat}{vn vq vd:Value}{s:ByteArray}{st:Except Nat (List UInt8)}{m:Mg}(hbp:base≤p)(h:RwS w p s st)(ho:OL w base m vn vq vd)(f:Fld)(hf:f.isText=true):
  Calls Tryz.prog 55 #[.pointer (some ⟨p,0,none⟩),iM m vn vq vd,.int .u8 (f.rX.toNat:Int)] w (Yr p base s m f st w):=by
 have HPF:=hid (show(st >>= fun l=>pF m l f)=(st >>= dJ).map (fun p=>(m.bV p.1 f,p.2))from by rw[←Yc];congr 1;funext l;exact aaq hf m l)
 have HWC:=hid (show∀w,Calls Tryz.prog 91 #[.int .u8 (f.rX.toNat:Int)] w fun e w'=>e= .returned (.int .i64 0)∧w=w' from fun w=>by have h:=jL f w;rw[F6 hf]at h;exact h)
 have HIT:=hid (show∀w,Calls Tryz.prog 93 #[.int .u8 (f.rX.toNat:Int)] w fun e w'=>e= .returned (.bool true)∧w=w' from fun w=>by have h:=jV f w;rw[hf]at h;exact h)
 have HSN:=hid (fun s=>yP f hf s m vn vq vd (bG ho.n) (bG ho.q) (bG ho.d))
 clear hf
 have HF0:=XV hbp h ho
 have HF:=hid HF0.1
 have HOL:=hid HF0.2
 have h1:=bG ho.n
 have h2:=bG ho.q
 have h3:=bG ho.d
 clear hbp h ho HF0
 go_enter Tryz.func55,Tryz.ntmps55
 go_upto_region 2 with(fail)
 change Code.wp _ _ _ _ ((w.alloc (.cells (aF m vn vq vd).toArray 41)).alloc (.cells (mgN (head 0 0)).toArray 41))
 generalize((w.alloc (.cells (aF m vn vq vd).toArray 41)).alloc (.cells (mgN (head 0 0)).toArray 41))=w1 at HF HOL⊢
 generalize w.heap.size+1=q at HF⊢
 generalize w.heap.size=z at HF⊢
 go_wp2_with fail
 refine(HWC.out _).mono ?_
 rintro e w2 ⟨rfl,rfl⟩
 go_wp2_with fail
 refine(HIT.out _).mono ?_
 rintro e w2 ⟨rfl,rfl⟩
 go_wp2_with fail
 refine(XY HF.out.ln).mono ?_
 rintro e w2 ⟨t,s1,rfl, -,hs,hg,ho⟩
 have HG:=hid hg
 have lN:=hid (HOL.out.rw_ HF.out.ln ho)
 have HF2:=hid (HF.out.step hs ho)
 clear hs ho HF HOL hg
 go_wp2_with(refine wlw HF2.out.mb 0 (aF m vn vq vd) rfl rfl _ _ rfl rfl _ Tryz.underlying41 rfl aB ?_)
 refine(HSN.out t _).mono ?_
 rintro e w3 ⟨rfl,hb⟩
 have HF3:=hid (HF2.out.new hb)
 have tJ:=hid (lN.out.below hb)
 clear hb HF2 lN
 go_wp2_with(refine dA HF3.out.rb 0 (aF (m.bV t f) vn vq vd) _ (bW ..) (Nat.le_refl 36) (bT _ h1 h2 h3) rfl _ _ _ rfl rfl rfl aB ?_;intro wz hs ho;have HZF:=hid hs;have HOF:=hid (ho (fun i=>i=q) rfl _ (Off.refl _ _));clear hs ho)
 obtain⟨e1,e2,e3⟩:=JF m t f
 obtain⟨r1,r2,r3⟩:=HF3.out.end_ (tJ.out.as e1 e2 e3) HOF.out
 exact bodyPost_ret (bf (l:=aF (m.bV t f) vn vq vd) rfl Tryz.underlying41 rfl aB rfl HZF.out) rfl ⟨_,_,_,_,_,rfl,r1,⟨fun _=>e1,fun _=>e2,fun _=>e3⟩,r2,r3,by rw[HPF.out];exact HG.out.map (fun t=>m.bV t f)⟩
theorem ZL{w:World}{p base:Nat}{vn vq vd:Value}{s:ByteArray}{st:Except Nat (List UInt8)}{m:Mg}(hbp:base≤p)(h:RwS w p s st)(ho:OL w base m vn vq vd):
  Calls Tryz.prog 55 #[.pointer (some ⟨p,0,none⟩),iM m vn vq vd,.int .u8 113] w (Yr p base s m .qid st w):=by
 have HPF:=hid (show(st >>= fun l=>pF m l .qid)=(st >>= gW).map (fun p=>({m with qid:=p.1},p.2))from by rw[←Yc];rfl)
 have HWC:=hid (fun w=>jL .qid w)
 have HIT:=hid (fun w=>jV .qid w)
 have HF0:=XV hbp h ho
 have HF:=hid HF0.1
 have HOL:=hid HF0.2
 have h1:=bG ho.n
 have h2:=bG ho.q
 have h3:=bG ho.d
 clear hbp h ho HF0
 go_enter Tryz.func55,Tryz.ntmps55
 go_upto_region 2 with(fail)
 change Code.wp _ _ _ _ ((w.alloc (.cells (aF m vn vq vd).toArray 41)).alloc (.cells (mgN (head 0 0)).toArray 41))
 generalize((w.alloc (.cells (aF m vn vq vd).toArray 41)).alloc (.cells (mgN (head 0 0)).toArray 41))=w1 at HF HOL⊢
 generalize w.heap.size+1=q at HF⊢
 generalize w.heap.size=z at HF⊢
 go_wp2_with fail
 refine(HWC.out _).mono ?_
 rintro e w2 ⟨rfl,rfl⟩
 go_wp2_with fail
 refine(HIT.out _).mono ?_
 rintro e w2 ⟨rfl,rfl⟩
 go_wp2_with fail
 refine(Ym HF.out.ln).mono ?_
 rintro e w3 ⟨⟨v1,v2,v3⟩,s1,rfl, -,hs,hg,ho⟩
 have HG:=hid hg
 have HO3:=hid (HOL.out.rw_ HF.out.ln ho)
 have HF3:=hid (HF.out.step hs ho)
 clear hs ho HF HOL hg
 unfold qdV
 have k0:w3.cell? ⟨z,13,none⟩=some (.int .u8 (m.qid.kind:Int)):=Blk.cell HF3.out.mb 13
 have k1:w3.cell? ⟨z,14,none⟩=some (.int .u32 (m.qid.vers:Int)):=Blk.cell HF3.out.mb 14
 have k2:w3.cell? ⟨z,15,none⟩=some (.int .u64 (m.qid.path:Int)):=Blk.cell HF3.out.mb 15
 have z0:w3.frozen? ⟨z,13,none⟩=false:=Blk.frozen HF3.out.mb 13
 have z1:w3.frozen? ⟨z,14,none⟩=false:=Blk.frozen HF3.out.mb 14
 have z2:w3.frozen? ⟨z,15,none⟩=false:=Blk.frozen HF3.out.mb 15
 have hmt:aK (((w3.setCell ⟨z,13,none⟩ (.int .u8 (v1:Int))).setCell ⟨z,14,none⟩ (.int .u32 (v2:Int))).setCell ⟨z,15,none⟩ (.int .u64 (v3:Int))) z {m with qid:=⟨v1,v2,v3⟩} vn vq vd:=by
  have h:=((Blk.aW HF3.out.mb 13 (.int .u8 (v1:Int))).aW 14 (.int .u32 (v2:Int))).aW 15 (.int .u64 (v3:Int))
  rw[Bh m ⟨v1,v2,v3⟩]at h
  exact h
 have hoz:Off (fun i=>i=z) w3 (((w3.setCell ⟨z,13,none⟩ (.int .u8 (v1:Int))).setCell ⟨z,14,none⟩ (.int .u32 (v2:Int))).setCell ⟨z,15,none⟩ (.int .u64 (v3:Int))):=((bM w3 z 13 _).trans (bM _ z 14 _)).trans (bM _ z 15 _)
 have HF4:=hid (HF3.out.turn hmt hoz)
 have HO4:=hid (HO3.out.qp HF3.out.mb hoz)
 clear hmt hoz HF3 HO3
 go_upto_region 14 with(fail)
 generalize((w3.setCell ⟨z,13,none⟩ (.int .u8 (v1:Int))).setCell ⟨z,14,none⟩ (.int .u32 (v2:Int))).setCell ⟨z,15,none⟩ (.int .u64 (v3:Int))=w4 at HF4 HO4⊢
 clear k0 k1 k2 z0 z1 z2
 go_wp2_with(first|(refine wlw HF4.out.mb 0 (aF {m with qid:=⟨v1,v2,v3⟩} vn vq vd) rfl rfl _ _ rfl rfl _ Tryz.underlying41 rfl aB ?_)|(refine dA HF4.out.rb 0 (aF {m with qid:=⟨v1,v2,v3⟩} vn vq vd) _ (bW ..) (Nat.le_refl 36) (bT _ h1 h2 h3) rfl _ _ _ rfl rfl rfl aB ?_;intro wz hs ho;have HZF:=hid hs;have HOF:=hid (ho (fun i=>i=q) rfl _ (Off.refl _ _));clear hs ho))
 obtain⟨r1,r2,r3⟩:=HF4.out.end_ (HO4.out.as (m':= {m with qid:=⟨v1,v2,v3⟩}) rfl rfl rfl) HOF.out
 exact bodyPost_ret (bf (l:=aF {m with qid:=⟨v1,v2,v3⟩} vn vq vd) rfl Tryz.underlying41 rfl aB rfl HZF.out) rfl ⟨_,_,_,_,_,rfl,r1,⟨fun _=>rfl,fun _=>rfl,fun _=>rfl⟩,r2,r3,by rw[HPF.out];exact HG.out.map (fun x=> {m with qid:=x})⟩
theorem Zp{w:World}{p base:Nat}{vn vq vd:Value}{s:ByteArray}{st:Except Nat (List UInt8)}{m:Mg}(hbp:base≤p)(h:RwS w p s st)(ho:OL w base m vn vq vd):
  Calls Tryz.prog 55 #[.pointer (some ⟨p,0,none⟩),iM m vn vq vd,.int .u8 83] w (Yr p base s m .stat st w):=by
 have HPF:=hid (show(st >>= fun l=>pF m l .stat)=(st >>= g_).map (fun p=>({m with stat:=p.1},p.2))from by rw[←Yc];rfl)
 have HWC:=hid (fun w=>jL .stat w)
 have HIT:=hid (fun w=>jV .stat w)
 have HF0:=XV hbp h ho
 have HF:=hid HF0.1
 have HOL:=hid HF0.2
 have h1:=bG ho.n
 have h2:=bG ho.q
 have h3:=bG ho.d
 clear hbp h ho HF0
 go_enter Tryz.func55,Tryz.ntmps55
 go_upto_region 2 with(fail)
 change Code.wp _ _ _ _ ((w.alloc (.cells (aF m vn vq vd).toArray 41)).alloc (.cells (mgN (head 0 0)).toArray 41))
 generalize((w.alloc (.cells (aF m vn vq vd).toArray 41)).alloc (.cells (mgN (head 0 0)).toArray 41))=w1 at HF HOL⊢
 generalize w.heap.size+1=q at HF⊢
 generalize w.heap.size=z at HF⊢
 go_wp2_with fail
 refine(HWC.out _).mono ?_
 rintro e w2 ⟨rfl,rfl⟩
 go_wp2_with fail
 refine(HIT.out _).mono ?_
 rintro e w2 ⟨rfl,rfl⟩
 go_wp2_with fail
 refine(Y0 HF.out.ln).mono ?_
 rintro e w3 ⟨x,s1,rfl, -,hs,hg,ho⟩
 have HG:=hid hg
 have HO3:=hid (HOL.out.rw_ HF.out.ln ho)
 have HF3:=hid (HF.out.step hs ho)
 clear hs ho HF HOL hg
 go_wp2_with(first|(refine wlw HF4.out.mb 0 (aF {m with stat:=x} vn vq vd) rfl rfl _ _ rfl rfl _ Tryz.underlying41 rfl aB ?_)|(refine dA HF4.out.rb 0 (aF {m with stat:=x} vn vq vd) _ (bW ..) (Nat.le_refl 36) (bT _ h1 h2 h3) rfl _ _ _ rfl rfl rfl aB ?_;intro wz hs ho;have HZF:=hid hs;have HOF:=hid (ho (fun i=>i=q) rfl _ (Off.refl _ _));clear hs ho)|(refine dA HF3.out.mb 23 (stL x) _ (qc ..) (Nat.le_refl 36) (uY _) rfl _ _ _ rfl rfl rfl bP ?_;intro w4 hs hoo;have HO4:=hid (OL.qp (m:= {m with stat:=x}) ⟨HO3.out.n,HO3.out.q,HO3.out.d⟩ HF3.out.mb (hoo (fun i=>i=z) rfl _ (Off.refl _ _)));have HF4:=hid (HF3.out.turn (m':= {m with stat:=x}) hs (hoo (fun i=>i=z) rfl _ (Off.refl _ _)));clear hs hoo))
 obtain⟨r1,r2,r3⟩:=HF4.out.end_ (HO4.out) HOF.out
 exact bodyPost_ret (bf (l:=aF {m with stat:=x} vn vq vd) rfl Tryz.underlying41 rfl aB rfl HZF.out) rfl ⟨_,_,_,_,_,rfl,r1,⟨fun _=>rfl,fun _=>rfl,fun _=>rfl⟩,r2,r3,by rw[HPF.out];exact HG.out.map (fun x=> {m with stat:=x})⟩
theorem Zq{w:World}{p base:Nat}{vn vq vd:Value}{s:ByteArray}{st:Except Nat (List UInt8)}{m:Mg}(hbp:base≤p)(h:RwS w p s st)(ho:OL w base m vn vq vd):
  Calls Tryz.prog 55 #[.pointer (some ⟨p,0,none⟩),iM m vn vq vd,.int .u8 68] w (Yr p base s m .data st w):=by
 have HPF:=hid (show(st >>= fun l=>pF m l .data)=(st >>= nG).map (fun p=>({m with data:=p.1},p.2))from by rw[←Yc];rfl)
 have HWC:=hid (fun w=>jL .data w)
 have HIT:=hid (fun w=>jV .data w)
 have HF0:=XV hbp h ho
 have HF:=hid HF0.1
 have HOL:=hid HF0.2
 have h1:=bG ho.n
 have h2:=bG ho.q
 have h3:=bG ho.d
 clear hbp h ho HF0
 go_enter Tryz.func55,Tryz.ntmps55
 go_upto_region 2 with(fail)
 change Code.wp _ _ _ _ ((w.alloc (.cells (aF m vn vq vd).toArray 41)).alloc (.cells (mgN (head 0 0)).toArray 41))
 generalize((w.alloc (.cells (aF m vn vq vd).toArray 41)).alloc (.cells (mgN (head 0 0)).toArray 41))=w1 at HF HOL⊢
 generalize w.heap.size+1=q at HF⊢
 generalize w.heap.size=z at HF⊢
 go_wp2_with fail
 refine(HWC.out _).mono ?_
 rintro e w2 ⟨rfl,rfl⟩
 go_wp2_with fail
 refine(HIT.out _).mono ?_
 rintro e w2 ⟨rfl,rfl⟩
 go_wp2_with fail
 refine(Zo HF.out.ln).mono ?_
 rintro e w3 ⟨x,v,s1,rfl, -,hown,hs,hg,ho⟩
 have HG:=hid hg
 obtain⟨A4,c4,rfl, -⟩:=aJ hown
 have HV:=hid (iw hown HF.out.size)
 have h4:=bG hown
 have HO3:=hid (HOL.out.rw_ HF.out.ln ho)
 have HF3:=hid (HF.out.step hs ho)
 clear hs ho HF HOL hg hown
 have kz:w3.cell? ⟨z,22,none⟩=some vd:=Blk.cell HF3.out.mb 22
 have fz:w3.frozen? ⟨z,22,none⟩=false:=Blk.frozen HF3.out.mb 22
 have HF4:=hid (HF3.out.turn (aK.aW HF3.out.mb _ _ (xB m x vn vq vd (.slice A4 x.length c4))) (bM ..))
 have HO4:=hid (OL.qp (m:= {m with data:=x}) ⟨HO3.out.n,HO3.out.q,HV.out⟩ HF3.out.mb (bM w3 z 22 (.slice A4 x.length c4)))
 go_upto_region 14 with(fail)
 clear kz fz HF3 HO3 HV
 generalize w3.setCell ⟨z,22,none⟩ (.slice A4 x.length c4)=w4 at HF4 HO4⊢
 go_wp2_with(first|(refine wlw HF4.out.mb 0 (aF {m with data:=x} vn vq (.slice A4 x.length c4)) rfl rfl _ _ rfl rfl _ Tryz.underlying41 rfl aB ?_)|(refine dA HF4.out.rb 0 (aF {m with data:=x} vn vq (.slice A4 x.length c4)) _ (bW ..) (Nat.le_refl 36) (bT _ h1 h2 h4) rfl _ _ _ rfl rfl rfl aB ?_;intro wz hs ho;have HZF:=hid hs;have HOF:=hid (ho (fun i=>i=q) rfl _ (Off.refl _ _));clear hs ho))
 obtain⟨r1,r2,r3⟩:=HF4.out.end_ (HO4.out) HOF.out
 exact bodyPost_ret (bf (l:=aF {m with data:=x} vn vq (.slice A4 x.length c4)) rfl Tryz.underlying41 rfl aB rfl HZF.out) rfl ⟨_,_,_,_,_,rfl,r1,⟨fun _=>rfl,fun _=>rfl,fun h=>absurd rfl h⟩,r2,r3,by rw[HPF.out];exact HG.out.map (fun x=> {m with data:=x})⟩
end Go.Proofs.YtkblmloobkiloaaGreatDoor
