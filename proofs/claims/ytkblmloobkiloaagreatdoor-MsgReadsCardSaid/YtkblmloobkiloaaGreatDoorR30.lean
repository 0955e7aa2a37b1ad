/-
  MSC MSD MSE: what the laws of package msg need of them.
-/
import Derived.Test.YtkblmloobkiloaaGreatDoorR00
import Derived.Test.YtkblmloobkiloaaGreatDoorR29
set_option maxRecDepth 100000
set_option maxHeartbeats 6400000
namespace Go.Proofs.YtkblmloobkiloaaGreatDoor
open Go.Lib (hid)
open Go.RowKit
def rfF(m:Mg)(l:List UInt8):Fld→Option (Mg×List UInt8)
 | .stat=>match bU 2 l with
  |none=>none
  |some (n,r)=>match gJ n r with
   |none=>none
   |some (b,r)=>(fV b).map fun s=>({m with stat:=s},r)
 |f=>nD m l f
def Nc{α:Type}(o:Option (α×List UInt8))(s:α)(s2:Option (List UInt8)):Prop:=match o with|some (t,r)=>s=t∧s2=some r|none=>s2=none
def Ur(m m':Mg)(f:Fld):Prop:=(f≠ .names→m'.names=m.names)∧(f≠ .aV→m'.aV=m.aV)∧(f≠ .data→m'.data=m.data)
def Nh(base:Nat)(w w':World):Prop:=Below base w w'∧∀g cs,Blk w g 41 cs→Blk w' g 41 cs
def uw(p base:Nat)(hv:Value)(x:List UInt8)(m:Mg)(f:Fld)(st:Option (List UInt8))(w:World)(e:Ending)(w':World):Prop:=
 ∃m' vn vq vd,e= .returned (iM m' vn vq vd)∧OL w' base m' vn vq vd∧Ur m m' f∧Nh base w w'∧match st.bind (fun l=>rfF m l f)with
  |some (t,r)=>m'=t∧BdS w' p hv x (some r)
  |none=>BdS w' p hv x none
structure FS(w0 w:World)(p z q base:Nat)(hv:Value)(x:List UInt8)(st:Option (List UInt8))(m:Mg)(vn vq vd:Value):Prop where
 s:BdS w p hv x st
 x:Bys w base hv x
 m:aK w z m vn vq vd
 r:aK w q (head 0 0) (.slice none 0 0) (.slice none 0 0) (.slice none 0 0)
 bp:base≤p
 bb:base≤w0.heap.size
 bz:w0.heap.size≤z
 zq:z+1=q
 b:Below base w0 w
 k:∀g cs,Blk w0 g 41 cs→Blk w g 41 cs
theorem BdS.lt{w:World}{p:Nat}{hv:Value}{x:List UInt8}{st:Option (List UInt8)}(h:BdS w p hv x st):p<w.heap.size:=by
 obtain⟨a,b,hb, -⟩:=h
 exact Blk.lt hb
theorem BdS.noT{w:World}{p:Nat}{hv:Value}{x:List UInt8}{st:Option (List UInt8)}{e:TypeId}(h:BdS w p hv x st)(he:97≠e):∀g cur fr,g=p→w.heap[g]? ≠some (Obj.cells cur e fr):=by
 obtain⟨a,b,hb, -⟩:=h
 exact hb.noT he
theorem Ro{w:World}{i:Nat}(h:w.heap.size≤i){ob:Obj}:w.heap[i]? ≠some ob:=by
 rw[Array.getElem?_eq_none h]
 intro h
 cases h
theorem OL.bd{w w':World}{p base:Nat}{m:Mg}{vn vq vd hv:Value}{x:List UInt8}{st:Option (List UInt8)}(h:OL w base m vn vq vd)(hs:BdS w p hv x st)(ho:Off (fun i=>i=p∨w.heap.size≤i) w w'):OL w' base m vn vq vd:=
 h.off ho fun i cur fr e hi he=>by
  rcases hi with hi|hi
  ·rcases he with rfl|rfl|rfl<;>exact hs.noT (by decide) i cur fr hi
  ·exact Ro hi
theorem fC{w:World}{b b' n n' s s':Nat}{e e':TypeId}{u v:Value}{xs ys:List Value}(h:w.ownsRow b e s u n xs)(h':w.ownsRow b' e' s' v n' ys)(he:e≠e'):u.ownBlock=none∨u.ownBlock≠v.ownBlock:=by
 cases hu:u.ownBlock with
 |none=>exact .inl rfl
 |some g=>
  refine .inr fun hv=> ?_
  rcases h'.2 with⟨rfl, -⟩|⟨g',cap,cur,rfl, -,hg, -⟩
  ·cases hv
  ·injection hv with hv
   subst hv
   exact bZ h he g cur (0,0) hu hg
section
variable {w w' w0:World} {p z q base:Nat} {hv vn vq vd:Value} {x:List UInt8} {st st':Option (List UInt8)} {m:Mg}
theorem FS.step(h:FS w0 w p z q base hv x st m vn vq vd)(hs:BdS w' p hv x st')(ho:Off (fun i=>i=p∨w.heap.size≤i) w w'):FS w0 w' p z q base hv x st' m vn vq vd:=by
 have hz:=Blk.lt h.m
 have hbz:=h.bz
 have hbb:=h.bb
 have hbp:=h.bp
 have hS:∀i,(i=p∨w.heap.size≤i)→base≤i:=fun i hi=>by omega
 have hK:∀g cs,Blk w g 41 cs→Blk w' g 41 cs:=fun g cs hg=>ho.blk hg (fun hi=>hi.elim (fun e=>h.s.noT (by decide) _ _ _ e hg) (fun e=>Nat.lt_irrefl _ (Nat.lt_of_lt_of_le (Blk.lt hg) e)))
 exact⟨hs,Off.bys h.x ho (by omega) hS,hK _ _ h.m,hK _ _ h.r,hbp,hbb,hbz,h.zq,h.b.trans (ho.below hS (by omega)),fun g cs hg=>hK g cs (h.k g cs hg)⟩
theorem FS.new(h:FS w0 w p z q base hv x st m vn vq vd)(hb:Below w.heap.size w w'):FS w0 w' p z q base hv x st m vn vq vd:=h.step (h.s.below hb) (Off.of_below hb)
theorem FS.size(h:FS w0 w p z q base hv x st m vn vq vd):base≤w.heap.size:=by
 have hz:=Blk.lt h.m
 have hbz:=h.bz
 have hbb:=h.bb
 omega
theorem FS.turn{m':Mg}{xn xq xd:Value}(h:FS w0 w p z q base hv x st m vn vq vd)(hm:aK w' z m' xn xq xd)(ho:Off (fun i=>i=z) w w'):FS w0 w' p z q base hv x st m' xn xq xd:=by
 have hz:=Blk.lt h.m
 have hbz:=h.bz
 have hbb:=h.bb
 have hzq:=h.zq
 have hS:∀i,i=z→base≤i:=fun i hi=>by omega
 exact⟨h.s.off ho (fun e=>h.s.noT (by decide) z _ _ e.symm h.m),Off.bys h.x ho (by omega) hS,hm,ho.blk h.r (fun e=>by have e:q=z:=e;omega),h.bp,hbb,hbz,hzq,h.b.trans (ho.below hS (by omega)),fun g cs hg=>ho.blk (h.k g cs hg) (fun e=>by have e:g=z:=e;have:=Blk.lt hg;omega)⟩
theorem FS.app{e:TypeId}{v:Value}{n s:Nat}{xs:List Value}(h:FS w0 w p z q base hv x st m vn vq vd)(hr:w.ownsRow base e s v n xs)(h1:e≠97)(h2:e≠41)(hg:w.grownBy w' v.ownBlock):FS w0 w' p z q base hv x st m vn vq vd:=by
 have hS:∀i,v.ownBlock=some i→base≤i:=fun i hi=>dH hr i hi
 have ho:=(Off.refl (fun i=>v.ownBlock=some i) w).grown hg (fun g hg=>hg)
 obtain⟨a,b,hb, -⟩:=id h.s
 have hK:∀g cs,Blk w g 41 cs→Blk w' g 41 cs:=fun g cs hg=>ho.blk hg (fun e=>bZ hr h2 g _ _ e hg)
 exact⟨h.s.off ho (fun e=>bZ hr h1 p _ _ e hb),Off.bys h.x ho h.size hS,hK _ _ h.m,hK _ _ h.r,h.bp,h.bb,h.bz,h.zq,h.b.trans (ho.below hS h.size),fun g cs hg=>hK g cs (h.k g cs hg)⟩
theorem FS.end_{wz:World}{m':Mg}{xn xq xd:Value}(h:FS w0 w p z q base hv x st m vn vq vd)(hl:OL w base m' xn xq xd)(ho:Off (fun i=>i=q) w wz):OL wz base m' xn xq xd∧Nh base w0 wz∧BdS wz p hv x st:=by
 have hq:=Blk.lt h.r
 have hzq:=h.zq
 have hbz:=h.bz
 have hbb:=h.bb
 exact⟨hl.qp h.r ho,⟨h.b.trans (ho.below (fun i hi=>by have hi:i=q:=hi;omega) (by omega)),fun g cs hg=>ho.blk (h.k g cs hg) (fun e=>by have e:g=q:=e;have:=Blk.lt hg;omega)⟩,h.s.off ho (fun e=>h.s.noT (by decide) q _ _ e.symm h.r)⟩
end
theorem jO{w:World}{p base:Nat}{hv vn vq vd:Value}{x:List UInt8}{st:Option (List UInt8)}{m:Mg}(hx:Bys w base hv x)(hbp:base≤p)(h:BdS w p hv x st)(ho:OL w base m vn vq vd):
  FS w ((w.alloc (.cells (aF m vn vq vd).toArray 41)).alloc (.cells (mgN (head 0 0)).toArray 41)) p w.heap.size (w.heap.size+1) base hv x st m vn vq vd∧OL ((w.alloc (.cells (aF m vn vq vd).toArray 41)).alloc (.cells (mgN (head 0 0)).toArray 41)) base m vn vq vd:=by
 obtain⟨hu,hm,hz⟩:=uZ w m vn vq vd
 have hp:=h.lt
 exact⟨⟨h.below hu,hx.below (hu.mono (by omega)),hm,hz,hbp,by omega,Nat.le_refl _,rfl,hu.mono (by omega),fun g cs hg=>Blk.below hg hu (Blk.lt hg)⟩,ho.below hu⟩
theorem OL.as{w:World}{base:Nat}{m m':Mg}{vn vq vd:Value}(h:OL w base m vn vq vd)(h1:m'.names=m.names)(h2:m'.aV=m.aV)(h3:m'.data=m.data):OL w base m' vn vq vd:=⟨by rw[h1];exact h.n,by rw[h2];exact h.q,by rw[h3];exact h.d⟩
theorem JE(m:Mg)(n:Nat)(f:Fld):(m.aG n f).names=m.names∧(m.aG n f).aV=m.aV∧(m.aG n f).data=m.data:=by cases f<;>exact⟨rfl,rfl,rfl⟩
theorem JF(m:Mg)(s:ByteArray)(f:Fld):(m.bV s f).names=m.names∧(m.bV s f).aV=m.aV∧(m.bV s f).data=m.data:=by cases f<;>exact⟨rfl,rfl,rfl⟩
theorem O1{f:Fld}(hf:0<f.width)(m:Mg)(st:Option (List UInt8)):st.bind (fun l=>rfF m l f)=(dn st f.width).2.map (fun r=>(m.aG (aH (dn st f.width).1) f,r)):=by
 have h:=oI st f.width
 cases st with
 |none=>rfl
 |some l=>
  replace h:bU f.width l=_:=h
  show rfF m l f=_
  have e:rfF m l f=(bU f.width l).map fun p=>(m.aG p.1 f,p.2):=by
   cases f<;>first|rfl|exact absurd hf (by decide)
  rw[e,h,Option.map_map]
  rfl
theorem O4{f:Fld}(hf:f.isText=true)(m:Mg)(st:Option (List UInt8)):st.bind (fun l=>rfF m l f)=(st.bind aN).map (fun r=>(m.bV r.1 f,r.2)):=by
 cases st with
 |none=>rfl
 |some l=>
  show rfF m l f=(aN l).map _
  cases f<;>first|rfl|exact absurd hf (by decide)
theorem width_le(f:Fld):f.width≤8:=by cases f<;>decide
theorem F6{f:Fld}(hf:f.isText=true):f.width=0:=by cases f<;>first|rfl|exact absurd hf (by decide)
theorem F7{w:World}{p base:Nat}{hv vn vq vd:Value}{x:List UInt8}{st:Option (List UInt8)}{m:Mg}(hx:Bys w base hv x)(hbp:base≤p)(h:BdS w p hv x st)(ho:OL w base m vn vq vd)(f:Fld)(hf:0<f.width):
  Calls Tryz.prog 49 #[.pointer (some ⟨p,0,none⟩),iM m vn vq vd,.int .u8 (f.rX.toNat:Int)] w (uw p base hv x m f st w):=by
 have HFL:=hid (JE m (aH (dn st f.width).1) f)
 have HR:=hid (O1 hf m st)
 have HLT:=hid (show aH (dn st f.width).1<256^f.width from Nat.lt_of_lt_of_le (dD _) (Nat.pow_le_pow_right (by decide) (jM st _)))
 have HWC:=hid (jL f)
 have HSN:=hid (uT f hf _ HLT.out m vn vq vd (bG ho.n) (bG ho.q) (bG ho.d))
 have hf1:(0:Int)<(f.width:Int):=by omega
 clear hf
 have HF0:=jO hx hbp h ho
 have HF:=hid HF0.1
 have HOL:=hid HF0.2
 have h1:=bG ho.n
 have h2:=bG ho.q
 have h3:=bG ho.d
 clear hx hbp h ho HF0
 go_enter Tryz.func49,Tryz.ntmps49
 go_upto_region 1 with(fail)
 change Code.wp _ _ _ _ ((w.alloc (.cells (aF m vn vq vd).toArray 41)).alloc (.cells (mgN (head 0 0)).toArray 41))
 generalize((w.alloc (.cells (aF m vn vq vd).toArray 41)).alloc (.cells (mgN (head 0 0)).toArray 41))=w1 at HF HOL⊢
 generalize w.heap.size+1=q at HF⊢
 generalize w.heap.size=z at HF⊢
 go_wp2_with fail
 refine(HWC.out _).mono ?_
 rintro e w2 ⟨rfl,rfl⟩
 go_wp2_with fail
 refine(HWC.out _).mono ?_
 rintro e w2 ⟨rfl,rfl⟩
 go_wp2_with fail
 refine(iy f.width (width_le f) HF.out.x HF.out.bp HF.out.s).mono ?_
 rintro e w2 ⟨rfl,hs,ho⟩
 have lN:=hid (HOL.out.bd HF.out.s (ho.mono fun _ _ hi=> .inl hi))
 have HF2:=hid (HF.out.step hs (ho.mono fun _ _ hi=> .inl hi))
 clear hs ho HF HOL
 go_wp2_with(refine wlw HF2.out.m 0 (aF m vn vq vd) rfl rfl _ _ rfl rfl _ Tryz.underlying41 rfl aB ?_)
 refine(HSN.out _).mono ?_
 rintro e w3 ⟨rfl,hb⟩
 have HF3:=hid (HF2.out.new hb)
 have tJ:=hid (lN.out.below hb)
 clear hb HF2 lN
 go_wp2_with(refine dA HF3.out.r 0 (aF (m.aG (aH (dn st f.width).1) f) vn vq vd) _ (bW ..) (Nat.le_refl 36) (bT _ h1 h2 h3) rfl _ _ _ rfl rfl rfl aB ?_;intro wz hs ho;have HZF:=hid hs;have HOF:=hid (ho (fun i=>i=q) rfl _ (Off.refl _ _));clear hs ho)
 obtain⟨e1,e2,e3⟩:=HFL.out
 obtain⟨r1,r2,r3⟩:=HF3.out.end_ (tJ.out.as e1 e2 e3) HOF.out
 refine bodyPost_ret (bf (l:=aF (m.aG (aH (dn st f.width).1) f) vn vq vd) rfl Tryz.underlying41 rfl aB rfl HZF.out) rfl ⟨_,_,_,_,rfl,r1,⟨fun _=>e1,fun _=>e2,fun _=>e3⟩,r2, ?_⟩
 rw[HR.out]
 cases hr:(dn st f.width).2 with
 |none=>rw[hr]at r3;exact r3
 |some r=>rw[hr]at r3;exact⟨rfl,r3⟩
theorem F8{w:World}{p base:Nat}{hv vn vq vd:Value}{x:List UInt8}{st:Option (List UInt8)}{m:Mg}(hx:Bys w base hv x)(hbp:base≤p)(h:BdS w p hv x st)(ho:OL w base m vn vq vd)(f:Fld)(hf:f.isText=true):
  Calls Tryz.prog 49 #[.pointer (some ⟨p,0,none⟩),iM m vn vq vd,.int .u8 (f.rX.toNat:Int)] w (uw p base hv x m f st w):=by
 have HFL:=hid (fun s=>JF m s f)
 have HR:=hid (O4 hf m st)
 have HWC:=hid (show∀w,Calls Tryz.prog 91 #[.int .u8 (f.rX.toNat:Int)] w fun e w'=>e= .returned (.int .i64 0)∧w=w' from fun w=>by have h:=jL f w;rw[F6 hf]at h;exact h)
 have HIT:=hid (show∀w,Calls Tryz.prog 93 #[.int .u8 (f.rX.toNat:Int)] w fun e w'=>e= .returned (.bool true)∧w=w' from fun w=>by have h:=jV f w;rw[hf]at h;exact h)
 have HSN:=hid (fun s=>yP f hf s m vn vq vd (bG ho.n) (bG ho.q) (bG ho.d))
 clear hf
 have HF0:=jO hx hbp h ho
 have HF:=hid HF0.1
 have HOL:=hid HF0.2
 have h1:=bG ho.n
 have h2:=bG ho.q
 have h3:=bG ho.d
 clear hx hbp h ho HF0
 go_enter Tryz.func49,Tryz.ntmps49
 go_upto_region 1 with(fail)
 change Code.wp _ _ _ _ ((w.alloc (.cells (aF m vn vq vd).toArray 41)).alloc (.cells (mgN (head 0 0)).toArray 41))
 generalize((w.alloc (.cells (aF m vn vq vd).toArray 41)).alloc (.cells (mgN (head 0 0)).toArray 41))=w1 at HF HOL⊢
 generalize w.heap.size+1=q at HF⊢
 generalize w.heap.size=z at HF⊢
 go_wp2_with fail
 refine(HWC.out _).mono ?_
 rintro e w2 ⟨rfl,rfl⟩
 go_wp2_with fail
 refine(HIT.out _).mono ?_
 rintro e w2 ⟨rfl,rfl⟩
 go_wp2_with fail
 refine(xW HF.out.x HF.out.bp HF.out.s).mono ?_
 rintro e w2 ⟨s,rfl, -,ho,hm⟩
 obtain⟨st',hs,HST⟩:∃st',BdS w2 p hv x st'∧Hid (Nc (st.bind aN) s st'):=by
  cases hg:st.bind aN with
  |none=>rw[hg]at hm;exact⟨none,hm,hid rfl⟩
  |some y=>rw[hg]at hm;exact⟨some y.2,hm.2,hid ⟨hm.1,rfl⟩⟩
 have lN:=hid (HOL.out.bd HF.out.s ho)
 have HF2:=hid (HF.out.step hs ho)
 clear hs ho HF hm HOL
 go_wp2_with(refine wlw HF2.out.m 0 (aF m vn vq vd) rfl rfl _ _ rfl rfl _ Tryz.underlying41 rfl aB ?_)
 refine(HSN.out s _).mono ?_
 rintro e w3 ⟨rfl,hb⟩
 have HF3:=hid (HF2.out.new hb)
 have tJ:=hid (lN.out.below hb)
 clear hb HF2 lN
 go_wp2_with(refine dA HF3.out.r 0 (aF (m.bV s f) vn vq vd) _ (bW ..) (Nat.le_refl 36) (bT _ h1 h2 h3) rfl _ _ _ rfl rfl rfl aB ?_;intro wz hs ho;have HZF:=hid hs;have HOF:=hid (ho (fun i=>i=q) rfl _ (Off.refl _ _));clear hs ho)
 obtain⟨e1,e2,e3⟩:=HFL.out s
 obtain⟨r1,r2,r3⟩:=HF3.out.end_ (tJ.out.as e1 e2 e3) HOF.out
 refine bodyPost_ret (bf (l:=aF (m.bV s f) vn vq vd) rfl Tryz.underlying41 rfl aB rfl HZF.out) rfl ⟨_,_,_,_,rfl,r1,⟨fun _=>e1,fun _=>e2,fun _=>e3⟩,r2, ?_⟩
 rw[HR.out]
 have hst:=HST.out
 cases hr:st.bind aN with
 |none=>rw[hr]at hst;rw[show st'=none from hst]at r3;exact r3
 |some r=>rw[hr]at hst;obtain⟨a1,a2⟩:=hst;rw[a2]at r3;exact⟨by rw[a1],r3⟩
end Go.Proofs.YtkblmloobkiloaaGreatDoor
namespace Go.Proofs.YtkblmloobkiloaaGreatDoor
open Go.Lib (hid)
open Go.RowKit
theorem D6{p:Nat}{hv:Value}{x:List UInt8}{st:Option (List UInt8)}{w w':World}{e:Ending}(h:Uj p hv x st w e w'):
  ∃(n:Nat) (s1:Option (List UInt8)),e= .returned (.int .i64 (n:Int))∧n≤16∧Off (fun i=>i=p) w w'∧BdS w' p hv x s1∧∀ {α:Type} (one:List UInt8→Option (α×List UInt8)),st.bind (fF one)=s1.bind (getMany one n):=by
 obtain⟨n,he,hn,ho,hm⟩:=h
 cases st with
 |none=>exact⟨n,none,he,hn,ho,hm,fun _=>rfl⟩
 |some l=>
  have e1:(some l).bind (bU 2)=bU 2 l:=rfl
  rw[e1]at hm
  cases hg:bU 2 l with
  |none=>
   rw[hg]at hm
   exact⟨n,none,he,hn,ho,hm,fun one=>by show fF one l=none;unfold fF;rw[hg]⟩
  |some y=>
   obtain⟨k,r⟩:=y
   rw[hg]at hm
   by_cases hk:k≤16
   ·replace hm:=(if_pos hk).mp hm
    exact⟨n,some r,he,hn,ho,hm.2,fun one=>by show fF one l=getMany one n r;unfold fF;rw[hg];dsimp only;rw[if_neg (by omega),hm.1]⟩
   ·replace hm:=(if_neg hk).mp hm
    exact⟨n,none,he,hn,ho,hm,fun one=>by show fF one l=none;unfold fF;rw[hg];dsimp only;rw[if_pos (by omega)]⟩
theorem zO{α:Type}{one:List UInt8→Option (α×List UInt8)}{s1 s2:Option (List UInt8)}{ns:List α}{s:α}(q:Nat)(h:Nc (s1.bind one) s s2):
  s1.bind (fun l=>(getMany one (q+1) l).map (fun p=>(ns++p.1,p.2)))=s2.bind (fun l=>(getMany one q l).map (fun p=>(ns++[s]++p.1,p.2))):=by
 cases s1 with
 |none=>have h:s2=none:=h;rw[h];rfl
 |some l=>
  have e:(some l).bind one=one l:=rfl
  rw[e]at h
  show(getMany one (q+1) l).map _=_
  cases ho:one l with
  |none=>rw[ho]at h;rw[show s2=none from h,gX one q ho];rfl
  |some y=>
   rw[ho]at h
   replace h:s=y.1∧s2=some y.2:=h
   rw[fM one q ho,h.2,h.1]
   show _=(getMany one q y.2).map _
   cases getMany one q y.2 with
   |none=>rfl
   |some z=>simp only[Option.map_some,List.append_assoc,List.cons_append,List.nil_append]
theorem uy{α:Type}(s1:Option (List UInt8))(one:List UInt8→Option (α×List UInt8))(n:Nat):s1.bind (getMany one n)=s1.bind (fun l=>(getMany one n l).map (fun p=>([]++p.1,p.2))):=by
 cases s1 with
 |none=>rfl
 |some l=>show getMany one n l=(getMany one n l).map _;cases getMany one n l<;>rfl
theorem D7{α:Type}(s1:Option (List UInt8))(one:List UInt8→Option (α×List UInt8))(ns:List α):s1.bind (fun l=>(getMany one 0 l).map (fun p=>(ns++p.1,p.2)))=s1.map (fun r=>(ns,r)):=by
 cases s1 with
 |none=>rfl
 |some l=>show some (ns++[],l)=some (ns,l);rw[List.append_nil]
theorem BJ{w:World}{p base:Nat}{hv vn vq vd:Value}{x:List UInt8}{st:Option (List UInt8)}{m:Mg}(hx:Bys w base hv x)(hbp:base≤p)(h:BdS w p hv x st)(ho:OL w base m vn vq vd)(hn:m.names=[]):
  Calls Tryz.prog 49 #[.pointer (some ⟨p,0,none⟩),iM m vn vq vd,.int .u8 78] w (uw p base hv x m .names st w):=by
 have HWC:=hid (fun w=>jL .names w)
 have HIT:=hid (fun w=>jV .names w)
 have HF0:=jO hx hbp h ho
 have HF:=hid HF0.1
 have HOL:=hid HF0.2
 have h1:=bG ho.n
 have h2:=bG ho.q
 have h3:=bG ho.d
 clear hx hbp h ho HF0
 go_enter Tryz.func49,Tryz.ntmps49
 go_upto_region 1 with(fail)
 change Code.wp _ _ _ _ ((w.alloc (.cells (aF m vn vq vd).toArray 41)).alloc (.cells (mgN (head 0 0)).toArray 41))
 generalize((w.alloc (.cells (aF m vn vq vd).toArray 41)).alloc (.cells (mgN (head 0 0)).toArray 41))=w1 at HF HOL⊢
 generalize w.heap.size+1=q at HF⊢
 generalize w.heap.size=z at HF⊢
 go_wp2_with fail
 refine(HWC.out _).mono ?_
 rintro e w2 ⟨rfl,rfl⟩
 go_wp2_with fail
 refine(HIT.out _).mono ?_
 rintro e w2 ⟨rfl,rfl⟩
 go_wp2_with fail
 refine(rY HF.out.x HF.out.bp HF.out.s).mono ?_
 intro e w2 hcr
 obtain⟨n,s1,rfl,hn16,ho,hs,hg⟩:=D6 hcr
 have HG:=hid (@hg ByteArray aN)
 have lN:=hid (HOL.out.bd HF.out.s (ho.mono fun _ _ hi=> .inl hi))
 have HF2:=hid (HF.out.step hs (ho.mono fun _ _ hi=> .inl hi))
 have HN:=hid hn
 clear hs ho HF HOL hcr hg hn
 go_upto_region 10 with(fail)
 go_loopw [10] (fun i wr=>∃(k:Nat) (ns:List ByteArray) (sk:Option (List UInt8)) (v:Value),k≤n∧i= .int .i64 (k:Int)∧ns.length=k∧FS w wr p z q base hv x sk {m with names:=ns} v vq vd∧OL wr base {m with names:=ns} v vq vd∧s1.bind (getMany aN n)=sk.bind (fun l=>(getMany aN (n-k) l).map (fun p=>(ns++p.1,p.2)))) (fun i _=>n-(intOf i).toNat)
 case atStart=>
  exact⟨0,[],s1,vn,Nat.zero_le _,rfl,rfl,(by rw[←HN.out];exact HF2.out),(by rw[←HN.out];exact lN.out),uy _ _ _⟩
 case round=>
  obtain⟨k,ns,sk,v,hk,rfl,hns,hf,hol,hg⟩:=hrel
  have HFK:=hid hf
  have HOK:=hid hol
  have HGK:=hid hg
  have HNS:=hid hns
  clear hf hol hg hns
  by_cases hlt:k<n
  ·go_wp2_with fail
   refine(xW HFK.out.x HFK.out.bp HFK.out.s).mono ?_
   rintro e w3 ⟨s,rfl, -,ho,hm⟩
   obtain⟨st',hs,HST⟩:∃st',BdS w3 p hv x st'∧Hid (Nc (sk.bind aN) s st'):=by
    cases hg:sk.bind aN with
    |none=>rw[hg]at hm;exact⟨none,hm,hid rfl⟩
    |some y=>rw[hg]at hm;exact⟨some y.2,hm.2,hid ⟨hm.1,rfl⟩⟩
   have HO3:=hid (HOK.out.bd HFK.out.s ho)
   have HF3:=hid (HFK.out.step hs ho)
   clear hs ho HFK hm HOK
   have hup:Below w3.heap.size w3 (w3.alloc (.cells #[.string s] 9)):=(Below.refl _ _).alloc (Nat.le_refl _) _
   have HF4:=hid (HF3.out.new hup)
   have HO4:=hid (HO3.out.below hup)
   have HRD:=hid (show Reads (w3.alloc (.cells #[.string s] 9)) (w3.heap.size+1) 1 (some ⟨w3.heap.size,0,none⟩) ([s]:List ByteArray).length (h_ [s])from dI w3 9 [.string s] 1 1 rfl)
   have HLN:=hid (show ns.length+([s]:List ByteArray).length≤8796093022207 from by rw[HNS.out];simp only[List.length_cons,List.length_nil];omega)
   have kz:w3.cell? ⟨z,11,none⟩=some v:=Blk.cell HF3.out.m 11
   clear hup
   go_wp2_with(at_builtin;refine oQ (.tmp 55) (.tmp 57) rfl rfl base _ ns rfl HO4.out.n (w3.heap.size+1) _ 1 [s] rfl HRD.out HLN.out HF4.out.size ?_;intro v4 w4 hown hgr hor;generalize Nj:(ns++[s]).length=n4 at hown;have HL4:=hid Nj;clear Nj;obtain⟨A4,c4,rfl, -⟩:=aJ hown;have HV4:=hid hown;have HF5:=hid (HF4.out.app HO4.out.n (by decide) (by decide) hgr);have HQ5:=hid (HO4.out.q.kept hgr (fC HO4.out.q HO4.out.n (by decide)));have HD5:=hid (HO4.out.d.kept hgr (fC HO4.out.d HO4.out.n (by decide)));clear hown hgr hor kz;have kz:w4.cell? ⟨z,11,none⟩=some v:=Blk.cell HF5.out.m 11;have fz:w4.frozen? ⟨z,11,none⟩=false:=Blk.frozen HF5.out.m 11)
   go_roundw
   case rel=>
    have hn':=HNS.out
    have hl4:=HL4.out
    subst hl4
    refine⟨k+1,ns++[s],st',_,by omega,by go_num,by rw[List.length_append,hn'];rfl,HF5.out.turn (aK.aW HF5.out.m _ _ (sZ ..)) (bM ..), ?_, ?_⟩
    ·exact OL.qp (m:= {m with names:=ns++[s]}) ⟨HV4.out,HQ5.out,HD5.out⟩ HF5.out.m (bM ..)
    ·rw[HGK.out,show n-k=(n-(k+1))+1 from by omega]
     exact zO _ HST.out
   case measure=>simp[intOf];omega
  ·have hkn:k=n:=by omega
   subst hkn
   have h4:=bG HOK.out.n
   go_wp2_with(first|(refine wlw HFK.out.m 0 (aF {m with names:=ns} v vq vd) rfl rfl _ _ rfl rfl _ Tryz.underlying41 rfl aB ?_)|(refine dA HFK.out.r 0 (aF {m with names:=ns} v vq vd) _ (bW ..) (Nat.le_refl 36) (bT _ h4 h2 h3) rfl _ _ _ rfl rfl rfl aB ?_;intro wz hs ho;have HZF:=hid hs;have HOF:=hid (ho (fun i=>i=q) rfl _ (Off.refl _ _));clear hs ho))
   obtain⟨r1,r2,r3⟩:=HFK.out.end_ HOK.out HOF.out
   refine bodyPost_ret (bf (l:=aF {m with names:=ns} v vq vd) rfl Tryz.underlying41 rfl aB rfl HZF.out) rfl ⟨_,_,_,_,rfl,r1,⟨fun h=>absurd rfl h,fun _=>rfl,fun _=>rfl⟩,r2, ?_⟩
   have e:st.bind (fun l=>rfF m l .names)=sk.map (fun r=>({m with names:=ns},r)):=by
    have e1:st.bind (fun l=>rfF m l .names)=(st.bind (fF aN)).map (fun p=>({m with names:=p.1},p.2)):=by cases st<;>rfl
    rw[e1,HG.out,HGK.out,Nat.sub_self,D7,Option.map_map]
    rfl
   rw[e]
   cases sk with
   |none=>exact r3
   |some r=>exact⟨rfl,r3⟩
theorem D8{w:World}{p base:Nat}{hv vn vq vd:Value}{x:List UInt8}{st:Option (List UInt8)}{m:Mg}(hx:Bys w base hv x)(hbp:base≤p)(h:BdS w p hv x st)(ho:OL w base m vn vq vd)(hn:m.aV=[]):
  Calls Tryz.prog 49 #[.pointer (some ⟨p,0,none⟩),iM m vn vq vd,.int .u8 81] w (uw p base hv x m .aV st w):=by
 have HWC:=hid (fun w=>jL .aV w)
 have HIT:=hid (fun w=>jV .aV w)
 have HF0:=jO hx hbp h ho
 have HF:=hid HF0.1
 have HOL:=hid HF0.2
 have h1:=bG ho.n
 have h2:=bG ho.q
 have h3:=bG ho.d
 clear hx hbp h ho HF0
 go_enter Tryz.func49,Tryz.ntmps49
 go_upto_region 1 with(fail)
 change Code.wp _ _ _ _ ((w.alloc (.cells (aF m vn vq vd).toArray 41)).alloc (.cells (mgN (head 0 0)).toArray 41))
 generalize((w.alloc (.cells (aF m vn vq vd).toArray 41)).alloc (.cells (mgN (head 0 0)).toArray 41))=w1 at HF HOL⊢
 generalize w.heap.size+1=q at HF⊢
 generalize w.heap.size=z at HF⊢
 go_wp2_with fail
 refine(HWC.out _).mono ?_
 rintro e w2 ⟨rfl,rfl⟩
 go_wp2_with fail
 refine(HIT.out _).mono ?_
 rintro e w2 ⟨rfl,rfl⟩
 go_wp2_with fail
 refine(rY HF.out.x HF.out.bp HF.out.s).mono ?_
 intro e w2 hcr
 obtain⟨n,s1,rfl,hn16,ho,hs,hg⟩:=D6 hcr
 have HG:=hid (@hg Qd dR)
 have lN:=hid (HOL.out.bd HF.out.s (ho.mono fun _ _ hi=> .inl hi))
 have HF2:=hid (HF.out.step hs (ho.mono fun _ _ hi=> .inl hi))
 have HN:=hid hn
 clear hs ho HF HOL hcr hg hn
 go_upto_region 17 with(fail)
 go_loopw [13] (fun i wr=>∃(k:Nat) (ns:List Qd) (sk:Option (List UInt8)) (v:Value),k≤n∧i= .int .i64 (k:Int)∧ns.length=k∧FS w wr p z q base hv x sk {m with aV:=ns} vn v vd∧OL wr base {m with aV:=ns} vn v vd∧s1.bind (getMany dR n)=sk.bind (fun l=>(getMany dR (n-k) l).map (fun p=>(ns++p.1,p.2)))) (fun i _=>n-(intOf i).toNat)
 case atStart=>
  exact⟨0,[],s1,vq,Nat.zero_le _,rfl,rfl,(by rw[←HN.out];exact HF2.out),(by rw[←HN.out];exact lN.out),uy _ _ _⟩
 case round=>
  obtain⟨k,ns,sk,v,hk,rfl,hns,hf,hol,hg⟩:=hrel
  have HFK:=hid hf
  have HOK:=hid hol
  have HGK:=hid hg
  have HNS:=hid hns
  clear hf hol hg hns
  by_cases hlt:k<n
  ·go_wp2_with fail
   refine(xX HFK.out.x HFK.out.bp HFK.out.s).mono ?_
   rintro e w3 ⟨⟨v1,v2,v3⟩,rfl, -,ho,hm⟩
   obtain⟨st',hs,HST⟩:∃st',BdS w3 p hv x st'∧Hid (Nc (sk.bind dR) ⟨v1,v2,v3⟩ st'):=by
    cases hg:sk.bind dR with
    |none=>rw[hg]at hm;exact⟨none,hm,hid rfl⟩
    |some y=>rw[hg]at hm;exact⟨some y.2,hm.2,hid ⟨hm.1,rfl⟩⟩
   have HO3:=hid (HOK.out.bd HFK.out.s ho)
   have HF3:=hid (HFK.out.step hs ho)
   clear hs ho HFK hm HOK
   go_upto_region 20 with(fail)
   have hup:Below w3.heap.size w3 (w3.alloc (.cells #[.int .u8 (v1:Int),.int .u32 (v2:Int),.int .u64 (v3:Int)] 37)):=(Below.refl _ _).alloc (Nat.le_refl _) _
   have HFa:=hid (HF3.out.new hup)
   have HOa:=hid (HO3.out.below hup)
   have HQa:=hid (Blk.new w3 37 #[.int .u8 (v1:Int),.int .u32 (v2:Int),.int .u64 (v3:Int)])
   clear hup HF3 HO3
   generalize w3.alloc (.cells #[.int .u8 (v1:Int),.int .u32 (v2:Int),.int .u64 (v3:Int)] 37)=wa at HFa HOa HQa⊢
   generalize w3.heap.size=c3 at HQa⊢
   have hup:Below wa.heap.size wa (wa.alloc (.cells #[.int .u8 (v1:Int),.int .u32 (v2:Int),.int .u64 (v3:Int)] 37)):=(Below.refl _ _).alloc (Nat.le_refl _) _
   have HF4:=hid (HFa.out.new hup)
   have HO4:=hid (HOa.out.below hup)
   have HRD:=hid (show Reads (wa.alloc (.cells #[.int .u8 (v1:Int),.int .u32 (v2:Int),.int .u64 (v3:Int)] 37)) (wa.heap.size+1) 3 (some ⟨wa.heap.size,0,none⟩) ([⟨v1,v2,v3⟩]:List Qd).length (ng [⟨v1,v2,v3⟩])from dI wa 37 [.int .u8 (v1:Int),.int .u32 (v2:Int),.int .u64 (v3:Int)] 1 3 rfl)
   have HLN:=hid (show ns.length+([⟨v1,v2,v3⟩]:List Qd).length≤8796093022207 from by rw[HNS.out];simp only[List.length_cons,List.length_nil];omega)
   have kz:wa.cell? ⟨z,12,none⟩=some v:=Blk.cell HFa.out.m 12
   have k1:wa.cell? ⟨c3,0,none⟩=some (.int .u8 (v1:Int)):=Blk.cell HQa.out 0
   have k2:wa.cell? ⟨c3,1,none⟩=some (.int .u32 (v2:Int)):=Blk.cell HQa.out 1
   have k3:wa.cell? ⟨c3,2,none⟩=some (.int .u64 (v3:Int)):=Blk.cell HQa.out 2
   clear hup
   go_wp2_with(at_builtin;refine Ai (.tmp 73) (.tmp 75) rfl rfl base _ ns rfl HO4.out.q (wa.heap.size+1) _ 1 [⟨v1,v2,v3⟩] rfl HRD.out HLN.out HF4.out.size ?_;intro v4 w4 hown hgr hor;generalize Nj:(ns++[(⟨v1,v2,v3⟩:Qd)]).length=n4 at hown;have HL4:=hid Nj;clear Nj;obtain⟨A4,c4,rfl, -⟩:=aJ hown;have HV4:=hid hown;have HF5:=hid (HF4.out.app HO4.out.q (by decide) (by decide) hgr);have HQ5:=hid (HO4.out.n.kept hgr (fC HO4.out.n HO4.out.q (by decide)));have HD5:=hid (HO4.out.d.kept hgr (fC HO4.out.d HO4.out.q (by decide)));clear hown hgr hor kz k1 k2 k3;have kz:w4.cell? ⟨z,12,none⟩=some v:=Blk.cell HF5.out.m 12;have fz:w4.frozen? ⟨z,12,none⟩=false:=Blk.frozen HF5.out.m 12)
   go_roundw
   case rel=>
    have hn':=HNS.out
    have hl4:=HL4.out
    subst hl4
    refine⟨k+1,ns++[⟨v1,v2,v3⟩],st',_,by omega,by go_num,by rw[List.length_append,hn'];rfl,HF5.out.turn (aK.aW HF5.out.m _ _ (xA ..)) (bM ..), ?_, ?_⟩
    ·exact OL.qp (m:= {m with aV:=ns++[⟨v1,v2,v3⟩]}) ⟨HQ5.out,HV4.out,HD5.out⟩ HF5.out.m (bM ..)
    ·rw[HGK.out,show n-k=(n-(k+1))+1 from by omega]
     exact zO _ HST.out
   case measure=>simp[intOf];omega
  ·have hkn:k=n:=by omega
   subst hkn
   have h4:=bG HOK.out.q
   go_wp2_with(first|(refine wlw HFK.out.m 0 (aF {m with aV:=ns} vn v vd) rfl rfl _ _ rfl rfl _ Tryz.underlying41 rfl aB ?_)|(refine dA HFK.out.r 0 (aF {m with aV:=ns} vn v vd) _ (bW ..) (Nat.le_refl 36) (bT _ h1 h4 h3) rfl _ _ _ rfl rfl rfl aB ?_;intro wz hs ho;have HZF:=hid hs;have HOF:=hid (ho (fun i=>i=q) rfl _ (Off.refl _ _));clear hs ho))
   obtain⟨r1,r2,r3⟩:=HFK.out.end_ HOK.out HOF.out
   refine bodyPost_ret (bf (l:=aF {m with aV:=ns} vn v vd) rfl Tryz.underlying41 rfl aB rfl HZF.out) rfl ⟨_,_,_,_,rfl,r1,⟨fun _=>rfl,fun h=>absurd rfl h,fun _=>rfl⟩,r2, ?_⟩
   have e:st.bind (fun l=>rfF m l .aV)=sk.map (fun r=>({m with aV:=ns},r)):=by
    have e1:st.bind (fun l=>rfF m l .aV)=(st.bind (fF dR)).map (fun p=>({m with aV:=p.1},p.2)):=by cases st<;>rfl
    rw[e1,HG.out,HGK.out,Nat.sub_self,D7,Option.map_map]
    rfl
   rw[e]
   cases sk with
   |none=>exact r3
   |some r=>exact⟨rfl,r3⟩
theorem F9{w:World}{p base:Nat}{hv vn vq vd:Value}{x:List UInt8}{st:Option (List UInt8)}{m:Mg}(hx:Bys w base hv x)(hbp:base≤p)(h:BdS w p hv x st)(ho:OL w base m vn vq vd):
  Calls Tryz.prog 49 #[.pointer (some ⟨p,0,none⟩),iM m vn vq vd,.int .u8 113] w (uw p base hv x m .qid st w):=by
 have HWC:=hid (fun w=>jL .qid w)
 have HIT:=hid (fun w=>jV .qid w)
 have HF0:=jO hx hbp h ho
 have HF:=hid HF0.1
 have HOL:=hid HF0.2
 have h1:=bG ho.n
 have h2:=bG ho.q
 have h3:=bG ho.d
 clear hx hbp h ho HF0
 go_enter Tryz.func49,Tryz.ntmps49
 go_upto_region 1 with(fail)
 change Code.wp _ _ _ _ ((w.alloc (.cells (aF m vn vq vd).toArray 41)).alloc (.cells (mgN (head 0 0)).toArray 41))
 generalize((w.alloc (.cells (aF m vn vq vd).toArray 41)).alloc (.cells (mgN (head 0 0)).toArray 41))=w1 at HF HOL⊢
 generalize w.heap.size+1=q at HF⊢
 generalize w.heap.size=z at HF⊢
 go_wp2_with fail
 refine(HWC.out _).mono ?_
 rintro e w2 ⟨rfl,rfl⟩
 go_wp2_with fail
 refine(HIT.out _).mono ?_
 rintro e w2 ⟨rfl,rfl⟩
 go_wp2_with fail
 refine(xX HF.out.x HF.out.bp HF.out.s).mono ?_
 rintro e w3 ⟨⟨v1,v2,v3⟩,rfl, -,ho,hm⟩
 obtain⟨st',hs,HST⟩:∃st',BdS w3 p hv x st'∧Hid (Nc (st.bind dR) ⟨v1,v2,v3⟩ st'):=by
  cases hg:st.bind dR with
  |none=>rw[hg]at hm;exact⟨none,hm,hid rfl⟩
  |some y=>rw[hg]at hm;exact⟨some y.2,hm.2,hid ⟨hm.1,rfl⟩⟩
 have HO3:=hid (HOL.out.bd HF.out.s ho)
 have HF3:=hid (HF.out.step hs ho)
 clear hs ho HF hm HOL
 have k0:w3.cell? ⟨z,13,none⟩=some (.int .u8 (m.qid.kind:Int)):=Blk.cell HF3.out.m 13
 have k1:w3.cell? ⟨z,14,none⟩=some (.int .u32 (m.qid.vers:Int)):=Blk.cell HF3.out.m 14
 have k2:w3.cell? ⟨z,15,none⟩=some (.int .u64 (m.qid.path:Int)):=Blk.cell HF3.out.m 15
 have z0:w3.frozen? ⟨z,13,none⟩=false:=Blk.frozen HF3.out.m 13
 have z1:w3.frozen? ⟨z,14,none⟩=false:=Blk.frozen HF3.out.m 14
 have z2:w3.frozen? ⟨z,15,none⟩=false:=Blk.frozen HF3.out.m 15
 have hmt:aK (((w3.setCell ⟨z,13,none⟩ (.int .u8 (v1:Int))).setCell ⟨z,14,none⟩ (.int .u32 (v2:Int))).setCell ⟨z,15,none⟩ (.int .u64 (v3:Int))) z {m with qid:=⟨v1,v2,v3⟩} vn vq vd:=by
  have h:=((Blk.aW HF3.out.m 13 (.int .u8 (v1:Int))).aW 14 (.int .u32 (v2:Int))).aW 15 (.int .u64 (v3:Int))
  rw[Bh m ⟨v1,v2,v3⟩]at h
  exact h
 have hoz:Off (fun i=>i=z) w3 (((w3.setCell ⟨z,13,none⟩ (.int .u8 (v1:Int))).setCell ⟨z,14,none⟩ (.int .u32 (v2:Int))).setCell ⟨z,15,none⟩ (.int .u64 (v3:Int))):=((bM w3 z 13 _).trans (bM _ z 14 _)).trans (bM _ z 15 _)
 have HF4:=hid (HF3.out.turn hmt hoz)
 have HO4:=hid (HO3.out.qp HF3.out.m hoz)
 clear hmt hoz HF3 HO3
 go_upto_region 34 with(fail)
 generalize((w3.setCell ⟨z,13,none⟩ (.int .u8 (v1:Int))).setCell ⟨z,14,none⟩ (.int .u32 (v2:Int))).setCell ⟨z,15,none⟩ (.int .u64 (v3:Int))=w4 at HF4 HO4⊢
 clear k0 k1 k2 z0 z1 z2
 go_wp2_with(first|(refine wlw HF4.out.m 0 (aF {m with qid:=⟨v1,v2,v3⟩} vn vq vd) rfl rfl _ _ rfl rfl _ Tryz.underlying41 rfl aB ?_)|(refine dA HF4.out.r 0 (aF {m with qid:=⟨v1,v2,v3⟩} vn vq vd) _ (bW ..) (Nat.le_refl 36) (bT _ h1 h2 h3) rfl _ _ _ rfl rfl rfl aB ?_;intro wz hs ho;have HZF:=hid hs;have HOF:=hid (ho (fun i=>i=q) rfl _ (Off.refl _ _));clear hs ho))
 obtain⟨r1,r2,r3⟩:=HF4.out.end_ (HO4.out.as (m':= {m with qid:=⟨v1,v2,v3⟩}) rfl rfl rfl) HOF.out
 refine bodyPost_ret (bf (l:=aF {m with qid:=⟨v1,v2,v3⟩} vn vq vd) rfl Tryz.underlying41 rfl aB rfl HZF.out) rfl ⟨_,_,_,_,rfl,r1,⟨fun _=>rfl,fun _=>rfl,fun _=>rfl⟩,r2, ?_⟩
 have e1:st.bind (fun l=>rfF m l .qid)=(st.bind dR).map (fun p=>({m with qid:=p.1},p.2)):=by cases st<;>rfl
 rw[e1]
 have hst:=HST.out
 cases hr:st.bind dR with
 |none=>rw[hr]at hst;rw[show st'=none from hst]at r3;exact r3
 |some r=>rw[hr]at hst;obtain⟨a1,a2⟩:=hst;rw[a2]at r3;exact⟨by rw[a1],r3⟩
theorem Nk(m:Mg)(st:Option (List UInt8)):st.bind (fun l=>rfF m l .data)=(dn (dn st 4).2 (aH (dn st 4).1)).2.map (fun r=>({m with data:=(dn (dn st 4).2 (aH (dn st 4).1)).1},r)):=by
 cases st with
 |none=>rfl
 |some l=>
  show(match bU 4 l with|none=>none|some (n,r)=>(gJ n r).map fun(p:List UInt8×List UInt8)=>(({m with data:=p.1}:Mg),p.2))=_
  by_cases h:4≤l.length
  ·rw[gU h]
   unfold bU
   rw[show gJ 4 l=some (l.take 4,l.drop 4)from if_pos h,Option.map_some]
   dsimp only
   by_cases h2:aH (l.take 4)≤(l.drop 4).length
   ·rw[gU h2,show gJ (aH (l.take 4)) (l.drop 4)=some ((l.drop 4).take (aH (l.take 4)),(l.drop 4).drop (aH (l.take 4)))from if_pos h2]
    rfl
   ·rw[jB (fun q hq=>by injection hq with hq;subst hq;omega),show gJ (aH (l.take 4)) (l.drop 4)=none from if_neg h2]
    rfl
  ·rw[jB (st:=some l) (n:=4) (fun q hq=>by injection hq with hq;subst hq;omega)]
   unfold bU
   rw[show gJ 4 l=none from if_neg h]
   rfl
theorem Nl(m:Mg)(st:Option (List UInt8)):st.bind (fun l=>rfF m l .stat)=(dn (dn st 2).2 (aH (dn st 2).1)).2.bind (fun r=>(fV (dn (dn st 2).2 (aH (dn st 2).1)).1).map fun s=>({m with stat:=s},r)):=by
 cases st with
 |none=>rfl
 |some l=>
  show(match bU 2 l with|none=>none|some (n,r)=>match gJ n r with|none=>none|some (b,r)=>(fV b).map fun s=>(({m with stat:=s}:Mg),r))=_
  by_cases h:2≤l.length
  ·rw[gU h]
   unfold bU
   rw[show gJ 2 l=some (l.take 2,l.drop 2)from if_pos h,Option.map_some]
   dsimp only
   by_cases h2:aH (l.take 2)≤(l.drop 2).length
   ·rw[gU h2,show gJ (aH (l.take 2)) (l.drop 2)=some ((l.drop 2).take (aH (l.take 2)),(l.drop 2).drop (aH (l.take 2)))from if_pos h2]
    rfl
   ·rw[jB (fun q hq=>by injection hq with hq;subst hq;omega),show gJ (aH (l.take 2)) (l.drop 2)=none from if_neg h2]
    rfl
  ·rw[jB (st:=some l) (n:=2) (fun q hq=>by injection hq with hq;subst hq;omega)]
   unfold bU
   rw[show gJ 2 l=none from if_neg h]
   rfl
theorem D9{w:World}{p base:Nat}{hv vn vq vd:Value}{x:List UInt8}{st:Option (List UInt8)}{m:Mg}(hx:Bys w base hv x)(hbp:base≤p)(h:BdS w p hv x st)(ho:OL w base m vn vq vd)(hn:m.data=[]):
  Calls Tryz.prog 49 #[.pointer (some ⟨p,0,none⟩),iM m vn vq vd,.int .u8 68] w (uw p base hv x m .data st w):=by
 have HR:=hid (oI st 4)
 have HNL:=hid (show aH (dn st 4).1<4294967296 from Nat.lt_of_lt_of_le (dD _) (show 256^_≤256^4 from Nat.pow_le_pow_right (by decide) (jM st 4)))
 have HWC:=hid (fun w=>jL .data w)
 have HIT:=hid (fun w=>jV .data w)
 have HF0:=jO hx hbp h ho
 have HF:=hid HF0.1
 have HOL:=hid HF0.2
 have h1:=bG ho.n
 have h2:=bG ho.q
 have h3:=bG ho.d
 clear hx hbp h ho HF0
 go_enter Tryz.func49,Tryz.ntmps49
 go_upto_region 1 with(fail)
 change Code.wp _ _ _ _ ((w.alloc (.cells (aF m vn vq vd).toArray 41)).alloc (.cells (mgN (head 0 0)).toArray 41))
 generalize((w.alloc (.cells (aF m vn vq vd).toArray 41)).alloc (.cells (mgN (head 0 0)).toArray 41))=w1 at HF HOL⊢
 generalize w.heap.size+1=q at HF⊢
 generalize w.heap.size=z at HF⊢
 go_wp2_with fail
 refine(HWC.out _).mono ?_
 rintro e w2 ⟨rfl,rfl⟩
 go_wp2_with fail
 refine(HIT.out _).mono ?_
 rintro e w2 ⟨rfl,rfl⟩
 go_wp2_with fail
 refine(iy 4 (by decide) HF.out.x HF.out.bp HF.out.s).mono ?_
 rintro e w2 ⟨rfl,hs,ho⟩
 have lN:=hid (HOL.out.bd HF.out.s (ho.mono fun _ _ hi=> .inl hi))
 have HF2:=hid (HF.out.step hs (ho.mono fun _ _ hi=> .inl hi))
 clear hs ho HF HOL
 have HRW:=hid (oH (aH (dn st 4).1) (by have:=HNL.out;omega) HF2.out.x HF2.out.bp HF2.out.s)
 go_wp2_with fail
 refine HRW.out.mono ?_
 rintro e w3 ⟨⟨l,rfl,hl⟩,hs,ho⟩
 have tJ:=hid (lN.out.bd HF2.out.s (ho.mono fun _ _ hi=> .inl hi))
 have HF3:=hid (HF2.out.step hs (ho.mono fun _ _ hi=> .inl hi))
 have HN:=hid hn
 obtain⟨D,hD⟩:∃D,D=dn (dn st 4).2 (aH (dn st 4).1):=⟨_,rfl⟩
 rw[←hD]at hl HF3
 have HDE:=hid hD
 have HDL:=hid (show D.1.length≤4294967296 from by rw[hD];exact Nat.le_trans (jM _ _) (Nat.le_of_lt HNL.out))
 obtain⟨A,c,rfl, -, -,hrd⟩:=hl
 have HRD:=hid hrd
 have HLN:=hid (show([]:List UInt8).length+D.1.length≤140737488355327 from by have:=HDL.out;rw[List.length_nil];omega)
 have HV0:=hid (show w3.ownsRow base 5 1 vd ([]:List UInt8).length (aX [])from by have h:=tJ.out.d;rw[HN.out]at h;exact h)
 have kz:w3.cell? ⟨z,22,none⟩=some vd:=Blk.cell HF3.out.m 22
 clear hs ho HF2 lN hn hD hrd HRW HNL
 go_wp2_with(first|(at_builtin;refine kY (.tmp 93) (.tmp 94) rfl rfl base _ [] rfl HV0.out base _ _ D.1 rfl HRD.out HLN.out HF3.out.size ?_;intro v4 w4 hown hgr hor;rw[List.nil_append]at hown;obtain⟨A4,c4,rfl, -⟩:=aJ hown;have HV4:=hid hown;have HF5:=hid (HF3.out.app HV0.out (by decide) (by decide) hgr);have HQ5:=hid (tJ.out.n.kept hgr (fC tJ.out.n HV0.out (by decide)));have HD5:=hid (tJ.out.q.kept hgr (fC tJ.out.q HV0.out (by decide)));clear hown hgr hor kz;have kz:w4.cell? ⟨z,22,none⟩=some vd:=Blk.cell HF5.out.m 22;have fz:w4.frozen? ⟨z,22,none⟩=false:=Blk.frozen HF5.out.m 22;have HF6:=hid (HF5.out.turn (aK.aW HF5.out.m 22 (.slice A4 D.1.length c4) (xB m D.1 ..)) (bM ..));have HO6:=hid (OL.qp (m:= {m with data:=D.1}) ⟨HQ5.out,HD5.out,HV4.out⟩ HF5.out.m (bM w4 z 22 (.slice A4 D.1.length c4)));clear HF5 HQ5 HD5 HF3 tJ HRD)|(refine wlw HF6.out.m 0 (aF {m with data:=D.1} vn vq (.slice A4 D.1.length c4)) rfl rfl _ _ rfl rfl _ Tryz.underlying41 rfl aB ?_)|(refine dA HF6.out.r 0 (aF {m with data:=D.1} vn vq (.slice A4 D.1.length c4)) _ (bW ..) (Nat.le_refl 36) (bT _ h1 h2 rfl) rfl _ _ _ rfl rfl rfl aB ?_;intro wz hs ho;have HZF:=hid hs;have HOF:=hid (ho (fun i=>i=q) rfl _ (Off.refl _ _));clear hs ho))
 obtain⟨r1,r2,r3⟩:=HF6.out.end_ HO6.out HOF.out
 refine bodyPost_ret (bf (l:=aF {m with data:=D.1} vn vq (.slice A4 D.1.length c4)) rfl Tryz.underlying41 rfl aB rfl HZF.out) rfl ⟨_,_,_,_,rfl,r1,⟨fun _=>rfl,fun _=>rfl,fun h=>absurd rfl h⟩,r2, ?_⟩
 have e1:=Nk m st
 rw[←HDE.out]at e1
 rw[e1]
 cases hr:D.2 with
 |none=>rw[hr]at r3;exact r3
 |some r=>rw[hr]at r3;exact⟨rfl,r3⟩
theorem D_{w:World}{p base:Nat}{hv vn vq vd:Value}{x:List UInt8}{st:Option (List UInt8)}{m:Mg}(hx:Bys w base hv x)(hbp:base≤p)(h:BdS w p hv x st)(ho:OL w base m vn vq vd):
  Calls Tryz.prog 49 #[.pointer (some ⟨p,0,none⟩),iM m vn vq vd,.int .u8 83] w (uw p base hv x m .stat st w):=by
 have HR:=hid (oI st 2)
 have HNL:=hid (show aH (dn st 2).1<65536 from Nat.lt_of_lt_of_le (dD _) (show 256^_≤256^2 from Nat.pow_le_pow_right (by decide) (jM st 2)))
 have HWC:=hid (fun w=>jL .stat w)
 have HIT:=hid (fun w=>jV .stat w)
 have HF0:=jO hx hbp h ho
 have HF:=hid HF0.1
 have HOL:=hid HF0.2
 have h1:=bG ho.n
 have h2:=bG ho.q
 have h3:=bG ho.d
 clear hx hbp h ho HF0
 go_enter Tryz.func49,Tryz.ntmps49
 go_upto_region 1 with(fail)
 change Code.wp _ _ _ _ ((w.alloc (.cells (aF m vn vq vd).toArray 41)).alloc (.cells (mgN (head 0 0)).toArray 41))
 generalize((w.alloc (.cells (aF m vn vq vd).toArray 41)).alloc (.cells (mgN (head 0 0)).toArray 41))=w1 at HF HOL⊢
 generalize w.heap.size+1=q at HF⊢
 generalize w.heap.size=z at HF⊢
 go_wp2_with fail
 refine(HWC.out _).mono ?_
 rintro e w2 ⟨rfl,rfl⟩
 go_wp2_with fail
 refine(HIT.out _).mono ?_
 rintro e w2 ⟨rfl,rfl⟩
 go_wp2_with fail
 refine(iy 2 (by decide) HF.out.x HF.out.bp HF.out.s).mono ?_
 rintro e w2 ⟨rfl,hs,ho⟩
 have lN:=hid (HOL.out.bd HF.out.s (ho.mono fun _ _ hi=> .inl hi))
 have HF2:=hid (HF.out.step hs (ho.mono fun _ _ hi=> .inl hi))
 clear hs ho HF HOL
 have HRW:=hid (oH (aH (dn st 2).1) (by have:=HNL.out;omega) HF2.out.x HF2.out.bp HF2.out.s)
 go_wp2_with fail
 refine HRW.out.mono ?_
 rintro e w3 ⟨⟨l,rfl,hl⟩,hs,ho⟩
 have tJ:=hid (lN.out.bd HF2.out.s (ho.mono fun _ _ hi=> .inl hi))
 have HF3:=hid (HF2.out.step hs (ho.mono fun _ _ hi=> .inl hi))
 obtain⟨D,hD⟩:∃D,D=dn (dn st 2).2 (aH (dn st 2).1):=⟨_,rfl⟩
 rw[←hD]at hl HF3
 have HDE:=hid hD
 have HDL:=hid (show D.1.length≤16777216 from by rw[hD];exact Nat.le_trans (jM _ _) (by have:=HNL.out;omega))
 have HL:=hid (hl.more HF3.out.size)
 clear hs ho HF2 lN hD HRW HNL
 obtain⟨A,c,rfl, -⟩:=hl
 go_wp2_with fail
 refine(yR HL.out HDL.out).mono ?_
 rintro e w4 ⟨hb,s,n,rfl,hm⟩
 have HF4:=hid (HF3.out.new hb)
 have HO4:=hid (tJ.out.below hb)
 have HM:=hid hm
 clear hb hm HF3 tJ HL
 go_upto_region 31 with(fail)
 change Code.wp _ _ _ _ (w4.alloc (.cells (stL s).toArray 39))
 have hup:Below w4.heap.size w4 (w4.alloc (.cells (stL s).toArray 39)):=(Below.refl _ _).alloc (Nat.le_refl _) _
 have HFa:=hid (HF4.out.new hup)
 have HOa:=hid (HO4.out.below hup)
 have HSa:=hid (Blk.new w4 39 (stL s).toArray)
 clear hup HF4 HO4
 generalize w4.alloc (.cells (stL s).toArray 39)=wa at HFa HOa HSa⊢
 generalize w4.heap.size=c3 at HSa⊢
 have HRS:=hid (Nl m st)
 rw[←HDE.out]at HRS
 cases hg:fV D.1 with
 |none=>
  have hm:=HM.out
  rw[hg]at hm
  obtain⟨rfl,rfl⟩:=hm
  rw[hg]at HRS
  clear hg HM
  obtain⟨a,b,hb,hax,hxz, -⟩:=HFa.out.s
  have HAX:=hid (And.intro hax hxz)
  have kb:wa.cell? ⟨p,2,none⟩=some (.bool b):=hb.cell 2
  have fb:wa.frozen? ⟨p,2,none⟩=false:=hb.frozen 2
  have HF6:=hid (HFa.out.step HFa.out.s.bad ((Off.refl _ wa).setCell (p:=⟨p,2,none⟩) (.inl rfl) (.bool true)))
  have HO6:=hid (HOa.out.bd HFa.out.s ((Off.refl _ wa).setCell (p:=⟨p,2,none⟩) (.inl rfl) (.bool true)))
  have HS6:=hid (show Blk (wa.setCell ⟨p,2,none⟩ (.bool true)) c3 39 (stL zS).toArray from((Off.refl (fun i=>i=p) wa).setCell (p:=⟨p,2,none⟩) rfl (.bool true)).blk HSa.out (fun e=>HFa.out.s.noT (by decide) _ _ _ e HSa.out))
  clear hb hax hxz
  go_upto_region 33 with(fail)
  clear HFa HOa HSa kb fb
  generalize wa.setCell ⟨p,2,none⟩ (.bool true)=wb at HF6 HO6 HS6⊢
  go_wp2_with(first|(refine wlw HS6.out 0 (stL zS) rfl rfl _ _ rfl rfl _ Tryz.underlying39 rfl bP ?_)|(refine dA HF6.out.m 23 (stL zS) _ (qc ..) (Nat.le_refl 36) (uY _) rfl _ _ _ rfl rfl rfl bP ?_;intro w7 hs hoo;have HO7:=hid (OL.qp (m:= {m with stat:=zS}) ⟨HO6.out.n,HO6.out.q,HO6.out.d⟩ HF6.out.m (hoo (fun i=>i=z) rfl _ (Off.refl _ _)));have HF7:=hid (HF6.out.turn hs (hoo (fun i=>i=z) rfl _ (Off.refl _ _)));clear hs hoo HF6 HO6 HS6)|(refine wlw HF7.out.m 0 (aF {m with stat:=zS} vn vq vd) rfl rfl _ _ rfl rfl _ Tryz.underlying41 rfl aB ?_)|(refine dA HF7.out.r 0 (aF {m with stat:=zS} vn vq vd) _ (bW ..) (Nat.le_refl 36) (bT _ h1 h2 h3) rfl _ _ _ rfl rfl rfl aB ?_;intro wz hs ho;have HZF:=hid hs;have HOF:=hid (ho (fun i=>i=q) rfl _ (Off.refl _ _));clear hs ho))
  obtain⟨r1,r2,r3⟩:=HF7.out.end_ HO7.out HOF.out
  refine bodyPost_ret (bf (l:=aF {m with stat:=zS} vn vq vd) rfl Tryz.underlying41 rfl aB rfl HZF.out) rfl ⟨_,_,_,_,rfl,r1,⟨fun _=>rfl,fun _=>rfl,fun _=>rfl⟩,r2, ?_⟩
  rw[HRS.out]
  cases hr:D.2 with
  |none=>exact r3
  |some r=>exact r3
 |some t=>
  have hm:=HM.out
  rw[hg]at hm
  obtain⟨rfl,rfl⟩:=hm
  rw[hg]at HRS
  have HF6:=HFa
  have HO6:=HOa
  have HS6:=HSa
  clear hg HM HFa HOa HSa
  go_upto_region 33 with(fail)
  go_wp2_with(first|(refine wlw HS6.out 0 (stL s) rfl rfl _ _ rfl rfl _ Tryz.underlying39 rfl bP ?_)|(refine dA HF6.out.m 23 (stL s) _ (qc ..) (Nat.le_refl 36) (uY _) rfl _ _ _ rfl rfl rfl bP ?_;intro w7 hs hoo;have HO7:=hid (OL.qp (m:= {m with stat:=s}) ⟨HO6.out.n,HO6.out.q,HO6.out.d⟩ HF6.out.m (hoo (fun i=>i=z) rfl _ (Off.refl _ _)));have HF7:=hid (HF6.out.turn hs (hoo (fun i=>i=z) rfl _ (Off.refl _ _)));clear hs hoo HF6 HO6 HS6)|(refine wlw HF7.out.m 0 (aF {m with stat:=s} vn vq vd) rfl rfl _ _ rfl rfl _ Tryz.underlying41 rfl aB ?_)|(refine dA HF7.out.r 0 (aF {m with stat:=s} vn vq vd) _ (bW ..) (Nat.le_refl 36) (bT _ h1 h2 h3) rfl _ _ _ rfl rfl rfl aB ?_;intro wz hs ho;have HZF:=hid hs;have HOF:=hid (ho (fun i=>i=q) rfl _ (Off.refl _ _));clear hs ho))
  obtain⟨r1,r2,r3⟩:=HF7.out.end_ HO7.out HOF.out
  refine bodyPost_ret (bf (l:=aF {m with stat:=s} vn vq vd) rfl Tryz.underlying41 rfl aB rfl HZF.out) rfl ⟨_,_,_,_,rfl,r1,⟨fun _=>rfl,fun _=>rfl,fun _=>rfl⟩,r2, ?_⟩
  rw[HRS.out]
  cases hr:D.2 with
  |none=>rw[hr]at r3;exact r3
  |some r=>rw[hr]at r3;exact⟨rfl,r3⟩
end Go.Proofs.YtkblmloobkiloaaGreatDoor
namespace Go.Proofs.YtkblmloobkiloaaGreatDoor
open Go.Lib (hid)
open Go.RowKit
def mX:List Fld→Mg→List UInt8→Option (Mg×List UInt8)
 | [],m,l=>some (m,l)
 |f::fs,m,l=>
  match rfF m l f with
  |none=>none
  |some (m,l)=>mX fs m l
theorem O5{f:Fld}(hf:f≠ .stat)(m:Mg)(l:List UInt8):rfF m l f=nD m l f:=by
 cases f<;>first|rfl|exact absurd rfl hf
theorem zQ:∀(fs:List Fld),nM fs=true→∀(m:Mg) (r:List UInt8),fin (mX fs m r)=fin (getAll fs m r)
 | [],_,_,_=>rfl
 |f::fs,h,m,r=>by
  rcases qH h with⟨rfl,rfl⟩|⟨hf,hfs⟩
  ·unfold mX getAll rfF nD kH
   cases hn:bU 2 r with
   |none=>rfl
   |some y=>
    obtain⟨n,l⟩:=y
    dsimp only
    by_cases h1:n=l.length
    ·rw[if_pos h1,show gJ n l=some (l.take n,l.drop n)from if_pos (by omega),h1,List.take_length,List.drop_length]
     dsimp only
     cases fV l<;>rfl
    ·rw[if_neg h1]
     by_cases h2:n≤l.length
     ·rw[show gJ n l=some (l.take n,l.drop n)from if_pos h2]
      dsimp only
      cases fV (l.take n)with
      |none=>rfl
      |some s=>
       obtain⟨c,t,hc⟩:∃c t,l.drop n=c::t:=by
        cases hd:l.drop n with
        |nil=>have:=congrArg List.length hd;rw[List.length_drop]at this;simp at this;omega
        |cons c t=>exact⟨c,t,rfl⟩
       rw[hc]
       rfl
     ·rw[show gJ n l=none from if_neg h2]
      rfl
  ·unfold mX getAll
   rw[O5 hf]
   cases nD m r f with
   |none=>rfl
   |some y=>exact zQ fs hfs y.1 y.2
theorem Gf{k:Nat}{fs:List Fld}(h:bQ k=some fs):fs.Nodup:=by
 unfold bQ at h
 split at h<;>first|(injection h with h;subst h;simp)|cases h
theorem Rq{x:List UInt8}(h7:¬(x.length<7∨65536<x.length))(h4:aH (x.take 4)=x.length):dec x=match bQ (aH ((x.drop 4).take 1))with
  |none=>(head (aH ((x.drop 4).take 1)) (aH ((x.drop 5).take 2)),32)
  |some fs=>match fin (mX fs (head (aH ((x.drop 4).take 1)) (aH ((x.drop 5).take 2))) (x.drop 7))with
   |some m=>(m,0)
   |none=>(head (aH ((x.drop 4).take 1)) (aH ((x.drop 5).take 2)),33):=by
 unfold dec
 rw[if_neg h7,if_neg (by omega)]
 cases hk:bQ (aH ((x.drop 4).take 1))with
 |none=>rfl
 |some fs=>
  dsimp only
  rw[zQ fs (zu hk)]
  generalize getAll fs _ _=y
  unfold fin
  match y with
  |none=>rfl
  |some (m,[])=>rfl
  |some (m,_::_)=>rfl
def zT(fs:List Fld)(m:Mg):Prop:=(.names∈fs→m.names=[])∧(.aV∈fs→m.aV=[])∧(.data∈fs→m.data=[])
theorem zT.next{f:Fld}{fs:List Fld}{m m':Mg}(h:zT (f::fs) m)(hn:(f::fs).Nodup)(ho:Ur m m' f):zT fs m':=by
 obtain⟨hf, -⟩:=List.nodup_cons.1 hn
 refine⟨fun hi=> ?_,fun hi=> ?_,fun hi=> ?_⟩
 ·rw[ho.1 (fun e=>hf (e▸hi))]
  exact h.1 (List.mem_cons_of_mem _ hi)
 ·rw[ho.2.1 (fun e=>hf (e▸hi))]
  exact h.2.1 (List.mem_cons_of_mem _ hi)
 ·rw[ho.2.2 (fun e=>hf (e▸hi))]
  exact h.2.2 (List.mem_cons_of_mem _ hi)
theorem O6{f:Fld}{fs:List Fld}{m m':Mg}{s1 s2:Option (List UInt8)}(h:match s1.bind (fun l=>rfF m l f)with|some (t,r)=>m'=t∧s2=some r|none=>s2=none):s1.bind (mX (f::fs) m)=s2.bind (mX fs m'):=by
 cases s1 with
 |none=>have h:s2=none:=h;rw[h];rfl
 |some l=>
  have e:(some l).bind (fun l=>rfF m l f)=rfF m l f:=rfl
  rw[e]at h
  show mX (f::fs) m l=_
  unfold mX
  cases hr:rfF m l f with
  |none=>rw[hr]at h;rw[h];cases fs<;>rfl
  |some y=>rw[hr]at h;rw[h.2,h.1];cases fs<;>rfl
theorem BL{w:World}{p base:Nat}{hv vn vq vd:Value}{x:List UInt8}{st:Option (List UInt8)}{m:Mg}(hx:Bys w base hv x)(hbp:base≤p)(h:BdS w p hv x st)(ho:OL w base m vn vq vd)(hb:base≤w.heap.size)(f:Fld)(fs:List Fld)(hf:zT (f::fs) m):
  Calls Tryz.prog 49 #[.pointer (some ⟨p,0,none⟩),iM m vn vq vd,.int .u8 (f.rX.toNat:Int)] w (uw p base hv x m f st w):=by
 by_cases h1:0<f.width
 ·exact F7 hx hbp h ho f h1
 ·by_cases h2:f.isText=true
  ·exact F8 hx hbp h ho f h2
  ·cases f<;>first|exact absurd (by decide) h1|exact absurd rfl h2|skip
   ·exact BJ hx hbp h ho (hf.1 List.mem_cons_self)
   ·exact D8 hx hbp h ho (hf.2.1 List.mem_cons_self)
   ·exact F9 hx hbp h ho
   ·exact D9 hx hbp h ho (hf.2.2 List.mem_cons_self)
   ·exact D_ hx hbp h ho
end Go.Proofs.YtkblmloobkiloaaGreatDoor
