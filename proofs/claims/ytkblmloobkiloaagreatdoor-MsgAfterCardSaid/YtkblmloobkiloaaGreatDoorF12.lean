/-
  MT5 MT6 MRA: what the laws of package msg need of them.
-/
import Derived.Test.YtkblmloobkiloaaGreatDoorF00
import Derived.Test.YtkblmloobkiloaaGreatDoorF10
import Derived.Test.YtkblmloobkiloaaGreatDoorF11
set_option maxRecDepth 100000
set_option maxHeartbeats 3200000
namespace Go.Proofs.YtkblmloobkiloaaGreatDoor
open Go.Lib (hid)
open Go.RowKit
open Go.Lib (decDigits)
theorem join_eq(ws:List (List UInt8)):Lib.join ws [32]=iJ ws:=by
 cases ws with
 |nil=>rfl
 |cons x r=>
  rw[Lib.join_cons]
  show x++(r.map ([32]++ ·)).flatten=x++r.flatMap fun y=>32::y
  rw[List.flatMap_def]
  rfl
theorem nN(ws:List (List UInt8))(M:Nat)(h:∀x∈ws,x.length≤M):(iJ ws).length≤ws.length*(M+1):=by
 cases ws with
 |nil=>exact Nat.zero_le _
 |cons x r=>
  have h1:=h x (List.mem_cons_self ..)
  have h2:∀r:List (List UInt8),(∀y∈r,y.length≤M)→(r.flatMap fun y=>32::y).length≤r.length*(M+1):=by
   intro r
   induction r with
   |nil=>intro _;exact Nat.zero_le _
   |cons y r ih=>
    intro hy
    have:=hy y (List.mem_cons_self ..)
    have:=ih (fun z hz=>hy z (List.mem_cons_of_mem _ hz))
    rw[List.flatMap_cons,List.length_append,List.length_cons,List.length_cons,Nat.succ_mul]
    omega
  have h3:=h2 r (fun y hy=>h y (List.mem_cons_of_mem _ hy))
  show(x++r.flatMap fun y=>32::y).length≤_
  rw[List.length_append,List.length_cons,Nat.succ_mul]
  omega
theorem kT(s:ByteArray):(bD s).length≤4*s.size+2:=by
 show(34::(s.data.toList.flatMap dw++[34])).length≤_
 have h1:=sK s.data.toList
 have h2:s.data.toList.length=s.size:=Array.length_toList ..
 rw[List.length_cons,List.length_append,List.length_cons,List.length_nil]
 omega
theorem pI(q:Qd)(h:q.kind<18446744073709551616∧q.vers<18446744073709551616∧q.path<18446744073709551616):(iG q).length≤62:=by
 have h1:=jD _ h.1
 have h2:=jD _ h.2.1
 have h3:=jD _ h.2.2
 rw[dU]at h1 h2 h3
 unfold iG
 simp only[List.length_append,List.length_cons]
 omega
theorem qI(v:Value)(ws:List ByteArray)(base:Nat)(w:World)(ho:w.ownsRow base 9 1 v ws.length (h_ ws))(h16:ws.length≤16)(hl:∀x∈ws,x.size≤67108866):
  Calls Tryz.prog 257 #[v,.string ⟨#[32]⟩] w fun e w'=>e= .returned (.string (ofL (iJ (ws.map (·.data.toList)))))∧Below w.heap.size w w':=by
 rcases ho.2 with⟨rfl,h0⟩|⟨g,cap,cur,rfl,hb,hg,hc,hm,hs,ht⟩
 ·have:ws=[]:=List.eq_nil_of_length_eq_zero h0
  subst this
  refine(Tryz.strings_Join_none none 0 ⟨#[32]⟩ w).mono ?_
  rintro e w' ⟨rfl,rfl⟩
  exact⟨rfl,Below.refl _ _⟩
 ·have hle:(iJ (ws.map (·.data.toList))).length≤140737488355328:=by
   have h:=nN (ws.map (·.data.toList)) 67108866 (by
    intro x hx
    obtain⟨y,hy,rfl⟩:=List.mem_map.1 hx
    have h1:=hl y hy
    have h2:y.data.toList.length=y.size:=Array.length_toList ..
    omega)
   rw[List.length_map]at h
   have:ws.length*(67108866+1)≤16*(67108866+1):=Nat.mul_le_mul_right _ h16
   omega
  refine(Tryz.strings_Join g 0 cap ws ⟨#[32]⟩ w (fun j x hx=> ?_) (dP hg) (by omega) hc (by rw[show(⟨#[32]⟩:ByteArray).data.toList=[32]from rfl,join_eq];exact hle)).mono ?_
  ·have h:=ho.cellAt j (by have:=(List.getElem?_eq_some_iff.1 hx).1;omega)
   rw[Nat.zero_add]
   rw[h]
   rw[List.getElem?_map,hx]
   rfl
  ·rintro e w' ⟨rfl,hb⟩
   rw[show(⟨#[32]⟩:ByteArray).data.toList=[32]from rfl,join_eq]
   exact⟨rfl,hb⟩
abbrev abZ(s:ByteArray):Prop:=∀w:World,Calls Tryz.prog 140 #[.string s] w fun e w'=>e= .returned (.string (ofL (bD s)))∧Below w.heap.size w w'
theorem abV(v:Value)(l:List ByteArray)(w:World)(hl:iW w w.heap.size v l)(h16:l.length≤16)(hok:∀x∈l,x.size≤16777216∧abZ x):
  Calls Tryz.prog 217 #[v,.func (.func 140) #[] #[]] w fun e w'=>e= .returned (.string (ofL (91::(iJ (l.map bD)++[93]))))∧Below w.heap.size w w':=by
 have HL:=hid hl
 have HOK:=hid hok
 have HWL:=hid (show∀x∈l,(ofL (bD x)).size≤67108866 from fun x hx=>by
  rw[dU]
  have:=kT x;have:=(hok x hx).1;omega)
 obtain⟨A,c,rfl,hc,hm, -⟩:=hl
 clear hok
 go_enter Tryz.func217,Tryz.ntmps217
 go_upto_region 3 with(fail)
 go_loopw [5,7,10] (fun v _ i wr=>∃k:Nat,k≤l.length∧i= .int .i64 k∧wr.ownsRow w.heap.size 9 1 v ((l.take k).map (fun s=>ofL (bD s))).length (h_ ((l.take k).map (fun s=>ofL (bD s))))∧Below w.heap.size w wr) (fun _ _ i _=>l.length-(intOf i).toNat)
 case atStart=>exact⟨0,by omega,rfl,dS _ _ _ _,Below.refl _ _⟩
 case round=>
  obtain⟨k,hk,rfl,hv,hb⟩:=hrel
  have HV:=hid hv;clear hv
  have HBR:=hid hb;clear hb
  by_cases hlt:k<l.length
  ·obtain⟨x,hx⟩:∃x,l[k]? =some x:=⟨l[k],List.getElem?_eq_getElem _⟩
   obtain⟨ad,rfl,hab,kx⟩:=(HL.out.below HBR.out).at_ hx
   have HNX:=hid (show(l.take (k+1)).map (fun s=>ofL (bD s))=(l.take k).map (fun s=>ofL (bD s))++[ofL (bD x)]from by
    rw[List.take_add_one,hx,Option.toList_some,List.map_append]
    rfl)
   have HKL:=hid (show((l.take k).map (fun s=>ofL (bD s))).length≤16 from by rw[List.length_map,List.length_take];omega)
   have HXO:=hid (HOK.out x (List.mem_of_getElem? hx))
   generalize(l.take k).map (fun s=>ofL (bD s))=M at*
   have hv:=HV.out
   obtain⟨A0,cap,rfl,hc0,hm0⟩:=aJ hv
   clear hv hx hab
   go_wp2_with fail
   refine(HXO.out.2 wr).mono ?_
   rintro e w2 ⟨rfl,hb⟩
   have HB2:=hid (HBR.out.trans (hb.mono HBR.out.size))
   have HV2:=hid (aI HV.out hb)
   clear hb kx
   generalize ofL (bD x)=X at*
   have E8:Below w2.heap.size w2 (w2.alloc (.cells #[.string X] 9)):=(Below.refl _ _).alloc (Nat.le_refl _) _
   have HB3:=hid (HB2.out.trans (E8.mono HB2.out.size))
   have HV3:=hid (aI HV2.out E8)
   have w_:=hid (show Reads (w2.alloc (.cells #[.string X] 9)) (w2.heap.size+1) 1 (some ⟨w2.heap.size,0,none⟩) ([X]:List ByteArray).length (h_ [X])from dI w2 9 [.string X] 1 1 rfl)
   have HLN:=hid (show M.length+([X]:List ByteArray).length≤8796093022207 from by have:=HKL.out;simp only[List.length_cons,List.length_nil];omega)
   clear E8
   go_wp2_with(at_builtin;refine oQ (.tmp 14) (.tmp 18) rfl rfl w.heap.size _ _ rfl HV3.out (w2.heap.size+1) _ 1 [X] rfl w_.out HLN.out HB3.out.size ?_;intro v4 w4 hown hgr hor;have HV4:=hid hown;have HB4:=hid (HB3.out.grown hgr HB3.out.size (fun g hg=>dH HV3.out g hg));clear hown hgr hor)
   go_roundw
   case rel=>
    refine⟨k+1,by omega,by go_num, ?_,HB4.out⟩
    rw[HNX.out]
    exact HV4.out
   case measure=>simp[intOf];omega
  ·have hkl:k=l.length:=by omega
   subst hkl
   rw[List.take_length]at HV
   have HV0:=hid (show wr.ownsRow w.heap.size 9 1 _ l.length (h_ (l.map (fun s=>ofL (bD s))))from by have h:=HV.out;rw[List.length_map]at h;exact h)
   clear HV
   have HMM:=hid (show ofL (91::(iJ (l.map bD)++[93]))=⟨#[91]⟩++ofL (iJ ((l.map (fun s=>ofL (bD s))).map (·.data.toList)))++⟨#[93]⟩from by
    rw[List.map_map,show((fun x:ByteArray=>x.data.toList)∘(fun s=>ofL (bD s)))=bD from by funext y;simp[ofL]]
    apply ByteArray.ext
    rw[←Array.toList_inj]
    simp[ofL,ByteArray.data_append])
   have HJS:=hid (show((l.map (fun s=>ofL (bD s))).length≤16)from by rw[List.length_map];exact h16)
   have HJL:=hid (show∀y∈l.map (fun s=>ofL (bD s)),y.size≤67108866 from fun y hy=>by
    obtain⟨x,hx,rfl⟩:=List.mem_map.1 hy
    exact HWL.out x hx)
   have HJC:=hid (qI _ _ _ wr (show wr.ownsRow w.heap.size 9 1 _ (l.map (fun s=>ofL (bD s))).length (h_ (l.map (fun s=>ofL (bD s))))from by rw[List.length_map];exact HV0.out) HJS.out HJL.out)
   have hjs:(ofL (iJ ((l.map (fun s=>ofL (bD s))).map (·.data.toList)))).size≤1073741872:=by
    rw[dU]
    have h:=nN ((l.map (fun s=>ofL (bD s))).map (·.data.toList)) 67108866 (by
     intro x hx
     obtain⟨y,hy,rfl⟩:=List.mem_map.1 hx
     have h1:=HJL.out y hy
     have h2:y.data.toList.length=y.size:=Array.length_toList ..
     omega)
    rw[List.length_map]at h
    have h3:(l.map (fun s=>ofL (bD s))).length*(67108866+1)≤16*(67108866+1):=Nat.mul_le_mul_right _ HJS.out
    omega
   generalize ofL (iJ ((l.map (fun s=>ofL (bD s))).map (·.data.toList)))=J at*
   obtain⟨K1,hK1⟩:∃K1,K1=⟨#[91]⟩++J:=⟨_,rfl⟩
   obtain⟨K2,hK2⟩:∃K2,K2=K1++⟨#[93]⟩:=⟨_,rfl⟩
   have ha1:∀w,(Op.stringOp .add ⟨#[91]⟩ J).run Tryz.prog w= .ok (.string K1) w:=fun w=>by
    rw[hK1]
    exact run_string_add_sum w _ _ (by show 1+J.size≤_;omega)
   have ha2:∀w,(Op.stringOp .add K1 ⟨#[93]⟩).run Tryz.prog w= .ok (.string K2) w:=fun w=>by
    rw[hK2]
    exact run_string_add_sum w _ _ (by rw[hK1,ByteArray.size_append];show 1+J.size+1≤_;omega)
   have HKK:=hid (show ofL (91::(iJ (l.map bD)++[93]))=K2 from by rw[HMM.out,hK2,hK1])
   clear hjs hK1 hK2 HMM
   have hv:=HV0.out
   obtain⟨A0,cap,rfl,hc0,hm0⟩:=aJ hv
   clear hv
   go_wp2_with fail
   refine HJC.out.mono ?_
   rintro e w3 ⟨rfl,hb⟩
   have HB3:=hid (HBR.out.trans (hb.mono HBR.out.size))
   clear hb
   go_wp2_with fail
   go_ret
   rw[HKK.out]
   exact⟨rfl,HB3.out⟩
theorem Bf(a b:List UInt8):ofL a++ofL b=ofL (a++b):=by
 apply ByteArray.ext
 rw[←Array.toList_inj]
 simp[ofL,ByteArray.data_append]
structure Sta.prt(s:Sta):Prop where
 type:s.type<18446744073709551616
 dev:s.dev<18446744073709551616
 qid:s.qid.kind<18446744073709551616∧s.qid.vers<18446744073709551616∧s.qid.path<18446744073709551616
 mode:s.mode<18446744073709551616
 atime:s.atime<18446744073709551616
 mtime:s.mtime<18446744073709551616
 length:s.length<18446744073709551616
 name:Go.Proofs.YtkblmloobkiloaaGreatDoor.good s.name=true∧s.name.size≤16777216
 uid:Go.Proofs.YtkblmloobkiloaaGreatDoor.good s.uid=true∧s.uid.size≤16777216
 gid:Go.Proofs.YtkblmloobkiloaaGreatDoor.good s.gid=true∧s.gid.size≤16777216
 fE:Go.Proofs.YtkblmloobkiloaaGreatDoor.good s.fE=true∧s.fE.size≤16777216
end Go.Proofs.YtkblmloobkiloaaGreatDoor
namespace Go.Proofs.YtkblmloobkiloaaGreatDoor
open Go.Lib (hid)
open Go.RowKit
structure OL(w:World)(base:Nat)(m:Mg)(vn vq vd:Value):Prop where
 n:w.ownsRow base 9 1 vn m.names.length (h_ m.names)
 q:w.ownsRow base 37 3 vq m.aV.length (ng m.aV)
 d:w.ownsRow base 5 1 vd m.data.length (aX m.data)
theorem OL.off{S:Nat→Prop}{w w':World}{base:Nat}{m:Mg}{vn vq vd:Value}(h:OL w base m vn vq vd)(ho:Off S w w')(hs:∀i cur fr e,S i→(e=9∨e=37∨e=5)→w.heap[i]? ≠some (Obj.cells cur e fr)):OL w' base m vn vq vd:=
 ⟨dL ho h.n fun i cur fr hS=>hs i cur fr _ hS (.inl rfl),dL ho h.q fun i cur fr hS=>hs i cur fr _ hS (.inr (.inl rfl)),dL ho h.d fun i cur fr hS=>hs i cur fr _ hS (.inr (.inr rfl))⟩
theorem RdS.noT{w:World}{p:Nat}{bv:Value}{l:List UInt8}{st:Option (List UInt8)}{e:TypeId}(h:RdS w p bv l st)(he:129≠e):∀g cur fr,g=p→w.heap[g]? ≠some (Obj.cells cur e fr):=by
 obtain⟨_,_,h,_⟩:=h
 obtain⟨_,_,hb⟩:=h.blk
 exact hb.noT he
theorem OL.rd{w w':World}{p base:Nat}{m:Mg}{vn vq vd bv:Value}{l:List UInt8}{st:Option (List UInt8)}(h:OL w base m vn vq vd)(hr:RdS w p bv l st)(ho:jF p w w'):OL w' base m vn vq vd:=
 h.off ho fun i cur fr e hS he=>by
  rcases he with rfl|rfl|rfl<;>exact hr.noT (by decide) i cur fr hS
theorem OL.qp{w w':World}{q base:Nat}{m m2:Mg}{vn vq vd xn xq xd:Value}(h:OL w base m vn vq vd)(hm:aK w q m2 xn xq xd)(ho:Off (fun i=>i=q) w w'):OL w' base m vn vq vd:=
 h.off ho fun i cur fr e hS he=>by
  rcases he with rfl|rfl|rfl<;>exact Blk.noT hm (by decide) i cur fr hS
theorem OL.below{w w':World}{base:Nat}{m:Mg}{vn vq vd:Value}(h:OL w base m vn vq vd)(hb:Below w.heap.size w w'):OL w' base m vn vq vd:=⟨aI h.n hb,aI h.q hb,aI h.d hb⟩
theorem RdS.ne{w:World}{p q:Nat}{bv:Value}{l:List UInt8}{st:Option (List UInt8)}{t:TypeId}{cs:Array Value}(h:RdS w p bv l st)(hm:Blk w q t cs)(ht:129≠t):p≠q:=fun e=>h.noT ht q _ _ e.symm hm
def gY(p q base:Nat)(bv:Value)(l:List UInt8)(m:Mg)(st:Option (List UInt8))(w:World)(w':World):Prop:=
 RdS w' p bv l st∧(∃vn vq vd,aK w' q m vn vq vd∧OL w' base m vn vq vd)∧Off (fun i=>i=p∨i=q) w w'
theorem gY.end_{w w1 w':World}{p q base:Nat}{bv vn vq vd xn xq xd:Value}{l:List UInt8}{m m':Mg}{st:Option (List UInt8)}(h:RdS w1 p bv l st)(hm:aK w1 q m vn vq vd)(ho:OL w1 base m' xn xq xd)(h1:jF p w w1)(hb:aK w' q m' xn xq xd)(hoff:Off (fun i=>i=q) w1 w'):gY p q base bv l m' st w w':=
 ⟨h.off hoff (h.ne hm (by decide)) (dZ hm (by decide)),⟨xn,xq,xd,hb,ho.qp hm hoff⟩,(h1.mono fun _ _ h=> .inl h).trans (hoff.mono fun _ _ h=> .inr h)⟩
theorem aK.aW{w:World}{q:Nat}{m m':Mg}{vn vq vd xn xq xd:Value}(hm:aK w q m vn vq vd)(i:Nat)(v:Value)(e:(aF m vn vq vd).toArray.setIfInBounds i v=(aF m' xn xq xd).toArray):aK (w.setCell ⟨q,i,none⟩ v) q m' xn xq xd:=by
 have h:=Blk.aW hm i v
 rw[e]at h
 exact h
theorem bM(w:World)(q i:Nat)(v:Value):Off (fun k=>k=q) w (w.setCell ⟨q,i,none⟩ v):=(Off.refl (fun k=>k=q) w).setCell (p:=⟨q,i,none⟩) (show q=q from rfl) v
theorem zx(m:Mg)(n:Nat)(vn vq vd:Value):(aF m vn vq vd).toArray.setIfInBounds 2 (.int .u32 (n:Int))=(aF (m.aG n .bI) vn vq vd).toArray:=by kernel_rfl
theorem uj(m:Mg)(s:ByteArray)(vn vq vd:Value):(aF m vn vq vd).toArray.setIfInBounds 3 (.string s)=(aF (m.bV s .version) vn vq vd).toArray:=by kernel_rfl
theorem Dn(m:Mg)(n:Nat)(vn vq vd:Value):(aF m vn vq vd).toArray.setIfInBounds 4 (.int .u32 (n:Int))=(aF (m.aG n .dB) vn vq vd).toArray:=by kernel_rfl
theorem zy(m:Mg)(s:ByteArray)(vn vq vd:Value):(aF m vn vq vd).toArray.setIfInBounds 5 (.string s)=(aF (m.bV s .uname) vn vq vd).toArray:=by kernel_rfl
theorem zA(m:Mg)(s:ByteArray)(vn vq vd:Value):(aF m vn vq vd).toArray.setIfInBounds 6 (.string s)=(aF (m.bV s .bF) vn vq vd).toArray:=by kernel_rfl
theorem zB(m:Mg)(s:ByteArray)(vn vq vd:Value):(aF m vn vq vd).toArray.setIfInBounds 7 (.string s)=(aF (m.bV s .bH) vn vq vd).toArray:=by kernel_rfl
theorem xg(m:Mg)(n:Nat)(vn vq vd:Value):(aF m vn vq vd).toArray.setIfInBounds 8 (.int .u16 (n:Int))=(aF (m.aG n .aT) vn vq vd).toArray:=by kernel_rfl
theorem GR(m:Mg)(n:Nat)(vn vq vd:Value):(aF m vn vq vd).toArray.setIfInBounds 9 (.int .u32 (n:Int))=(aF (m.aG n .fid) vn vq vd).toArray:=by kernel_rfl
theorem xk(m:Mg)(n:Nat)(vn vq vd:Value):(aF m vn vq vd).toArray.setIfInBounds 10 (.int .u32 (n:Int))=(aF (m.aG n .aU) vn vq vd).toArray:=by kernel_rfl
theorem Dp(m:Mg)(n:Nat)(vn vq vd:Value):(aF m vn vq vd).toArray.setIfInBounds 16 (.int .u8 (n:Int))=(aF (m.aG n .mode) vn vq vd).toArray:=by kernel_rfl
theorem xu(m:Mg)(n:Nat)(vn vq vd:Value):(aF m vn vq vd).toArray.setIfInBounds 17 (.int .u32 (n:Int))=(aF (m.aG n .aQ) vn vq vd).toArray:=by kernel_rfl
theorem Dq(m:Mg)(s:ByteArray)(vn vq vd:Value):(aF m vn vq vd).toArray.setIfInBounds 18 (.string s)=(aF (m.bV s .name) vn vq vd).toArray:=by kernel_rfl
theorem set_perm(m:Mg)(n:Nat)(vn vq vd:Value):(aF m vn vq vd).toArray.setIfInBounds 19 (.int .u32 (n:Int))=(aF (m.aG n .perm) vn vq vd).toArray:=by kernel_rfl
theorem xw(m:Mg)(n:Nat)(vn vq vd:Value):(aF m vn vq vd).toArray.setIfInBounds 20 (.int .u64 (n:Int))=(aF (m.aG n .offset) vn vq vd).toArray:=by kernel_rfl
theorem zC(m:Mg)(n:Nat)(vn vq vd:Value):(aF m vn vq vd).toArray.setIfInBounds 21 (.int .u32 (n:Int))=(aF (m.aG n .count) vn vq vd).toArray:=by kernel_rfl
theorem sZ(m:Mg)(x:List ByteArray)(vn vq vd v:Value):(aF m vn vq vd).toArray.setIfInBounds 11 v=(aF {m with names:=x} v vq vd).toArray:=by kernel_rfl
theorem xA(m:Mg)(x:List Qd)(vn vq vd v:Value):(aF m vn vq vd).toArray.setIfInBounds 12 v=(aF {m with aV:=x} vn v vd).toArray:=by kernel_rfl
theorem xB(m:Mg)(x:List UInt8)(vn vq vd v:Value):(aF m vn vq vd).toArray.setIfInBounds 22 v=(aF {m with data:=x} vn vq v).toArray:=by kernel_rfl
theorem Bh(m:Mg)(x:Qd)(vn vq vd:Value):(((aF m vn vq vd).toArray.setIfInBounds 13 (.int .u8 (x.kind:Int))).setIfInBounds 14 (.int .u32 (x.vers:Int))).setIfInBounds 15 (.int .u64 (x.path:Int))=(aF {m with qid:=x} vn vq vd).toArray:=by kernel_rfl
theorem qc(m:Mg)(x:Sta)(vn vq vd:Value):over (aF m vn vq vd).toArray 23 (stL x)=(aF {m with stat:=x} vn vq vd).toArray:=by kernel_rfl
theorem uY(s:Sta):(stL s).toArray.all (·.oneCell')=true:=lJ ..
theorem je{w:World}{p q b o K:Nat}{bv old:Value}{l:List UInt8}{st:Option (List UInt8)}(hent:∀args w,Sem.run Tryz.prog (callFunc K args) w= .ok (.enter K args) w)(hat:∀w,Calls Tryz.prog K #[.pointer (some ⟨q,0,none⟩)] w fun e w'=>e= .returned (.pointer (some ⟨q,o,none⟩))∧w=w')(hc:Blk w b 135 #[fv K #[]])(hk:∀w',jF p w w'→w'.cell? ⟨q,o,none⟩=some old∧w'.frozen? ⟨q,o,none⟩=false)(h:RdS w p bv l st):
  Calls Tryz.prog 128 #[.pointer (some ⟨p,0,none⟩),.pointer (some ⟨q,0,none⟩),.pointer (some ⟨b,0,none⟩)] w fun e w'=>e= .returned (.tuple #[])∧∃w1,RdS w1 p bv l (dF 4 st).2∧jF p w w1∧w'=w1.setCell ⟨q,o,none⟩ (.int .u32 ((dF 4 st).1:Int)):=by
 have HAT:=hid (hat w)
 have HP:=hid (iZ h)
 have HK:=hid hk
 have kb:w.cell? ⟨b,0,none⟩=_:=hc.cell 0
 clear hat hc h hk
 go_enter Tryz.func128,Tryz.ntmps128
 go_wp2_with fail
 refine HAT.out.mono ?_
 rintro e w' ⟨rfl,rfl⟩
 go_wp2_with fail
 refine HP.out.mono ?_
 rintro e w1 ⟨rfl,hs,hb⟩
 have HS:=hid (And.intro hs hb)
 obtain⟨k0,z0⟩:=HK.out w1 hb
 clear hs hb
 go_wp2_with fail
 go_end0
 exact⟨rfl,w1,HS.out.1,HS.out.2,rfl⟩
theorem lD{w:World}{p q b o K:Nat}{bv old:Value}{l:List UInt8}{st:Option (List UInt8)}(hr:Ready w)(h8:8≤p)(hent:∀args w,Sem.run Tryz.prog (callFunc K args) w= .ok (.enter K args) w)(hat:∀w,Calls Tryz.prog K #[.pointer (some ⟨q,0,none⟩)] w fun e w'=>e= .returned (.pointer (some ⟨q,o,none⟩))∧w=w')(hc:Blk w b 138 #[fv K #[]])(hk:∀w',jF p w w'→w'.cell? ⟨q,o,none⟩=some old∧w'.frozen? ⟨q,o,none⟩=false)(h:RdS w p bv l st):
  Calls Tryz.prog 136 #[.pointer (some ⟨p,0,none⟩),.pointer (some ⟨q,0,none⟩),.pointer (some ⟨b,0,none⟩)] w fun e w'=>e= .returned (.tuple #[])∧∃w1,RdS w1 p bv l (bJ st).2∧jF p w w1∧w'=w1.setCell ⟨q,o,none⟩ (.string (bJ st).1):=by
 have HAT:=hid (hat w)
 have HP:=hid (jT hr h8 h)
 have HK:=hid hk
 have kb:w.cell? ⟨b,0,none⟩=_:=hc.cell 0
 clear hat hc h hr h8 hk
 go_enter Tryz.func136,Tryz.ntmps136
 go_wp2_with fail
 refine HAT.out.mono ?_
 rintro e w' ⟨rfl,rfl⟩
 go_wp2_with fail
 refine HP.out.mono ?_
 rintro e w1 ⟨rfl,hs,hb⟩
 have HS:=hid (And.intro hs hb)
 obtain⟨k0,z0⟩:=HK.out w1 hb
 clear hs hb
 go_wp2_with fail
 go_end0
 exact⟨rfl,w1,HS.out.1,HS.out.2,rfl⟩
theorem Dt{w:World}{p q base:Nat}{m:Mg}{bv vn vq vd:Value}{l:List UInt8}{st:Option (List UInt8)}(hm:aK w q m vn vq vd)(ho:OL w base m vn vq vd)(h:RdS w p bv l st):
  Calls Tryz.prog 144 #[.pointer (some ⟨p,0,none⟩),.pointer (some ⟨q,0,none⟩)] w fun e w'=>e= .returned (.tuple #[])∧gY p q base bv l (fJ m st .aT).1 (fJ m st .aT).2 w w':=by
 have HP:=hid (kE h)
 have HNE:=hid (h.ne hm (by decide))
 have HM:=hid hm
 have HOL:=hid (And.intro ho h)
 clear hm ho h
 go_enter Tryz.func144,Tryz.ntmps144
 go_wp2_with fail
 refine HP.out.mono ?_
 rintro e w1 ⟨rfl,hs,hb⟩
 have HM1:=hid (hb.blk HM.out (fun h=>HNE.out h.symm))
 have gV:=hid (HOL.out.1.rd HOL.out.2 hb)
 have HS:=hid (And.intro hs hb)
 have k0:w1.cell? ⟨q,8,none⟩=some (.int .u16 (m.aT:Int)):=Blk.cell HM1.out 8
 have z0:w1.frozen? ⟨q,8,none⟩=false:=Blk.frozen HM1.out 8
 clear hs hb
 go_wp2_with fail
 go_end0
 exact⟨rfl,gY.end_ HS.out.1 HM1.out ⟨gV.out.n,gV.out.q,gV.out.d⟩ HS.out.2 (aK.aW HM1.out _ _ (xg ..)) (bM ..)⟩
theorem I4{w:World}{p q base:Nat}{m:Mg}{bv vn vq vd:Value}{l:List UInt8}{st:Option (List UInt8)}(hm:aK w q m vn vq vd)(ho:OL w base m vn vq vd)(h:RdS w p bv l st):
  Calls Tryz.prog 149 #[.pointer (some ⟨p,0,none⟩),.pointer (some ⟨q,0,none⟩)] w fun e w'=>e= .returned (.tuple #[])∧gY p q base bv l (fJ m st .mode).1 (fJ m st .mode).2 w w':=by
 have HP:=hid (qU h)
 have HNE:=hid (h.ne hm (by decide))
 have HM:=hid hm
 have HOL:=hid (And.intro ho h)
 clear hm ho h
 go_enter Tryz.func149,Tryz.ntmps149
 go_wp2_with fail
 refine HP.out.mono ?_
 rintro e w1 ⟨rfl,hs,hb⟩
 have HM1:=hid (hb.blk HM.out (fun h=>HNE.out h.symm))
 have gV:=hid (HOL.out.1.rd HOL.out.2 hb)
 have HS:=hid (And.intro hs hb)
 have k0:w1.cell? ⟨q,16,none⟩=some (.int .u8 (m.mode:Int)):=Blk.cell HM1.out 16
 have z0:w1.frozen? ⟨q,16,none⟩=false:=Blk.frozen HM1.out 16
 clear hs hb
 go_wp2_with fail
 go_end0
 exact⟨rfl,gY.end_ HS.out.1 HM1.out ⟨gV.out.n,gV.out.q,gV.out.d⟩ HS.out.2 (aK.aW HM1.out _ _ (Dp ..)) (bM ..)⟩
theorem Du{w:World}{p q base:Nat}{m:Mg}{bv vn vq vd:Value}{l:List UInt8}{st:Option (List UInt8)}(hm:aK w q m vn vq vd)(ho:OL w base m vn vq vd)(h:RdS w p bv l st):
  Calls Tryz.prog 155 #[.pointer (some ⟨p,0,none⟩),.pointer (some ⟨q,0,none⟩)] w fun e w'=>e= .returned (.tuple #[])∧gY p q base bv l (fJ m st .offset).1 (fJ m st .offset).2 w w':=by
 have HP:=hid (pG h)
 have HNE:=hid (h.ne hm (by decide))
 have HM:=hid hm
 have HOL:=hid (And.intro ho h)
 clear hm ho h
 go_enter Tryz.func155,Tryz.ntmps155
 go_wp2_with fail
 refine HP.out.mono ?_
 rintro e w1 ⟨rfl,hs,hb⟩
 have HM1:=hid (hb.blk HM.out (fun h=>HNE.out h.symm))
 have gV:=hid (HOL.out.1.rd HOL.out.2 hb)
 have HS:=hid (And.intro hs hb)
 have k0:w1.cell? ⟨q,20,none⟩=some (.int .u64 (m.offset:Int)):=Blk.cell HM1.out 20
 have z0:w1.frozen? ⟨q,20,none⟩=false:=Blk.frozen HM1.out 20
 clear hs hb
 go_wp2_with fail
 go_end0
 exact⟨rfl,gY.end_ HS.out.1 HM1.out ⟨gV.out.n,gV.out.q,gV.out.d⟩ HS.out.2 (aK.aW HM1.out _ _ (xw ..)) (bM ..)⟩
theorem I5{w:World}{p q base:Nat}{m:Mg}{bv vn vq vd:Value}{l:List UInt8}{st:Option (List UInt8)}(hm:aK w q m vn vq vd)(ho:OL w base m vn vq vd)(hbase:base≤w.heap.size)(h:RdS w p bv l st):
  Calls Tryz.prog 162 #[.pointer (some ⟨p,0,none⟩),.pointer (some ⟨q,0,none⟩)] w fun e w'=>e= .returned (.tuple #[])∧gY p q base bv l (fJ m st .data).1 (fJ m st .data).2 w w':=by
 have HP:=hid (iZ h)
 have HNE:=hid (h.ne hm (by decide))
 have HM:=hid hm
 have HOL:=hid (And.intro ho h)
 have HBA:=hid hbase
 clear hm ho h hbase
 have hAl:(dF 4 st).1<4294967296:=uX 4 st
 have hw:wrap64 ((dF 4 st).1:Int)=((dF 4 st).1:Int):=IntWalk.wrap64_in _ (by omega)
 go_enter Tryz.func162,Tryz.ntmps162
 go_wp2_with fail
 refine HP.out.mono ?_
 rintro e w1 ⟨rfl,hs,hb⟩
 have HM1:=hid (hb.blk HM.out (fun h=>HNE.out h.symm))
 have gV:=hid (HOL.out.1.rd HOL.out.2 hb)
 have HS:=hid (And.intro hs hb)
 clear hs hb
 go_wp2_with fail
 refine(C9 (dF 4 st).1 HS.out.1).mono ?_
 rintro e w2 ⟨⟨v,rfl,hv⟩,hs,hb⟩
 have HM2:=hid (hb.blk HM1.out (fun h=>HNE.out h.symm))
 have lN:=hid (gV.out.rd HS.out.1 hb)
 have HV:=hid (iw hv (Nat.le_trans HBA.out HS.out.2.size))
 have HS2:=hid (And.intro hs (HS.out.2.trans hb))
 have k0:w2.cell? ⟨q,22,none⟩=some vd:=Blk.cell HM2.out 22
 have z0:w2.frozen? ⟨q,22,none⟩=false:=Blk.frozen HM2.out 22
 obtain⟨A,cap,rfl,hc,hmx⟩:=aJ hv
 clear hs hb hv hc hmx hw hAl
 go_wp2_with fail
 go_end0
 exact⟨rfl,gY.end_ (m':= {m with data:=(dn (dF 4 st).2 (dF 4 st).1).1}) HS2.out.1 HM2.out ⟨lN.out.n,lN.out.q,HV.out⟩ HS2.out.2 (aK.aW HM2.out _ _ (xB ..)) (bM ..)⟩
theorem Lp{w:World}{p q base:Nat}{m:Mg}{bv vn vq vd:Value}{l:List UInt8}{st:Option (List UInt8)}(hm:aK w q m vn vq vd)(ho:OL w base m vn vq vd)(h:RdS w p bv l st):
  Calls Tryz.prog 172 #[.pointer (some ⟨p,0,none⟩),.pointer (some ⟨q,0,none⟩)] w fun e w'=>e= .returned (.tuple #[])∧gY p q base bv l (fJ m st .qid).1 (fJ m st .qid).2 w w':=by
 have HP:=hid (ny h)
 have HNE:=hid (h.ne hm (by decide))
 have HM:=hid hm
 have HOL:=hid (And.intro ho h)
 clear hm ho h
 go_enter Tryz.func172,Tryz.ntmps172
 go_wp2_with fail
 refine HP.out.mono ?_
 rintro e w1 ⟨rfl,hs,hb⟩
 have HM1:=hid (hb.blk HM.out (fun h=>HNE.out h.symm))
 have gV:=hid (HOL.out.1.rd HOL.out.2 hb)
 have HS:=hid (And.intro hs hb)
 have k0:w1.cell? ⟨q,13,none⟩=some (.int .u8 (m.qid.kind:Int)):=Blk.cell HM1.out 13
 have k1:w1.cell? ⟨q,14,none⟩=some (.int .u32 (m.qid.vers:Int)):=Blk.cell HM1.out 14
 have k2:w1.cell? ⟨q,15,none⟩=some (.int .u64 (m.qid.path:Int)):=Blk.cell HM1.out 15
 have z0:w1.frozen? ⟨q,13,none⟩=false:=Blk.frozen HM1.out 13
 have z1:w1.frozen? ⟨q,14,none⟩=false:=Blk.frozen HM1.out 14
 have z2:w1.frozen? ⟨q,15,none⟩=false:=Blk.frozen HM1.out 15
 clear hs hb
 go_wp2_with fail
 go_end0
 refine⟨rfl,gY.end_ HS.out.1 HM1.out (m':= {m with qid:=(iU st).1}) ⟨gV.out.n,gV.out.q,gV.out.d⟩ HS.out.2 ?_ (((bM w1 q 13 _).trans (bM _ q 14 _)).trans (bM _ q 15 _))⟩
 have h:=((Blk.aW HM1.out 13 (.int .u8 ((iU st).1.kind:Int))).aW 14 (.int .u32 ((iU st).1.vers:Int))).aW 15 (.int .u64 ((iU st).1.path:Int))
 rw[Bh]at h
 exact h
theorem E_{w:World}{p q base:Nat}{m:Mg}{bv vn vq vd:Value}{l:List UInt8}{st:Option (List UInt8)}(hr:Ready w)(h8:8≤p)(hm:aK w q m vn vq vd)(ho:OL w base m vn vq vd)(hbase:base≤w.heap.size)(h:RdS w p bv l st):
  Calls Tryz.prog 212 #[.pointer (some ⟨p,0,none⟩),.pointer (some ⟨q,0,none⟩)] w fun e w'=>e= .returned (.tuple #[])∧gY p q base bv l (fJ m st .names).1 (fJ m st .names).2 w w':=by
 have hmf:=iF
 have HP:=hid (uP hr h8 h)
 have HNE:=hid (h.ne hm (by decide))
 have HM:=hid hm
 have HOL:=hid (And.intro ho h)
 have HBA:=hid hbase
 clear hm ho h hbase hr h8
 go_enter Tryz.func212,Tryz.ntmps212
 go_wp2_with fail
 refine HP.out.mono ?_
 rintro e w2 ⟨⟨v,rfl,hv⟩,hs,hb⟩
 have HM2:=hid (hb.blk HM.out (fun h=>HNE.out h.symm))
 have lN:=hid (HOL.out.1.rd HOL.out.2 hb)
 have HV:=hid (iw hv HBA.out)
 have HS2:=hid (And.intro hs hb)
 have k0:w2.cell? ⟨q,11,none⟩=some vn:=Blk.cell HM2.out 11
 have z0:w2.frozen? ⟨q,11,none⟩=false:=Blk.frozen HM2.out 11
 obtain⟨A,cap,rfl,hc,hmx⟩:=aJ hv
 clear hs hb hv hc hmx
 go_wp2_with fail
 go_end0
 exact⟨rfl,gY.end_ (m':= {m with names:=(jC bJ st).1}) HS2.out.1 HM2.out ⟨HV.out,lN.out.q,lN.out.d⟩ HS2.out.2 (aK.aW HM2.out _ _ (sZ ..)) (bM ..)⟩
theorem I7{w:World}{p q base:Nat}{m:Mg}{bv vn vq vd:Value}{l:List UInt8}{st:Option (List UInt8)}(hm:aK w q m vn vq vd)(ho:OL w base m vn vq vd)(hbase:base≤w.heap.size)(h:RdS w p bv l st):
  Calls Tryz.prog 224 #[.pointer (some ⟨p,0,none⟩),.pointer (some ⟨q,0,none⟩)] w fun e w'=>e= .returned (.tuple #[])∧gY p q base bv l (fJ m st .aV).1 (fJ m st .aV).2 w w':=by
 have hmf:=iF
 have HNE:=hid (h.ne hm (by decide))
 have hup:Below w.heap.size w (w.alloc (.cells #[.pointer (some ⟨p,0,none⟩)] 72)):=(Below.refl _ _).alloc (Nat.le_refl _) _
 have HM:=hid (Blk.below hm hup (Blk.lt hm))
 have HOL:=hid (And.intro (ho.below hup) (h.below hup))
 have HBA:=hid (Nat.le_trans hbase hup.size)
 have HO:=hid (Off.of_below (S:=fun i=>i=p) hup)
 have HC:=hid (Blk.new w 72 #[.pointer (some ⟨p,0,none⟩)])
 clear hm ho h hbase hup
 go_enter Tryz.func224,Tryz.ntmps224
 go_upto_region 1 with(fail)
 generalize w.alloc (.cells #[.pointer (some ⟨p,0,none⟩)] 72)=w0 at HM HOL HBA HO HC⊢
 generalize w.heap.size=c at HC⊢
 have kc:w0.cell? ⟨c,0,none⟩=_:=HC.out.cell 0
 go_wp2_with fail
 refine(uQ HC.out HOL.out.2).mono ?_
 rintro e w2 ⟨⟨v,rfl,hv⟩,hs,hb⟩
 have HM2:=hid (hb.blk HM.out (fun h=>HNE.out h.symm))
 have lN:=hid (HOL.out.1.rd HOL.out.2 hb)
 have HV:=hid (iw hv HBA.out)
 have HS2:=hid (And.intro hs (HO.out.trans hb))
 have k0:w2.cell? ⟨q,12,none⟩=some vq:=Blk.cell HM2.out 12
 have z0:w2.frozen? ⟨q,12,none⟩=false:=Blk.frozen HM2.out 12
 obtain⟨A,cap,rfl,hc,hmx⟩:=aJ hv
 clear hs hb hv hc hmx kc
 go_wp2_with fail
 go_end0
 exact⟨rfl,gY.end_ (m':= {m with aV:=(jC iU st).1}) HS2.out.1 HM2.out ⟨lN.out.n,HV.out,lN.out.d⟩ HS2.out.2 (aK.aW HM2.out _ _ (xA ..)) (bM ..)⟩
theorem I8{w:World}{p q base:Nat}{m:Mg}{bv vn vq vd:Value}{l:List UInt8}{st:Option (List UInt8)}(hr:Ready w)(h8:8≤p)(hm:aK w q m vn vq vd)(ho:OL w base m vn vq vd)(h:RdS w p bv l st):
  Calls Tryz.prog 236 #[.pointer (some ⟨p,0,none⟩),.pointer (some ⟨q,0,none⟩)] w fun e w'=>e= .returned (.tuple #[])∧gY p q base bv l (fJ m st .stat).1 (fJ m st .stat).2 w w':=by
 have HP:=hid (wZ hr h8 h)
 have HNE:=hid (h.ne hm (by decide))
 have HM:=hid hm
 have HOL:=hid (And.intro ho h)
 clear hm ho h hr h8
 go_enter Tryz.func236,Tryz.ntmps236
 go_wp2_with fail
 refine HP.out.mono ?_
 rintro e w1 ⟨rfl,hs,hb⟩
 have HM1:=hid (hb.blk HM.out (fun h=>HNE.out h.symm))
 have gV:=hid (HOL.out.1.rd HOL.out.2 hb)
 have HS:=hid (And.intro hs hb)
 clear hs hb
 go_wp2_with(refine dA HM1.out 23 (stL (stO st).1) _ (qc ..) (Nat.le_refl 36) (uY _) rfl _ _ _ rfl rfl rfl bP ?_;intro w2 hs hoo;have HMX:=hid hs;have HOX:=hid (hoo (fun i=>i=q) rfl w1 (Off.refl _ _));clear hs hoo)
 go_end0
 exact⟨rfl,gY.end_ HS.out.1 HM1.out (m':= {m with stat:=(stO st).1}) ⟨gV.out.n,gV.out.q,gV.out.d⟩ HS.out.2 HMX.out HOX.out⟩
theorem Dv(f:Fld){w:World}{p q base:Nat}{m:Mg}{bv vn vq vd:Value}{l:List UInt8}{st:Option (List UInt8)}{b:Nat}(hr:Ready w)(h8:8≤p)(hm:aK w q m vn vq vd)(ho:OL w base m vn vq vd)(hbase:base≤w.heap.size)(hc:yC w f b)(h:RdS w p bv l st):
  Calls Tryz.prog f.kt (#[.pointer (some ⟨p,0,none⟩),.pointer (some ⟨q,0,none⟩)]++f.cap b) w fun e w'=>e= .returned (.tuple #[])∧gY p q base bv l (fJ m st f).1 (fJ m st f).2 w w':=by
 have hne:=h.ne hm (by decide)
 cases f
 case bI=>
  refine(je (aS .bI rfl) (aZ .bI rfl q) (hc.2 rfl rfl) (fun w' hb=>⟨Blk.cell (hb.blk hm (fun h=>hne h.symm)) 2,Blk.frozen (hb.blk hm (fun h=>hne h.symm)) 2⟩) h).mono ?_
  rintro e w' ⟨rfl,w1,hs,hb,rfl⟩
  have hm1:aK w1 q m vn vq vd:=hb.blk hm (fun h=>hne h.symm)
  have ho1:=ho.rd h hb
  exact⟨rfl,gY.end_ hs hm1 ⟨ho1.n,ho1.q,ho1.d⟩ hb (aK.aW hm1 _ _ (zx ..)) (bM ..)⟩
 case version=>
  refine(lD hr h8 (aS .version rfl) (aZ .version rfl q) (hc.1 rfl) (fun w' hb=>⟨Blk.cell (hb.blk hm (fun h=>hne h.symm)) 3,Blk.frozen (hb.blk hm (fun h=>hne h.symm)) 3⟩) h).mono ?_
  rintro e w' ⟨rfl,w1,hs,hb,rfl⟩
  have hm1:aK w1 q m vn vq vd:=hb.blk hm (fun h=>hne h.symm)
  have ho1:=ho.rd h hb
  exact⟨rfl,gY.end_ hs hm1 ⟨ho1.n,ho1.q,ho1.d⟩ hb (aK.aW hm1 _ _ (uj ..)) (bM ..)⟩
 case dB=>
  refine(je (aS .dB rfl) (aZ .dB rfl q) (hc.2 rfl rfl) (fun w' hb=>⟨Blk.cell (hb.blk hm (fun h=>hne h.symm)) 4,Blk.frozen (hb.blk hm (fun h=>hne h.symm)) 4⟩) h).mono ?_
  rintro e w' ⟨rfl,w1,hs,hb,rfl⟩
  have hm1:aK w1 q m vn vq vd:=hb.blk hm (fun h=>hne h.symm)
  have ho1:=ho.rd h hb
  exact⟨rfl,gY.end_ hs hm1 ⟨ho1.n,ho1.q,ho1.d⟩ hb (aK.aW hm1 _ _ (Dn ..)) (bM ..)⟩
 case uname=>
  refine(lD hr h8 (aS .uname rfl) (aZ .uname rfl q) (hc.1 rfl) (fun w' hb=>⟨Blk.cell (hb.blk hm (fun h=>hne h.symm)) 5,Blk.frozen (hb.blk hm (fun h=>hne h.symm)) 5⟩) h).mono ?_
  rintro e w' ⟨rfl,w1,hs,hb,rfl⟩
  have hm1:aK w1 q m vn vq vd:=hb.blk hm (fun h=>hne h.symm)
  have ho1:=ho.rd h hb
  exact⟨rfl,gY.end_ hs hm1 ⟨ho1.n,ho1.q,ho1.d⟩ hb (aK.aW hm1 _ _ (zy ..)) (bM ..)⟩
 case bF=>
  refine(lD hr h8 (aS .bF rfl) (aZ .bF rfl q) (hc.1 rfl) (fun w' hb=>⟨Blk.cell (hb.blk hm (fun h=>hne h.symm)) 6,Blk.frozen (hb.blk hm (fun h=>hne h.symm)) 6⟩) h).mono ?_
  rintro e w' ⟨rfl,w1,hs,hb,rfl⟩
  have hm1:aK w1 q m vn vq vd:=hb.blk hm (fun h=>hne h.symm)
  have ho1:=ho.rd h hb
  exact⟨rfl,gY.end_ hs hm1 ⟨ho1.n,ho1.q,ho1.d⟩ hb (aK.aW hm1 _ _ (zA ..)) (bM ..)⟩
 case bH=>
  refine(lD hr h8 (aS .bH rfl) (aZ .bH rfl q) (hc.1 rfl) (fun w' hb=>⟨Blk.cell (hb.blk hm (fun h=>hne h.symm)) 7,Blk.frozen (hb.blk hm (fun h=>hne h.symm)) 7⟩) h).mono ?_
  rintro e w' ⟨rfl,w1,hs,hb,rfl⟩
  have hm1:aK w1 q m vn vq vd:=hb.blk hm (fun h=>hne h.symm)
  have ho1:=ho.rd h hb
  exact⟨rfl,gY.end_ hs hm1 ⟨ho1.n,ho1.q,ho1.d⟩ hb (aK.aW hm1 _ _ (zB ..)) (bM ..)⟩
 case aT=>exact Dt hm ho h
 case fid=>
  refine(je (aS .fid rfl) (aZ .fid rfl q) (hc.2 rfl rfl) (fun w' hb=>⟨Blk.cell (hb.blk hm (fun h=>hne h.symm)) 9,Blk.frozen (hb.blk hm (fun h=>hne h.symm)) 9⟩) h).mono ?_
  rintro e w' ⟨rfl,w1,hs,hb,rfl⟩
  have hm1:aK w1 q m vn vq vd:=hb.blk hm (fun h=>hne h.symm)
  have ho1:=ho.rd h hb
  exact⟨rfl,gY.end_ hs hm1 ⟨ho1.n,ho1.q,ho1.d⟩ hb (aK.aW hm1 _ _ (GR ..)) (bM ..)⟩
 case aU=>
  refine(je (aS .aU rfl) (aZ .aU rfl q) (hc.2 rfl rfl) (fun w' hb=>⟨Blk.cell (hb.blk hm (fun h=>hne h.symm)) 10,Blk.frozen (hb.blk hm (fun h=>hne h.symm)) 10⟩) h).mono ?_
  rintro e w' ⟨rfl,w1,hs,hb,rfl⟩
  have hm1:aK w1 q m vn vq vd:=hb.blk hm (fun h=>hne h.symm)
  have ho1:=ho.rd h hb
  exact⟨rfl,gY.end_ hs hm1 ⟨ho1.n,ho1.q,ho1.d⟩ hb (aK.aW hm1 _ _ (xk ..)) (bM ..)⟩
 case names=>exact E_ hr h8 hm ho hbase h
 case aV=>exact I7 hm ho hbase h
 case qid=>exact Lp hm ho h
 case mode=>exact I4 hm ho h
 case aQ=>
  refine(je (aS .aQ rfl) (aZ .aQ rfl q) (hc.2 rfl rfl) (fun w' hb=>⟨Blk.cell (hb.blk hm (fun h=>hne h.symm)) 17,Blk.frozen (hb.blk hm (fun h=>hne h.symm)) 17⟩) h).mono ?_
  rintro e w' ⟨rfl,w1,hs,hb,rfl⟩
  have hm1:aK w1 q m vn vq vd:=hb.blk hm (fun h=>hne h.symm)
  have ho1:=ho.rd h hb
  exact⟨rfl,gY.end_ hs hm1 ⟨ho1.n,ho1.q,ho1.d⟩ hb (aK.aW hm1 _ _ (xu ..)) (bM ..)⟩
 case name=>
  refine(lD hr h8 (aS .name rfl) (aZ .name rfl q) (hc.1 rfl) (fun w' hb=>⟨Blk.cell (hb.blk hm (fun h=>hne h.symm)) 18,Blk.frozen (hb.blk hm (fun h=>hne h.symm)) 18⟩) h).mono ?_
  rintro e w' ⟨rfl,w1,hs,hb,rfl⟩
  have hm1:aK w1 q m vn vq vd:=hb.blk hm (fun h=>hne h.symm)
  have ho1:=ho.rd h hb
  exact⟨rfl,gY.end_ hs hm1 ⟨ho1.n,ho1.q,ho1.d⟩ hb (aK.aW hm1 _ _ (Dq ..)) (bM ..)⟩
 case perm=>
  refine(je (aS .perm rfl) (aZ .perm rfl q) (hc.2 rfl rfl) (fun w' hb=>⟨Blk.cell (hb.blk hm (fun h=>hne h.symm)) 19,Blk.frozen (hb.blk hm (fun h=>hne h.symm)) 19⟩) h).mono ?_
  rintro e w' ⟨rfl,w1,hs,hb,rfl⟩
  have hm1:aK w1 q m vn vq vd:=hb.blk hm (fun h=>hne h.symm)
  have ho1:=ho.rd h hb
  exact⟨rfl,gY.end_ hs hm1 ⟨ho1.n,ho1.q,ho1.d⟩ hb (aK.aW hm1 _ _ (set_perm ..)) (bM ..)⟩
 case offset=>exact Du hm ho h
 case count=>
  refine(je (aS .count rfl) (aZ .count rfl q) (hc.2 rfl rfl) (fun w' hb=>⟨Blk.cell (hb.blk hm (fun h=>hne h.symm)) 21,Blk.frozen (hb.blk hm (fun h=>hne h.symm)) 21⟩) h).mono ?_
  rintro e w' ⟨rfl,w1,hs,hb,rfl⟩
  have hm1:aK w1 q m vn vq vd:=hb.blk hm (fun h=>hne h.symm)
  have ho1:=ho.rd h hb
  exact⟨rfl,gY.end_ hs hm1 ⟨ho1.n,ho1.q,ho1.d⟩ hb (aK.aW hm1 _ _ (zC ..)) (bM ..)⟩
 case data=>exact I5 hm ho hbase h
 case stat=>exact I8 hr h8 hm ho h
end Go.Proofs.YtkblmloobkiloaaGreatDoor
