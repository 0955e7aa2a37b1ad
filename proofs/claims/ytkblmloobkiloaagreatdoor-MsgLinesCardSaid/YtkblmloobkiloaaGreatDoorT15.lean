/-
  MR9 MT5: what the laws of package msg need of them.
-/
import Derived.Test.YtkblmloobkiloaaGreatDoorT00
import Derived.Test.YtkblmloobkiloaaGreatDoorT14
import Derived.Test.YtkblmloobkiloaaGreatDoorT10
import Derived.Great.BuildSlice
set_option maxRecDepth 100000
set_option maxHeartbeats 3200000
namespace Go.Proofs.YtkblmloobkiloaaGreatDoor
open Go.Lib (hid)
open Go.RowKit
theorem Blk.noT{w:World}{q:Nat}{t e:TypeId}{cs:Array Value}(h:Blk w q t cs)(ht:t≠e):∀g cur fr,g=q→w.heap[g]? ≠some (Obj.cells cur e fr):=by
 rintro g cur fr rfl hg
 unfold Blk at h
 rw[h]at hg
 injection hg with hg
 injection hg with _ hg
 exact ht hg
theorem dL{S:Nat→Prop}{w w':World}{base n size:Nat}{e:TypeId}{v:Value}{xs:List Value}(ho:Off S w w')(h:w.ownsRow base e size v n xs)(hn:∀i cur fr,S i→w.heap[i]? ≠some (Obj.cells cur e fr)):w'.ownsRow base e size v n xs:=by
 refine ho.own h fun k hk hs=> ?_
 rcases h.2 with⟨rfl, -⟩|⟨g,cap,cur,rfl,hb,hg, -⟩
 ·cases hk
 ·injection hk with hk
  have hk:g=k:=hk
  subst hk
  exact hn g cur _ hs hg
theorem bZ{w:World}{base n size:Nat}{e e':TypeId}{v:Value}{xs:List Value}(h:w.ownsRow base e size v n xs)(he:e≠e'):∀g cur fr,v.ownBlock=some g→w.heap[g]? ≠some (Obj.cells cur e' fr):=by
 intro g cur' fr hk hx
 rcases h.2 with⟨rfl, -⟩|⟨g',cap,cur,rfl,hb,hg, -⟩
 ·cases hk
 ·injection hk with hk
  have hk:g'=g:=hk
  subst hk
  rw[hg]at hx
  injection hx with hx
  injection hx with _ hx
  exact he hx
theorem Off.grown{S:Nat→Prop}{a b c:World}{row:Option Nat}(h:Off S a b)(hg:b.grownBy c row)(hr:∀g,row=some g→S g):Off S a c:=
 h.trans ⟨hg.os,hg.tape,hg.output,hg.size,fun k hk hn=>hg.block k hk fun e=>hn (hr k e.symm)⟩
theorem aI{w w':World}{base n size:Nat}{e:TypeId}{v:Value}{xs:List Value}(h:w.ownsRow base e size v n xs)(hb:Below w.heap.size w w'):w'.ownsRow base e size v n xs:=
 (Off.of_below (S:=fun _=>False) hb).own h (fun _ _ h=>h)
theorem uP{w:World}{p:Nat}{bv:Value}{l:List UInt8}{st:Option (List UInt8)}(hr:Ready w)(h8:8≤p)(h:RdS w p bv l st):
  Calls Tryz.prog 213 #[.pointer (some ⟨p,0,none⟩),.func (.func 137) #[.pointer (some ⟨p,0,none⟩)] #[]] w fun e w'=>(∃v,e= .returned v∧w'.ownsRow w.heap.size 9 1 v (jC bJ st).1.length (h_ (jC bJ st).1))∧RdS w' p bv l (jC bJ st).2∧jF p w w':=by
 have HS:=hid h
 have HRD:=hid hr
 have H8:=hid h8
 have HLT:=hid h.lt
 clear h hr h8
 go_enter Tryz.func213,Tryz.ntmps213
 go_wp2_with fail
 refine(kE HS.out).mono ?_
 rintro e w1 ⟨rfl,hs,hb⟩
 have HS1:=hid hs
 have HO1:=hid hb
 clear hs hb
 generalize hA:dF 2 st=A at*
 have hAl:A.1<65536:=by rw[←hA];exact uX 2 st
 have HA:=hid hA;clear hA
 obtain⟨n,s1⟩:=A
 have hnl:n<65536:=hAl
 have hw:wrap64 (n:Int)=(n:Int):=IntWalk.wrap64_in _ (by omega)
 clear hAl
 dsimp only at HS1
 by_cases h16:16<n
 ·have HL:=hid (show jC bJ st=([],none)from by unfold jC;rw[HA.out];dsimp only;rw[if_pos h16])
  go_wp2_with fail
  refine(ou 33 (by decide) HS1.out).mono ?_
  rintro e w2 ⟨rfl,hs,hb⟩
  have HS2:=hid hs
  have HO2:=hid (HO1.out.trans hb)
  clear hs hb
  go_wp2_with fail
  go_ret
  rw[HL.out]
  exact⟨⟨_,rfl,dS _ _ _ _⟩,HS2.out,HO2.out⟩
 ·have HL:=hid (show jC bJ st=jk bJ n s1 from by unfold jC;rw[HA.out];dsimp only;rw[if_neg h16])
  go_upto_region 5 with(fail)
  go_upto_region 7 with(fail)
  go_loopw [6,15] (fun v i wr=>∃k:Nat,k≤n∧i= .int .i64 k∧wr.ownsRow w.heap.size 9 1 v (jk bJ k s1).1.length (h_ (jk bJ k s1).1)∧RdS wr p bv l (jk bJ k s1).2∧jF p w wr) (fun _ i _=>n-(intOf i).toNat)
  case atStart=>exact⟨0,by omega,rfl,dS _ _ _ _,HS1.out,HO1.out⟩
  case round=>
   obtain⟨k,hk,rfl,hv,hs,hb⟩:=hrel
   have HV:=hid hv;clear hv
   have HSR:=hid hs;clear hs
   have HOR:=hid hb;clear hb
   have HKL:=hid (sV bJ k s1)
   have HSN:=hid (qW bJ k s1)
   by_cases hlt:k<n
   ·generalize jk bJ k s1=M at*
    have hv:=HV.out
    obtain⟨A,cap,rfl,hc,hm⟩:=aJ hv
    clear hv
    go_wp2_with fail
    refine(jT (HRD.out.low (HOR.out.below (B:=8) (fun i hi=>by have:=H8.out;omega) HRD.out.eight) (Nat.le_refl 8)) H8.out HSR.out).mono ?_
    rintro e w2 ⟨rfl,hs,hb⟩
    have HS2:=hid hs
    have HO2:=hid (HOR.out.trans hb)
    have HV2:=hid (hb.own HV.out (fun j hj hjp=>by have h1:=dH HV.out j hj;have h2:=HLT.out;omega))
    clear hs hb
    generalize bJ M.2=X at*
    have HS3:=hid (HS2.out.below ((Below.refl _ _).alloc (Nat.le_refl _) (.cells #[.string X.1] 9)))
    have HO3:=hid (HO2.out.alloc (.cells #[.string X.1] 9))
    have HV3:=hid (aI HV2.out ((Below.refl _ _).alloc (Nat.le_refl _) (.cells #[.string X.1] 9)))
    have w_:=hid (show Reads (w2.alloc (.cells #[.string X.1] 9)) (w2.heap.size+1) 1 (some ⟨w2.heap.size,0,none⟩) ([X.1]:List ByteArray).length (h_ [X.1])from dI w2 9 [.string X.1] 1 1 rfl)
    have HLN:=hid (show M.1.length+([X.1]:List ByteArray).length≤8796093022207 from by rw[HKL.out];simp only[List.length_cons,List.length_nil];omega)
    have HBS:=hid (show w.heap.size≤(w2.alloc (.cells #[.string X.1] 9)).heap.size from HO3.out.size)
    go_wp2_with(at_builtin;refine oQ (.tmp 17) (.tmp 20) rfl rfl w.heap.size _ _ rfl HV3.out (w2.heap.size+1) _ 1 [X.1] rfl w_.out HLN.out HBS.out ?_;intro v4 w4 hown hgr hor;have HV4:=hid hown;have HO4:=hid ((HO3.out.mono (S':=fun i=>i=p∨w.heap.size≤i) (fun _ _ h=> .inl h)).grown hgr (fun g hg=> .inr (dH HV3.out g hg)));have HS4:=hid (HS3.out.off ((Off.refl (fun i=>(Value.slice A M.1.length cap).ownBlock=some i) _).grown hgr (fun g hg=>hg)) (fun hp=>by have h1:=dH HV3.out p hp;have h2:=HLT.out;omega) (fun g cur fr hS=>bZ HV3.out (by decide) g cur fr hS));clear hown hgr hor)
    go_roundw
    case rel=>
     refine⟨k+1,by omega,by go_num, ?_, ?_,HO4.out.toR (Nat.le_refl _)⟩
     ·rw[HSN.out]
      exact HV4.out
     ·rw[HSN.out]
      exact HS4.out
    case measure=>simp[intOf];omega
   ·have hkn:k=n:=by omega
    subst hkn
    rw[←HL.out]at HV HSR
    have hv:=HV.out
    obtain⟨A,cap,rfl,hc,hm⟩:=aJ hv
    clear hv
    go_wp2_with fail
    go_ret
    exact⟨⟨_,rfl,HV.out⟩,HSR.out,HOR.out⟩
theorem E5{w:World}{p c:Nat}{bv:Value}{l:List UInt8}{st:Option (List UInt8)}(hc:Blk w c 72 #[.pointer (some ⟨p,0,none⟩)])(h:RdS w p bv l st):
  Calls Tryz.prog 226 #[.pointer (some ⟨c,0,none⟩)] w fun e w'=>e= .returned (qdV (iU st).1)∧RdS w' p bv l (iU st).2∧jF p w w':=by
 have HN:=hid (Blk.new w 37 #[.int .u8 0,.int .u32 0,.int .u64 0])
 have HS:=hid (h.below ((Below.refl _ _).alloc (Nat.le_refl _) (.cells #[.int .u8 0,.int .u32 0,.int .u64 0] 37)))
 have HO:=hid ((Off.refl (fun i=>i=p∨w.heap.size≤i) w).alloc (.cells #[.int .u8 0,.int .u32 0,.int .u64 0] 37))
 have HC:=hid (hc.alloc (.cells #[.int .u8 0,.int .u32 0,.int .u64 0] 37))
 have HLT:=hid h.lt
 clear h hc
 go_enter Tryz.func226,Tryz.ntmps226
 go_upto_region 1 with(fail)
 generalize w.alloc (.cells #[.int .u8 0,.int .u32 0,.int .u64 0] 37)=w0 at HS HN HO HC⊢
 generalize hz:w.heap.size=z at HN HLT HO⊢
 have HZ:=hid hz;clear hz
 have kc:w0.cell? ⟨c,0,none⟩=_:=HC.out.cell 0
 go_wp2_with fail
 refine(ny HS.out).mono ?_
 rintro e w4 ⟨rfl,hs,hb⟩
 have HS4:=hid hs
 have HN4:=hid (hb.blk HN.out (by have:=HLT.out;omega))
 have HO4:=hid (HO.out.trans hb.toN)
 clear hs hb HS HN HO HC
 clear kc
 generalize hq:iU st=R at*
 have HR:=hid hq;clear hq
 obtain⟨⟨v1,v2,v3⟩,sx⟩:=R
 dsimp only at HS4⊢
 have k0:w4.cell? ⟨z,0,none⟩=some (.int .u8 0):=HN4.out.cell 0
 have k1:w4.cell? ⟨z,1,none⟩=some (.int .u32 0):=HN4.out.cell 1
 have k2:w4.cell? ⟨z,2,none⟩=some (.int .u64 0):=HN4.out.cell 2
 have f0:w4.frozen? ⟨z,0,none⟩=false:=HN4.out.frozen 0
 have f1:w4.frozen? ⟨z,1,none⟩=false:=HN4.out.frozen 1
 have f2:w4.frozen? ⟨z,2,none⟩=false:=HN4.out.frozen 2
 have hso:=fun(S:Nat→Prop) (hS:S z)=>(((Off.refl S w4).setCell (p:=⟨z,0,none⟩) hS (.int .u8 (v1:Int))).setCell (p:=⟨z,1,none⟩) hS (.int .u32 (v2:Int))).setCell (p:=⟨z,2,none⟩) hS (.int .u64 (v3:Int))
 have HN5:=hid (show Blk (((w4.setCell ⟨z,0,none⟩ (.int .u8 (v1:Int))).setCell ⟨z,1,none⟩ (.int .u32 (v2:Int))).setCell ⟨z,2,none⟩ (.int .u64 (v3:Int))) z 37 #[.int .u8 (v1:Int),.int .u32 (v2:Int),.int .u64 (v3:Int)]from((HN4.out.aW 0 (.int .u8 (v1:Int))).aW 1 (.int .u32 (v2:Int))).aW 2 (.int .u64 (v3:Int)))
 have HO5:=hid (HO4.out.trans (hso (fun i=>i=p∨z≤i) (.inr (Nat.le_refl _))))
 have HS5:=hid (HS4.out.off (hso (fun i=>i=z) rfl) (by have:=HLT.out;omega) (dZ HN4.out (by decide)))
 clear hso
 go_wp2_with fail
 clear k0 k1 k2 f0 f1 f2
 generalize((w4.setCell ⟨z,0,none⟩ (.int .u8 (v1:Int))).setCell ⟨z,1,none⟩ (.int .u32 (v2:Int))).setCell ⟨z,2,none⟩ (.int .u64 (v3:Int))=w5 at HN5 HO5 HS5⊢
 exact bodyPost_ret (bf (l:=[.int .u8 (v1:Int),.int .u32 (v2:Int),.int .u64 (v3:Int)]) rfl Tryz.underlying37 rfl rU rfl HN5.out) rfl ⟨(by rw[HR.out]),(by rw[HR.out];exact HS5.out),HO5.out.toR (by have:=HZ.out;omega)⟩
theorem uQ{w:World}{p c:Nat}{bv:Value}{l:List UInt8}{st:Option (List UInt8)}(hc:Blk w c 72 #[.pointer (some ⟨p,0,none⟩)])(h:RdS w p bv l st):
  Calls Tryz.prog 225 #[.pointer (some ⟨p,0,none⟩),.func (.func 226) #[] #[.pointer (some ⟨c,0,none⟩)]] w fun e w'=>(∃v,e= .returned v∧w'.ownsRow w.heap.size 37 3 v (jC iU st).1.length (ng (jC iU st).1))∧RdS w' p bv l (jC iU st).2∧jF p w w':=by
 have HS:=hid h
 have HC:=hid hc
 have HLT:=hid h.lt
 have HCP:=hid (show c≠p from fun hcp=>by
  obtain⟨_,_,h,_⟩:=h
  obtain⟨_,_,hb⟩:=h.blk
  exact absurd hb (hcp▸fun hb=>by
   unfold Blk at hc hb
   rw[hc]at hb
   injection hb with hb
   injection hb with _ hb
   exact absurd hb (by decide)))
 clear h hc
 go_enter Tryz.func225,Tryz.ntmps225
 go_wp2_with fail
 refine(kE HS.out).mono ?_
 rintro e w1 ⟨rfl,hs,hb⟩
 have HS1:=hid hs
 have HO1:=hid hb
 clear hs hb
 generalize hA:dF 2 st=A at*
 have hAl:A.1<65536:=by rw[←hA];exact uX 2 st
 have HA:=hid hA;clear hA
 obtain⟨n,s1⟩:=A
 have hnl:n<65536:=hAl
 have hw:wrap64 (n:Int)=(n:Int):=IntWalk.wrap64_in _ (by omega)
 clear hAl
 dsimp only at HS1
 by_cases h16:16<n
 ·have HL:=hid (show jC iU st=([],none)from by unfold jC;rw[HA.out];dsimp only;rw[if_pos h16])
  go_wp2_with fail
  refine(ou 33 (by decide) HS1.out).mono ?_
  rintro e w2 ⟨rfl,hs,hb⟩
  have HS2:=hid hs
  have HO2:=hid (HO1.out.trans hb)
  clear hs hb
  go_wp2_with fail
  go_ret
  rw[HL.out]
  exact⟨⟨_,rfl,dS _ _ _ _⟩,HS2.out,HO2.out⟩
 ·have HL:=hid (show jC iU st=jk iU n s1 from by unfold jC;rw[HA.out];dsimp only;rw[if_neg h16])
  go_upto_region 5 with(fail)
  go_upto_region 7 with(fail)
  go_loopw [6,15] (fun v i wr=>∃k:Nat,k≤n∧i= .int .i64 k∧wr.ownsRow w.heap.size 37 3 v (jk iU k s1).1.length (ng (jk iU k s1).1)∧RdS wr p bv l (jk iU k s1).2∧jF p w wr) (fun _ i _=>n-(intOf i).toNat)
  case atStart=>exact⟨0,by omega,rfl,dS _ _ _ _,HS1.out,HO1.out⟩
  case round=>
   obtain⟨k,hk,rfl,hv,hs,hb⟩:=hrel
   have HV:=hid hv;clear hv
   have HSR:=hid hs;clear hs
   have HOR:=hid hb;clear hb
   have HKL:=hid (sV iU k s1)
   have HSN:=hid (qW iU k s1)
   by_cases hlt:k<n
   ·generalize jk iU k s1=M at*
    have hv:=HV.out
    obtain⟨A,cap,rfl,hc,hm⟩:=aJ hv
    clear hv
    go_wp2_with fail
    refine(E5 (HOR.out.blk HC.out HCP.out) HSR.out).mono ?_
    rintro e w2 ⟨rfl,hs,hb⟩
    have HS2:=hid hs
    have HO2:=hid (HOR.out.trans hb)
    have HV2:=hid (hb.own HV.out (fun j hj hjp=>by have h1:=dH HV.out j hj;have h2:=HLT.out;omega))
    clear hs hb
    generalize iU M.2=X at*
    obtain⟨⟨v1,v2,v3⟩,sx⟩:=X
    dsimp only at HS2 HSN⊢
    have HS3:=hid (HS2.out.below ((Below.refl _ _).alloc (Nat.le_refl _) (.cells #[.int .u8 (v1:Int),.int .u32 (v2:Int),.int .u64 (v3:Int)] 37)))
    have HO3:=hid (HO2.out.alloc (.cells #[.int .u8 (v1:Int),.int .u32 (v2:Int),.int .u64 (v3:Int)] 37))
    have HV3:=hid (aI HV2.out ((Below.refl _ _).alloc (Nat.le_refl _) (.cells #[.int .u8 (v1:Int),.int .u32 (v2:Int),.int .u64 (v3:Int)] 37)))
    have w_:=hid (show Reads (w2.alloc (.cells #[.int .u8 (v1:Int),.int .u32 (v2:Int),.int .u64 (v3:Int)] 37)) (w2.heap.size+1) 3 (some ⟨w2.heap.size,0,none⟩) ([⟨v1,v2,v3⟩]:List Qd).length (ng [⟨v1,v2,v3⟩])from dI w2 37 [.int .u8 (v1:Int),.int .u32 (v2:Int),.int .u64 (v3:Int)] 1 3 rfl)
    have HLN:=hid (show M.1.length+([⟨v1,v2,v3⟩]:List Qd).length≤8796093022207 from by rw[HKL.out];simp only[List.length_cons,List.length_nil];omega)
    have HBS:=hid (show w.heap.size≤(w2.alloc (.cells #[.int .u8 (v1:Int),.int .u32 (v2:Int),.int .u64 (v3:Int)] 37)).heap.size from HO3.out.size)
    go_wp2_with(at_builtin;refine Ai (.tmp 17) (.tmp 20) rfl rfl w.heap.size _ _ rfl HV3.out (w2.heap.size+1) _ 1 [⟨v1,v2,v3⟩] rfl w_.out HLN.out HBS.out ?_;intro v4 w4 hown hgr hor;have HV4:=hid hown;have HO4:=hid ((HO3.out.mono (S':=fun i=>i=p∨w.heap.size≤i) (fun _ _ h=> .inl h)).grown hgr (fun g hg=> .inr (dH HV3.out g hg)));have HS4:=hid (HS3.out.off ((Off.refl (fun i=>(Value.slice A M.1.length cap).ownBlock=some i) _).grown hgr (fun g hg=>hg)) (fun hp=>by have h1:=dH HV3.out p hp;have h2:=HLT.out;omega) (fun g cur fr hS=>bZ HV3.out (by decide) g cur fr hS));clear hown hgr hor)
    go_roundw
    case rel=>
     refine⟨k+1,by omega,by go_num, ?_, ?_,HO4.out.toR (Nat.le_refl _)⟩
     ·rw[HSN.out]
      exact HV4.out
     ·rw[HSN.out]
      exact HS4.out
    case measure=>simp[intOf];omega
   ·have hkn:k=n:=by omega
    subst hkn
    rw[←HL.out]at HV HSR
    have hv:=HV.out
    obtain⟨A,cap,rfl,hc,hm⟩:=aJ hv
    clear hv
    go_wp2_with fail
    go_ret
    exact⟨⟨_,rfl,HV.out⟩,HSR.out,HOR.out⟩
open Go.Lib (decDigits)
theorem join_eq(ws:List (List UInt8)):Lib.join ws [32]=iJ ws:=by
 cases ws with
 |nil=>rfl
 |cons x r=>
  rw[Lib.join_cons]
  show x++(r.map ([32]++ ·)).flatten=x++r.flatMap fun y=>32::y
  rw[List.flatMap_def]
  rfl
theorem nN(ws:List (List UInt8))(M:Nat)(h:∀x∈ws,x.length≤M):(iJ ws).length≤ws.length*(M+1):=by
 cases ws with
 |nil=>exact Nat.zero_le _
 |cons x r=>
  have h1:=h x (List.mem_cons_self ..)
  have h2:∀r:List (List UInt8),(∀y∈r,y.length≤M)→(r.flatMap fun y=>32::y).length≤r.length*(M+1):=by
   intro r
   induction r with
   |nil=>intro _;exact Nat.zero_le _
   |cons y r ih=>
    intro hy
    have:=hy y (List.mem_cons_self ..)
    have:=ih (fun z hz=>hy z (List.mem_cons_of_mem _ hz))
    rw[List.flatMap_cons,List.length_append,List.length_cons,List.length_cons,Nat.succ_mul]
    omega
  have h3:=h2 r (fun y hy=>h y (List.mem_cons_of_mem _ hy))
  show(x++r.flatMap fun y=>32::y).length≤_
  rw[List.length_append,List.length_cons,Nat.succ_mul]
  omega
theorem kT(s:ByteArray):(bD s).length≤4*s.size+2:=by
 show(34::(s.data.toList.flatMap dw++[34])).length≤_
 have h1:=sK s.data.toList
 have h2:s.data.toList.length=s.size:=Array.length_toList ..
 rw[List.length_cons,List.length_append,List.length_cons,List.length_nil]
 omega
theorem pI(q:Qd)(h:q.kind<18446744073709551616∧q.vers<18446744073709551616∧q.path<18446744073709551616):(iG q).length≤62:=by
 have h1:=jD _ h.1
 have h2:=jD _ h.2.1
 have h3:=jD _ h.2.2
 rw[dU]at h1 h2 h3
 unfold iG
 simp only[List.length_append,List.length_cons]
 omega
theorem qI(v:Value)(ws:List ByteArray)(base:Nat)(w:World)(ho:w.ownsRow base 9 1 v ws.length (h_ ws))(h16:ws.length≤16)(hl:∀x∈ws,x.size≤67108866):
  Calls Tryz.prog 257 #[v,.string ⟨#[32]⟩] w fun e w'=>e= .returned (.string (ofL (iJ (ws.map (·.data.toList)))))∧Below w.heap.size w w':=by
 rcases ho.2 with⟨rfl,h0⟩|⟨g,cap,cur,rfl,hb,hg,hc,hm,hs,ht⟩
 ·have:ws=[]:=List.eq_nil_of_length_eq_zero h0
  subst this
  refine(Tryz.strings_Join_none none 0 ⟨#[32]⟩ w).mono ?_
  rintro e w' ⟨rfl,rfl⟩
  exact⟨rfl,Below.refl _ _⟩
 ·have hle:(iJ (ws.map (·.data.toList))).length≤140737488355328:=by
   have h:=nN (ws.map (·.data.toList)) 67108866 (by
    intro x hx
    obtain⟨y,hy,rfl⟩:=List.mem_map.1 hx
    have h1:=hl y hy
    have h2:y.data.toList.length=y.size:=Array.length_toList ..
    omega)
   rw[List.length_map]at h
   have:ws.length*(67108866+1)≤16*(67108866+1):=Nat.mul_le_mul_right _ h16
   omega
  refine(Tryz.strings_Join g 0 cap ws ⟨#[32]⟩ w (fun j x hx=> ?_) (dP hg) (by omega) hc (by rw[show(⟨#[32]⟩:ByteArray).data.toList=[32]from rfl,join_eq];exact hle)).mono ?_
  ·have h:=ho.cellAt j (by have:=(List.getElem?_eq_some_iff.1 hx).1;omega)
   rw[Nat.zero_add]
   rw[h]
   rw[List.getElem?_map,hx]
   rfl
  ·rintro e w' ⟨rfl,hb⟩
   rw[show(⟨#[32]⟩:ByteArray).data.toList=[32]from rfl,join_eq]
   exact⟨rfl,hb⟩
theorem Dk(v:Value)(l:List ByteArray)(w:World)(hl:iW w w.heap.size v l)(h16:l.length≤16)(hok:∀x∈l,good x=true∧x.size≤16777216):
  Calls Tryz.prog 217 #[v,.func (.func 140) #[] #[]] w fun e w'=>e= .returned (.string (ofL (91::(iJ (l.map bD)++[93]))))∧Below w.heap.size w w':=by
 have HL:=hid hl
 have HOK:=hid hok
 have HWL:=hid (show∀x∈l,(ofL (bD x)).size≤67108866 from fun x hx=>by
  rw[dU]
  have:=kT x;have:=(hok x hx).2;omega)
 obtain⟨A,c,rfl,hc,hm, -⟩:=hl
 clear hok
 go_enter Tryz.func217,Tryz.ntmps217
 go_upto_region 3 with(fail)
 go_loopw [5,7,10] (fun v _ i wr=>∃k:Nat,k≤l.length∧i= .int .i64 k∧wr.ownsRow w.heap.size 9 1 v ((l.take k).map (fun s=>ofL (bD s))).length (h_ ((l.take k).map (fun s=>ofL (bD s))))∧Below w.heap.size w wr) (fun _ _ i _=>l.length-(intOf i).toNat)
 case atStart=>exact⟨0,by omega,rfl,dS _ _ _ _,Below.refl _ _⟩
 case round=>
  obtain⟨k,hk,rfl,hv,hb⟩:=hrel
  have HV:=hid hv;clear hv
  have HBR:=hid hb;clear hb
  by_cases hlt:k<l.length
  ·obtain⟨x,hx⟩:∃x,l[k]? =some x:=⟨l[k],List.getElem?_eq_getElem _⟩
   obtain⟨ad,rfl,hab,kx⟩:=(HL.out.below HBR.out).at_ hx
   have HNX:=hid (show(l.take (k+1)).map (fun s=>ofL (bD s))=(l.take k).map (fun s=>ofL (bD s))++[ofL (bD x)]from by
    rw[List.take_add_one,hx,Option.toList_some,List.map_append]
    rfl)
   have HKL:=hid (show((l.take k).map (fun s=>ofL (bD s))).length≤16 from by rw[List.length_map,List.length_take];omega)
   have HXO:=hid (HOK.out x (List.mem_of_getElem? hx))
   generalize(l.take k).map (fun s=>ofL (bD s))=M at*
   have hv:=HV.out
   obtain⟨A0,cap,rfl,hc0,hm0⟩:=aJ hv
   clear hv hx hab
   go_wp2_with fail
   refine(jS x HXO.out.1 HXO.out.2 wr).mono ?_
   rintro e w2 ⟨rfl,hb⟩
   have HB2:=hid (HBR.out.trans (hb.mono HBR.out.size))
   have HV2:=hid (aI HV.out hb)
   clear hb kx
   generalize ofL (bD x)=X at*
   have E8:Below w2.heap.size w2 (w2.alloc (.cells #[.string X] 9)):=(Below.refl _ _).alloc (Nat.le_refl _) _
   have HB3:=hid (HB2.out.trans (E8.mono HB2.out.size))
   have HV3:=hid (aI HV2.out E8)
   have w_:=hid (show Reads (w2.alloc (.cells #[.string X] 9)) (w2.heap.size+1) 1 (some ⟨w2.heap.size,0,none⟩) ([X]:List ByteArray).length (h_ [X])from dI w2 9 [.string X] 1 1 rfl)
   have HLN:=hid (show M.length+([X]:List ByteArray).length≤8796093022207 from by have:=HKL.out;simp only[List.length_cons,List.length_nil];omega)
   clear E8
   go_wp2_with(at_builtin;refine oQ (.tmp 14) (.tmp 18) rfl rfl w.heap.size _ _ rfl HV3.out (w2.heap.size+1) _ 1 [X] rfl w_.out HLN.out HB3.out.size ?_;intro v4 w4 hown hgr hor;have HV4:=hid hown;have HB4:=hid (HB3.out.grown hgr HB3.out.size (fun g hg=>dH HV3.out g hg));clear hown hgr hor)
   go_roundw
   case rel=>
    refine⟨k+1,by omega,by go_num, ?_,HB4.out⟩
    rw[HNX.out]
    exact HV4.out
   case measure=>simp[intOf];omega
  ·have hkl:k=l.length:=by omega
   subst hkl
   rw[List.take_length]at HV
   have HV0:=hid (show wr.ownsRow w.heap.size 9 1 _ l.length (h_ (l.map (fun s=>ofL (bD s))))from by have h:=HV.out;rw[List.length_map]at h;exact h)
   clear HV
   have HMM:=hid (show ofL (91::(iJ (l.map bD)++[93]))=⟨#[91]⟩++ofL (iJ ((l.map (fun s=>ofL (bD s))).map (·.data.toList)))++⟨#[93]⟩from by
    rw[List.map_map,show((fun x:ByteArray=>x.data.toList)∘(fun s=>ofL (bD s)))=bD from by funext y;simp[ofL]]
    apply ByteArray.ext
    rw[←Array.toList_inj]
    simp[ofL,ByteArray.data_append])
   have HJS:=hid (show((l.map (fun s=>ofL (bD s))).length≤16)from by rw[List.length_map];exact h16)
   have HJL:=hid (show∀y∈l.map (fun s=>ofL (bD s)),y.size≤67108866 from fun y hy=>by
    obtain⟨x,hx,rfl⟩:=List.mem_map.1 hy
    exact HWL.out x hx)
   have HJC:=hid (qI _ _ _ wr (show wr.ownsRow w.heap.size 9 1 _ (l.map (fun s=>ofL (bD s))).length (h_ (l.map (fun s=>ofL (bD s))))from by rw[List.length_map];exact HV0.out) HJS.out HJL.out)
   have hjs:(ofL (iJ ((l.map (fun s=>ofL (bD s))).map (·.data.toList)))).size≤1073741872:=by
    rw[dU]
    have h:=nN ((l.map (fun s=>ofL (bD s))).map (·.data.toList)) 67108866 (by
     intro x hx
     obtain⟨y,hy,rfl⟩:=List.mem_map.1 hx
     have h1:=HJL.out y hy
     have h2:y.data.toList.length=y.size:=Array.length_toList ..
     omega)
    rw[List.length_map]at h
    have h3:(l.map (fun s=>ofL (bD s))).length*(67108866+1)≤16*(67108866+1):=Nat.mul_le_mul_right _ HJS.out
    omega
   generalize ofL (iJ ((l.map (fun s=>ofL (bD s))).map (·.data.toList)))=J at*
   obtain⟨K1,hK1⟩:∃K1,K1=⟨#[91]⟩++J:=⟨_,rfl⟩
   obtain⟨K2,hK2⟩:∃K2,K2=K1++⟨#[93]⟩:=⟨_,rfl⟩
   have ha1:∀w,(Op.stringOp .add ⟨#[91]⟩ J).run Tryz.prog w= .ok (.string K1) w:=fun w=>by
    rw[hK1]
    exact run_string_add_sum w _ _ (by show 1+J.size≤_;omega)
   have ha2:∀w,(Op.stringOp .add K1 ⟨#[93]⟩).run Tryz.prog w= .ok (.string K2) w:=fun w=>by
    rw[hK2]
    exact run_string_add_sum w _ _ (by rw[hK1,ByteArray.size_append];show 1+J.size+1≤_;omega)
   have HKK:=hid (show ofL (91::(iJ (l.map bD)++[93]))=K2 from by rw[HMM.out,hK2,hK1])
   clear hjs hK1 hK2 HMM
   have hv:=HV0.out
   obtain⟨A0,cap,rfl,hc0,hm0⟩:=aJ hv
   clear hv
   go_wp2_with fail
   refine HJC.out.mono ?_
   rintro e w3 ⟨rfl,hb⟩
   have HB3:=hid (HBR.out.trans (hb.mono HBR.out.size))
   clear hb
   go_wp2_with fail
   go_ret
   rw[HKK.out]
   exact⟨rfl,HB3.out⟩
theorem Dl(v:Value)(l:List Qd)(w:World)(hl:lX w w.heap.size v l)(h16:l.length≤16)(hok:∀x∈l,x.kind<18446744073709551616∧x.vers<18446744073709551616∧x.path<18446744073709551616)(ht:TP w)(h8:8≤w.heap.size):
  Calls Tryz.prog 230 #[v,.func (.func 176) #[] #[]] w fun e w'=>e= .returned (.string (ofL (91::(iJ (l.map iG)++[93]))))∧Below w.heap.size w w':=by
 have HL:=hid hl
 have HOK:=hid hok
 have HWL:=hid (show∀x∈l,(ofL (iG x)).size≤67108866 from fun x hx=>by
  rw[dU]
  have:=pI x (hok x hx);omega)
 have HT:=hid (And.intro ht h8)
 clear ht h8
 obtain⟨A,c,rfl,hc,hm, -⟩:=hl
 clear hok
 go_enter Tryz.func230,Tryz.ntmps230
 go_upto_region 3 with(fail)
 go_loopw [5,7,10] (fun v _ i wr=>∃k:Nat,k≤l.length∧i= .int .i64 k∧wr.ownsRow w.heap.size 9 1 v ((l.take k).map (fun s=>ofL (iG s))).length (h_ ((l.take k).map (fun s=>ofL (iG s))))∧Below w.heap.size w wr) (fun _ _ i _=>l.length-(intOf i).toNat)
 case atStart=>exact⟨0,by omega,rfl,dS _ _ _ _,Below.refl _ _⟩
 case round=>
  obtain⟨k,hk,rfl,hv,hb⟩:=hrel
  have HV:=hid hv;clear hv
  have HBR:=hid hb;clear hb
  by_cases hlt:k<l.length
  ·obtain⟨x,hx⟩:∃x,l[k]? =some x:=⟨l[k],List.getElem?_eq_getElem _⟩
   obtain⟨ad,rfl,hab,kx0,kx1,kx2⟩:=(HL.out.below HBR.out).at_ hx
   have HNX:=hid (show(l.take (k+1)).map (fun s=>ofL (iG s))=(l.take k).map (fun s=>ofL (iG s))++[ofL (iG x)]from by
    rw[List.take_add_one,hx,Option.toList_some,List.map_append]
    rfl)
   have HKL:=hid (show((l.take k).map (fun s=>ofL (iG s))).length≤16 from by rw[List.length_map,List.length_take];omega)
   have HXO:=hid (HOK.out x (List.mem_of_getElem? hx))
   generalize(l.take k).map (fun s=>ofL (iG s))=M at*
   have hv:=HV.out
   obtain⟨A0,cap,rfl,hc0,hm0⟩:=aJ hv
   clear hv hx hab
   have hwz:w.heap.size≤wr.heap.size:=HBR.out.size
   have qR:Below wr.heap.size wr (wr.alloc (.cells #[.int .u8 (x.kind:Int),.int .u32 (x.vers:Int),.int .u64 (x.path:Int)] 37)):=(Below.refl _ _).alloc (Nat.le_refl _) _
   have HBA:=hid (HBR.out.trans (qR.mono hwz))
   have HVA:=hid (aI HV.out qR)
   have HN:=hid (Blk.new wr 37 #[.int .u8 (x.kind:Int),.int .u32 (x.vers:Int),.int .u64 (x.path:Int)])
   clear qR hwz
   go_upto_region 5 with(fail)
   generalize wr.alloc (.cells #[.int .u8 (x.kind:Int),.int .u32 (x.vers:Int),.int .u64 (x.path:Int)] 37)=wa at HBA HVA HN⊢
   clear kx0 kx1 kx2
   generalize wr.heap.size=z at HN⊢
   have k0:wa.cell? ⟨z,0,none⟩=_:=HN.out.cell 0
   have k1:wa.cell? ⟨z,1,none⟩=_:=HN.out.cell 1
   have k2:wa.cell? ⟨z,2,none⟩=_:=HN.out.cell 2
   go_wp2_with fail
   refine(sW x HXO.out wa (HT.out.1.low (HBA.out.mono HT.out.2) (Nat.le_refl 8)) (Nat.le_trans HT.out.2 HBA.out.size)).mono ?_
   rintro e w2 ⟨rfl,hb⟩
   have HB2:=hid (HBA.out.trans (hb.mono HBA.out.size))
   have HV2:=hid (aI HVA.out hb)
   clear hb k0 k1 k2
   generalize ofL (iG x)=X at*
   have E8:Below w2.heap.size w2 (w2.alloc (.cells #[.string X] 9)):=(Below.refl _ _).alloc (Nat.le_refl _) _
   have HB3:=hid (HB2.out.trans (E8.mono HB2.out.size))
   have HV3:=hid (aI HV2.out E8)
   have w_:=hid (show Reads (w2.alloc (.cells #[.string X] 9)) (w2.heap.size+1) 1 (some ⟨w2.heap.size,0,none⟩) ([X]:List ByteArray).length (h_ [X])from dI w2 9 [.string X] 1 1 rfl)
   have HLN:=hid (show M.length+([X]:List ByteArray).length≤8796093022207 from by have:=HKL.out;simp only[List.length_cons,List.length_nil];omega)
   clear E8
   go_wp2_with(at_builtin;refine oQ (.tmp 14) (.tmp 18) rfl rfl w.heap.size _ _ rfl HV3.out (w2.heap.size+1) _ 1 [X] rfl w_.out HLN.out HB3.out.size ?_;intro v4 w4 hown hgr hor;have HV4:=hid hown;have HB4:=hid (HB3.out.grown hgr HB3.out.size (fun g hg=>dH HV3.out g hg));clear hown hgr hor)
   go_roundw
   case rel=>
    refine⟨k+1,by omega,by go_num, ?_,HB4.out⟩
    rw[HNX.out]
    exact HV4.out
   case measure=>simp[intOf];omega
  ·have hkl:k=l.length:=by omega
   subst hkl
   rw[List.take_length]at HV
   have HV0:=hid (show wr.ownsRow w.heap.size 9 1 _ l.length (h_ (l.map (fun s=>ofL (iG s))))from by have h:=HV.out;rw[List.length_map]at h;exact h)
   clear HV
   have HMM:=hid (show ofL (91::(iJ (l.map iG)++[93]))=⟨#[91]⟩++ofL (iJ ((l.map (fun s=>ofL (iG s))).map (·.data.toList)))++⟨#[93]⟩from by
    rw[List.map_map,show((fun x:ByteArray=>x.data.toList)∘(fun s=>ofL (iG s)))=iG from by funext y;simp[ofL]]
    apply ByteArray.ext
    rw[←Array.toList_inj]
    simp[ofL,ByteArray.data_append])
   have HJS:=hid (show((l.map (fun s=>ofL (iG s))).length≤16)from by rw[List.length_map];exact h16)
   have HJL:=hid (show∀y∈l.map (fun s=>ofL (iG s)),y.size≤67108866 from fun y hy=>by
    obtain⟨x,hx,rfl⟩:=List.mem_map.1 hy
    exact HWL.out x hx)
   have HJC:=hid (qI _ _ _ wr (show wr.ownsRow w.heap.size 9 1 _ (l.map (fun s=>ofL (iG s))).length (h_ (l.map (fun s=>ofL (iG s))))from by rw[List.length_map];exact HV0.out) HJS.out HJL.out)
   have hjs:(ofL (iJ ((l.map (fun s=>ofL (iG s))).map (·.data.toList)))).size≤1073741872:=by
    rw[dU]
    have h:=nN ((l.map (fun s=>ofL (iG s))).map (·.data.toList)) 67108866 (by
     intro x hx
     obtain⟨y,hy,rfl⟩:=List.mem_map.1 hx
     have h1:=HJL.out y hy
     have h2:y.data.toList.length=y.size:=Array.length_toList ..
     omega)
    rw[List.length_map]at h
    have h3:(l.map (fun s=>ofL (iG s))).length*(67108866+1)≤16*(67108866+1):=Nat.mul_le_mul_right _ HJS.out
    omega
   generalize ofL (iJ ((l.map (fun s=>ofL (iG s))).map (·.data.toList)))=J at*
   obtain⟨K1,hK1⟩:∃K1,K1=⟨#[91]⟩++J:=⟨_,rfl⟩
   obtain⟨K2,hK2⟩:∃K2,K2=K1++⟨#[93]⟩:=⟨_,rfl⟩
   have ha1:∀w,(Op.stringOp .add ⟨#[91]⟩ J).run Tryz.prog w= .ok (.string K1) w:=fun w=>by
    rw[hK1]
    exact run_string_add_sum w _ _ (by show 1+J.size≤_;omega)
   have ha2:∀w,(Op.stringOp .add K1 ⟨#[93]⟩).run Tryz.prog w= .ok (.string K2) w:=fun w=>by
    rw[hK2]
    exact run_string_add_sum w _ _ (by rw[hK1,ByteArray.size_append];show 1+J.size+1≤_;omega)
   have HKK:=hid (show ofL (91::(iJ (l.map iG)++[93]))=K2 from by rw[HMM.out,hK2,hK1])
   clear hjs hK1 hK2 HMM
   have hv:=HV0.out
   obtain⟨A0,cap,rfl,hc0,hm0⟩:=aJ hv
   clear hv
   go_wp2_with fail
   refine HJC.out.mono ?_
   rintro e w3 ⟨rfl,hb⟩
   have HB3:=hid (HBR.out.trans (hb.mono HBR.out.size))
   clear hb
   go_wp2_with fail
   go_ret
   rw[HKK.out]
   exact⟨rfl,HB3.out⟩
end Go.Proofs.YtkblmloobkiloaaGreatDoor
