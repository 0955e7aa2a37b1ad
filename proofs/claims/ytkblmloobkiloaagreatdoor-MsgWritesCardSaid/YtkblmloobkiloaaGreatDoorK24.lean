/-
  MBD: what the laws of package msg need of them.
-/
import Derived.Test.YtkblmloobkiloaaGreatDoorK00
import Derived.Test.YtkblmloobkiloaaGreatDoorK23
namespace Go.Proofs.YtkblmloobkiloaaGreatDoor
open Go.Lib (hid)
open Go.RowKit
theorem iV{ops:Array Oper}{op:Oper}{a:Act}{j d:Nat}{u:Value}(z:Bool)(hu:u=undef)(hg:op.guard=some (j,z))(hj:(ops[j]?).bind (·.dst)=some d)(hd:a.tmps[d]? =some u):Region.wanted op (yielded ops a.tmps)=false:=by
 subst hu
 unfold Region.wanted yielded
 rw[hg]
 simp only[hj,Option.bind_some,hd]
 cases z<;>rfl
theorem aP{ops:Array Oper}{rest:List Oper}{op:Oper}{a:Act}{w:World}{Q:Exit→Act→World→Prop}{u:Value}(d:Nat)(hu:u=undef)(hd:op.dst=some d)(hw:Region.wanted op (yielded ops a.tmps)=false)(h:wpList Tryz.prog ops Q rest (a.put (some d) u) w):wpList Tryz.prog ops Q (op::rest) a w:=wpList_skip hw (by rw[hd,←hu];exact h)
structure RS(w:World)(b base H:Nat)(vy vn vq vm:Value)(Y N Q M:List Value)(CY CN CQ:Nat→List Value):Prop where
 k:BK w w b base vy vn vq Y N Q
 y:Fam w base 5 1 Y CY
 n:Fam w base 9 1 N CN
 q:Fam w base 37 3 Q CQ
 m:w.ownsRow H 22 1 vm Y.length M
 s:lH w base H Y M CY (fun q=>List.replicate 64 (.int .u8 (101+(q:Int))))
 ay:∀q,q<Y.length→BN (CY q) (.int .u8 (1+(q:Int)))
 an:∀q,q<N.length→BN (CN q) (.string (ofL [UInt8.ofNat (97+q),97]))
 aq:∀q,q<Q.length→Ie (CQ q) (.int .u64 (1+(q:Int)))
theorem RS.new{w w':World}{b base H:Nat}{vy vn vq vm:Value}{Y N Q M:List Value}{CY CN CQ:Nat→List Value}(h:RS w b base H vy vn vq vm Y N Q M CY CN CQ)(hb:Below w.heap.size w w'):RS w' b base H vy vn vq vm Y N Q M CY CN CQ:=
 ⟨⟨Blk.below h.k.k hb (Blk.lt h.k.k),aI h.k.y hb,aI h.k.n hb,aI h.k.q hb,⟨Below.refl _ _,Off.refl _ _⟩,h.k.bb⟩,h.y.new hb,h.n.new hb,h.q.new hb,aI h.m hb,h.s.new hb,h.ay,h.an,h.aq⟩
theorem Fam.read{w:World}{base s:Nat}{e:TypeId}{vs:List Value}{C:Nat→List Value}{i n c k:Nat}{A:Option Addr}(h:Fam w base e s vs C)(hv:vs[i]? =some (.slice A n c))(hk:k<n*s):∃ad x,A=some ad∧(C i)[k]? =some x∧w.cell? (ad.add k)=some x:=by
 obtain⟨m,hr⟩:=h.own i _ hv
 have hm:m=n:=by
  rcases hr.2 with⟨e,rfl⟩|⟨g,cap,cur,e, -⟩
  ·injection e with _ e _;exact e.symm
  ·injection e with _ e _;exact e.symm
 subst hm
 obtain⟨x,hx⟩:∃x,(C i)[k]? =some x:=⟨_,List.getElem?_eq_getElem (by rw[hr.1];exact hk)⟩
 obtain⟨ad,c2,l,e, -, -, -,hc, -⟩:=h.at_ hv (k:=k) (by rw[hr.1];exact hk)
 injection e with e
 exact⟨ad,x,e,hx,hc k x hx⟩
theorem RS.more{w:World}{b base H i:Nat}{vy vn vq vm u y:Value}{Y N Q M:List Value}{CY CN CQ:Nat→List Value}(h:RS w b base H vy vn vq vm Y N Q M CY CN CQ)(hu:M[i]? =some u)(hy:Y[i]? =some y):∃R:List Value,R.length=64∧(∀(q:Nat) (z:Value),R[q]? =some z→z= .int .u8 (101+(i:Int)))∧∃n,w.ownsRow base 5 1 u n (CY i++R):=by
 obtain⟨⟨n,hr⟩, -⟩:=h.s i u y hu hy
 exact⟨_,List.length_replicate,fun q z hz=>(List.mem_replicate.1 (List.mem_of_getElem? hz)).2,n,hr⟩
set_option maxRecDepth 100000 in
set_option maxHeartbeats 6400000 in
theorem Eb{w:World}{b base H cy cn cq cm:Nat}{Ay An Aq Am:Option Addr}{Y N Q M:List Value}{CY CN CQ:Nat→List Value}(h:RS w b base H (.slice Ay Y.length cy) (.slice An N.length cn) (.slice Aq Q.length cq) (.slice Am Y.length cm) Y N Q M CY CN CQ)(h1:Y.length≤20)(h2:N.length≤20)(h3:Q.length=N.length):
  Calls Tryz.prog 51 #[.pointer (some ⟨b,0,none⟩),.slice Am Y.length cm] w fun e w'=>e= .returned (.bool true)∧Below w.heap.size w w':=by
 have HR:=hid h
 have H3:=hid h3
 clear h h3
 go_enter Tryz.func51,Tryz.ntmps51
 go_upto_region 2 with(fail)
 go_loopw [5] (fun i wr=>wr=w∧∃j:Nat,j≤Y.length∧i= .int .i64 (j:Int)) (fun i _=>Y.length-(intOf i).toNat)
 case atStart=>exact⟨rfl,0,Nat.zero_le _,rfl⟩
 case round=>
  obtain⟨rfl,i,hi,rfl⟩:=hrel
  have kb:wr.cell? ⟨b,0,none⟩=some (.slice Ay Y.length cy):=Blk.cell HR.out.k.k 0
  by_cases hlt:i<Y.length
  ·obtain⟨v,hv⟩:∃v,Y[i]? =some v:=⟨Y[i],List.getElem?_eq_getElem hlt⟩
   obtain⟨u,hu⟩:∃u,M[i]? =some u:=⟨M[i]'(by have:=HR.out.m.1;omega),List.getElem?_eq_getElem _⟩
   have HV:=hid hv
   obtain⟨ady,hA,ky⟩:=jr HR.out.k.y hv
   subst hA
   obtain⟨adm,hA,km⟩:=jr HR.out.m hu
   subst hA
   obtain⟨m0,hro⟩:=HR.out.y.own i v hv
   obtain⟨Ar,cr,rfl,hmc,hcm⟩:=aJ hro
   obtain⟨R,hrl,hra,n,hru⟩:=HR.out.more hu hv
   obtain⟨Au,cu,rfl,hmc,hcm⟩:=aJ hru
   have HRU:=hid hru
   have XM:=hid (show n=m0+64 from by
    have e1:=hru.1
    have e2:=hro.1
    rw[List.length_append,hrl]at e1
    omega)
   have HM0:=hid (show n≤9223372036854775807 from by unfold maxLen at hcm;omega)
   have HLC:=hid (show(CY i).length=m0 from by have e2:=hro.1;omega)
   have HRA:=hid hra
   have HTL:=hid (show(CY i++R).length=n from by have e:=hru.1;omega)
   clear hro hru hv hu hmc hcm hrl hra
   go_upto_region 5 with(fail)
   go_loopw [6] (fun kk wx=>wx=wr∧∃k:Nat,k≤n∧kk= .int .i64 (k:Int)) (fun kk _=>n-(intOf kk).toNat)
   case atStart=>exact⟨rfl,0,Nat.zero_le _,rfl⟩
   case round=>
    as_aux_lemma=>
     obtain⟨rfl,k,hk,rfl⟩:=hrel
     have HW:=hid (show IntKind.u8.wrap (1+(i:Int))=1+(i:Int)from by rw[IntKind.wrap_u8];omega)
     have HS1:=hid (show IntKind.i64.wrap (1+(i:Int))=1+(i:Int)from IntWalk.i64_in _ (by omega))
     have HS2:=hid (show IntKind.i64.wrap (101+(i:Int))=101+(i:Int)from IntWalk.i64_in _ (by omega))
     have HWM:=hid (show IntKind.u8.wrap (101+(i:Int))=101+(i:Int)from by rw[IntKind.wrap_u8];omega)
     have HW3:=hid (show wrap64 (101+(i:Int))=101+(i:Int)from IntWalk.wrap64_in _ (by omega))
     by_cases hkl:k<n
     ·obtain⟨x,hx⟩:∃x,(CY i++R)[k]? =some x:=⟨_,List.getElem?_eq_getElem (by rw[HTL.out];exact hkl)⟩
      obtain⟨adu,hA,kx⟩:=jr HRU.out hx
      subst hA
      have hw2:wrap64 ((k:Int)+1)=(k:Int)+1:=IntWalk.wrap64_in _ (by have:=HM0.out;omega)
      by_cases hkm:k<m0
      ·obtain⟨ad,y,hA,hy,kd⟩:=HR.out.y.read HV.out (k:=k) (by rw[Nat.mul_one];exact hkm)
       subst hA
       have e1:=HR.out.ay i hlt k y hy
       rw[List.getElem?_append_left (by rw[HLC.out];exact hkm),hy]at hx
       obtain rfl:=Option.some.inj hx
       subst e1
       clear hy hx
       have hw:=HW.out
       have hwm:=HWM.out
       have hw3:=HW3.out
       go_upto_region 7 with(fail)
       as_aux_lemma=>
        try simp only[Act.put]
        obtain⟨cT,HCT⟩:∃c:Bool,Hid (c=true):=⟨_,hid rfl⟩
        obtain⟨cF,HCF⟩:∃c:Bool,Hid (c=false):=⟨_,hid rfl⟩
        obtain⟨cU,HCU⟩:∃c:Value,Hid (c=undef):=⟨_,hid rfl⟩
        refine wp_region_lit ?_
        refine ak 28 (v:= .int .i64 (k:Int)) rfl (by rfl) (by exact dM _ rfl rfl) ?_
        simp only[ah]
        refine ak 29 (v:= .pointer (some ⟨b,0,none⟩)) rfl (by rfl) (by exact dM _ rfl rfl) ?_
        simp only[ah]
        refine ak 30 (v:= .pointer (some ⟨b,0,none⟩)) rfl (by rfl) (by go_simp) ?_
        simp only[ah]
        refine ak 31 (v:= .pointer (some ⟨b,0,none⟩)) rfl (by rfl) (by go_simp) ?_
        simp only[ah]
        refine ak 32 (v:= .slice (some ady) Y.length cy) rfl (by rfl) (by go_simp) ?_
        simp only[ah]
        refine ak 33 (v:= .int .i64 (i:Int)) rfl (by rfl) (by exact dM _ rfl rfl) ?_
        simp only[ah]
        refine ak 34 (v:= .pointer (some (ady.add i))) rfl (by rfl) (by go_simp) ?_
        simp only[ah]
        refine ak 35 (v:= .slice (some ad) m0 cr) rfl (by rfl) (by go_simp) ?_
        simp only[ah]
        refine ak 36 (v:= .int .i64 (m0:Int)) rfl (by rfl) (by go_simp) ?_
        simp only[ah]
        refine ak 37 (v:= .bool cT) rfl (by rfl) (by have h1:=HCT.out;have h2:=HCF.out;subst h1;subst h2;go_simp) ?_
        simp only[ah]
        refine ak 38 (v:= .bool cT) rfl (by rfl) (by exact dM _ rfl rfl) ?_
        simp only[ah]
        refine ak 39 (v:= .pointer (some ⟨b,0,none⟩)) rfl ((aj true rfl rfl rfl).trans (by have h1:=HCT.out;have h2:=HCF.out;subst h1;subst h2;rfl)) (by exact dM _ rfl rfl) ?_
        simp only[ah]
        refine ak 40 (v:= .pointer (some ⟨b,0,none⟩)) rfl ((aj true rfl rfl rfl).trans (by have h1:=HCT.out;have h2:=HCF.out;subst h1;subst h2;rfl)) (by go_simp) ?_
        simp only[ah]
        refine ak 41 (v:= .pointer (some ⟨b,0,none⟩)) rfl ((aj true rfl rfl rfl).trans (by have h1:=HCT.out;have h2:=HCF.out;subst h1;subst h2;rfl)) (by go_simp) ?_
        simp only[ah]
        refine ak 42 (v:= .slice (some ady) Y.length cy) rfl ((aj true rfl rfl rfl).trans (by have h1:=HCT.out;have h2:=HCF.out;subst h1;subst h2;rfl)) (by go_simp) ?_
        simp only[ah]
        refine ak 43 (v:= .int .i64 (i:Int)) rfl ((aj true rfl rfl rfl).trans (by have h1:=HCT.out;have h2:=HCF.out;subst h1;subst h2;rfl)) (by exact dM _ rfl rfl) ?_
        simp only[ah]
        refine ak 44 (v:= .pointer (some (ady.add i))) rfl ((aj true rfl rfl rfl).trans (by have h1:=HCT.out;have h2:=HCF.out;subst h1;subst h2;rfl)) (by go_simp) ?_
        simp only[ah]
        refine ak 45 (v:= .slice (some ad) m0 cr) rfl ((aj true rfl rfl rfl).trans (by have h1:=HCT.out;have h2:=HCF.out;subst h1;subst h2;rfl)) (by go_simp) ?_
        simp only[ah]
        refine ak 46 (v:= .int .i64 (k:Int)) rfl ((aj true rfl rfl rfl).trans (by have h1:=HCT.out;have h2:=HCF.out;subst h1;subst h2;rfl)) (by exact dM _ rfl rfl) ?_
        simp only[ah]
        refine ak 47 (v:= .pointer (some (ad.add k))) rfl ((aj true rfl rfl rfl).trans (by have h1:=HCT.out;have h2:=HCF.out;subst h1;subst h2;rfl)) (by go_simp) ?_
        simp only[ah]
        refine ak 48 (v:= .int .u8 (1+(i:Int))) rfl ((aj true rfl rfl rfl).trans (by have h1:=HCT.out;have h2:=HCF.out;subst h1;subst h2;rfl)) (by go_simp) ?_
        simp only[ah]
        refine ak 49 (v:= .int .i64 (i:Int)) rfl ((aj true rfl rfl rfl).trans (by have h1:=HCT.out;have h2:=HCF.out;subst h1;subst h2;rfl)) (by exact dM _ rfl rfl) ?_
        simp only[ah]
        refine ak 50 (v:= .int .i64 (1+(i:Int))) rfl ((aj true rfl rfl rfl).trans (by have h1:=HCT.out;have h2:=HCF.out;subst h1;subst h2;rfl)) (by have h:=HS1.out;go_simp) ?_
        simp only[ah]
        refine ak 51 (v:= .int .u8 (1+(i:Int))) rfl ((aj true rfl rfl rfl).trans (by have h1:=HCT.out;have h2:=HCF.out;subst h1;subst h2;rfl)) (by go_simp) ?_
        simp only[ah]
        refine ak 52 (v:= .bool cF) rfl ((aj true rfl rfl rfl).trans (by have h1:=HCT.out;have h2:=HCF.out;subst h1;subst h2;rfl)) (by have h1:=HCT.out;have h2:=HCF.out;subst h1;subst h2;go_simp) ?_
        simp only[ah]
        refine ak 53 (v:= .bool cF) rfl ((aj true rfl rfl rfl).trans (by have h1:=HCT.out;have h2:=HCF.out;subst h1;subst h2;rfl)) (by exact dM _ rfl rfl) ?_
        simp only[ah]
        refine ak 54 (v:= .slice (some adm) Y.length cm) rfl ((aj false rfl rfl rfl).trans (by have h1:=HCT.out;have h2:=HCF.out;subst h1;subst h2;rfl)) (by exact dM _ rfl rfl) ?_
        simp only[ah]
        refine ak 55 (v:= .int .i64 (i:Int)) rfl ((aj false rfl rfl rfl).trans (by have h1:=HCT.out;have h2:=HCF.out;subst h1;subst h2;rfl)) (by exact dM _ rfl rfl) ?_
        simp only[ah]
        refine ak 56 (v:= .pointer (some (adm.add i))) rfl ((aj false rfl rfl rfl).trans (by have h1:=HCT.out;have h2:=HCF.out;subst h1;subst h2;rfl)) (by go_simp) ?_
        simp only[ah]
        refine ak 57 (v:= .slice (some adu) n cu) rfl ((aj false rfl rfl rfl).trans (by have h1:=HCT.out;have h2:=HCF.out;subst h1;subst h2;rfl)) (by go_simp) ?_
        simp only[ah]
        refine ak 58 (v:= .int .i64 (k:Int)) rfl ((aj false rfl rfl rfl).trans (by have h1:=HCT.out;have h2:=HCF.out;subst h1;subst h2;rfl)) (by exact dM _ rfl rfl) ?_
        simp only[ah]
        refine ak 59 (v:= .pointer (some (adu.add k))) rfl ((aj false rfl rfl rfl).trans (by have h1:=HCT.out;have h2:=HCF.out;subst h1;subst h2;rfl)) (by go_simp) ?_
        simp only[ah]
        refine ak 60 (v:= .int .u8 (1+(i:Int))) rfl ((aj false rfl rfl rfl).trans (by have h1:=HCT.out;have h2:=HCF.out;subst h1;subst h2;rfl)) (by go_simp) ?_
        simp only[ah]
        refine ak 61 (v:= .int .i64 (i:Int)) rfl ((aj false rfl rfl rfl).trans (by have h1:=HCT.out;have h2:=HCF.out;subst h1;subst h2;rfl)) (by exact dM _ rfl rfl) ?_
        simp only[ah]
        refine ak 62 (v:= .int .i64 (1+(i:Int))) rfl ((aj false rfl rfl rfl).trans (by have h1:=HCT.out;have h2:=HCF.out;subst h1;subst h2;rfl)) (by have h:=HS1.out;go_simp) ?_
        simp only[ah]
        refine ak 63 (v:= .int .u8 (1+(i:Int))) rfl ((aj false rfl rfl rfl).trans (by have h1:=HCT.out;have h2:=HCF.out;subst h1;subst h2;rfl)) (by go_simp) ?_
        simp only[ah]
        refine ak 64 (v:= .bool cF) rfl ((aj false rfl rfl rfl).trans (by have h1:=HCT.out;have h2:=HCF.out;subst h1;subst h2;rfl)) (by have h1:=HCT.out;have h2:=HCF.out;subst h1;subst h2;go_simp) ?_
        simp only[ah]
        refine ak 65 (v:= .bool cF) rfl ((aj true rfl rfl rfl).trans (by have h1:=HCT.out;have h2:=HCF.out;subst h1;subst h2;rfl)) (by have h1:=HCT.out;have h2:=HCF.out;subst h1;subst h2;go_simp) ?_
        simp only[ah]
        refine ak 66 (v:= .bool cF) rfl (by rfl) (by have h1:=HCT.out;have h2:=HCF.out;subst h1;subst h2;go_simp) ?_
        simp only[ah]
        refine ak 67 (v:= .bool cF) rfl (by rfl) (by exact dM _ rfl rfl) ?_
        simp only[ah]
        refine ak 68 (v:= .int .i64 (k:Int)) rfl ((aj false rfl rfl rfl).trans (by have h1:=HCT.out;have h2:=HCF.out;subst h1;subst h2;rfl)) (by exact dM _ rfl rfl) ?_
        simp only[ah]
        refine ak 69 (v:= .pointer (some ⟨b,0,none⟩)) rfl ((aj false rfl rfl rfl).trans (by have h1:=HCT.out;have h2:=HCF.out;subst h1;subst h2;rfl)) (by exact dM _ rfl rfl) ?_
        simp only[ah]
        refine ak 70 (v:= .pointer (some ⟨b,0,none⟩)) rfl ((aj false rfl rfl rfl).trans (by have h1:=HCT.out;have h2:=HCF.out;subst h1;subst h2;rfl)) (by go_simp) ?_
        simp only[ah]
        refine ak 71 (v:= .pointer (some ⟨b,0,none⟩)) rfl ((aj false rfl rfl rfl).trans (by have h1:=HCT.out;have h2:=HCF.out;subst h1;subst h2;rfl)) (by go_simp) ?_
        simp only[ah]
        refine ak 72 (v:= .slice (some ady) Y.length cy) rfl ((aj false rfl rfl rfl).trans (by have h1:=HCT.out;have h2:=HCF.out;subst h1;subst h2;rfl)) (by go_simp) ?_
        simp only[ah]
        refine ak 73 (v:= .int .i64 (i:Int)) rfl ((aj false rfl rfl rfl).trans (by have h1:=HCT.out;have h2:=HCF.out;subst h1;subst h2;rfl)) (by exact dM _ rfl rfl) ?_
        simp only[ah]
        refine ak 74 (v:= .pointer (some (ady.add i))) rfl ((aj false rfl rfl rfl).trans (by have h1:=HCT.out;have h2:=HCF.out;subst h1;subst h2;rfl)) (by go_simp) ?_
        simp only[ah]
        refine ak 75 (v:= .slice (some ad) m0 cr) rfl ((aj false rfl rfl rfl).trans (by have h1:=HCT.out;have h2:=HCF.out;subst h1;subst h2;rfl)) (by go_simp) ?_
        simp only[ah]
        refine ak 76 (v:= .int .i64 (m0:Int)) rfl ((aj false rfl rfl rfl).trans (by have h1:=HCT.out;have h2:=HCF.out;subst h1;subst h2;rfl)) (by go_simp) ?_
        simp only[ah]
        refine ak 77 (v:= .bool cF) rfl ((aj false rfl rfl rfl).trans (by have h1:=HCT.out;have h2:=HCF.out;subst h1;subst h2;rfl)) (by have h1:=HCT.out;have h2:=HCF.out;subst h1;subst h2;go_simp) ?_
        simp only[ah]
        refine ak 78 (v:= .bool cF) rfl ((aj false rfl rfl rfl).trans (by have h1:=HCT.out;have h2:=HCF.out;subst h1;subst h2;rfl)) (by exact dM _ rfl rfl) ?_
        simp only[ah]
        refine aP 79 HCU.out rfl ((aj true rfl rfl rfl).trans (by have h1:=HCT.out;have h2:=HCF.out;subst h1;subst h2;rfl)) ?_
        simp only[ah]
        refine aP 80 HCU.out rfl ((aj true rfl rfl rfl).trans (by have h1:=HCT.out;have h2:=HCF.out;subst h1;subst h2;rfl)) ?_
        simp only[ah]
        refine aP 81 HCU.out rfl ((aj true rfl rfl rfl).trans (by have h1:=HCT.out;have h2:=HCF.out;subst h1;subst h2;rfl)) ?_
        simp only[ah]
        refine aP 82 HCU.out rfl ((aj true rfl rfl rfl).trans (by have h1:=HCT.out;have h2:=HCF.out;subst h1;subst h2;rfl)) ?_
        simp only[ah]
        refine aP 83 HCU.out rfl ((aj true rfl rfl rfl).trans (by have h1:=HCT.out;have h2:=HCF.out;subst h1;subst h2;rfl)) ?_
        simp only[ah]
        refine aP 84 HCU.out rfl ((aj true rfl rfl rfl).trans (by have h1:=HCT.out;have h2:=HCF.out;subst h1;subst h2;rfl)) ?_
        simp only[ah]
        refine aP 85 HCU.out rfl ((aj true rfl rfl rfl).trans (by have h1:=HCT.out;have h2:=HCF.out;subst h1;subst h2;rfl)) ?_
        simp only[ah]
        refine aP 86 HCU.out rfl ((aj true rfl rfl rfl).trans (by have h1:=HCT.out;have h2:=HCF.out;subst h1;subst h2;rfl)) ?_
        simp only[ah]
        refine aP 87 HCU.out rfl ((aj true rfl rfl rfl).trans (by have h1:=HCT.out;have h2:=HCF.out;subst h1;subst h2;rfl)) ?_
        simp only[ah]
        refine aP 88 HCU.out rfl ((aj true rfl rfl rfl).trans (by have h1:=HCT.out;have h2:=HCF.out;subst h1;subst h2;rfl)) ?_
        simp only[ah]
        refine aP 89 HCU.out rfl ((aj true rfl rfl rfl).trans (by have h1:=HCT.out;have h2:=HCF.out;subst h1;subst h2;rfl)) ?_
        simp only[ah]
        refine ak 90 (v:= .bool cF) rfl ((aj false rfl rfl rfl).trans (by have h1:=HCT.out;have h2:=HCF.out;subst h1;subst h2;rfl)) (by have h1:=HCT.out;have h2:=HCF.out;subst h1;subst h2;go_simp) ?_
        simp only[ah]
        refine ak 91 (v:= .bool cF) rfl (by rfl) (by have h1:=HCT.out;have h2:=HCF.out;subst h1;subst h2;go_simp) ?_
        simp only[ah]
        have h1:=HCT.out
        have h2:=HCF.out
        have h3:=HCU.out
        subst h1
        subst h2
        subst h3
        go_wp2_with fail
        go_roundw
        case rel=>exact⟨by trivial,k+1,hkl,by go_num⟩
        case measure=>first|exact jv hkl hw2|exact jw hkl
      ·have e1:x= .int .u8 (101+(i:Int)):=by
        rw[List.getElem?_append_right (by rw[HLC.out];exact Nat.not_lt.1 hkm)]at hx
        exact HRA.out _ _ hx
       subst e1
       clear hx
       have hmk:m0≤k:=Nat.not_lt.1 hkm
       have hw:=HW.out
       have hwm:=HWM.out
       have hw3:=HW3.out
       go_upto_region 7 with(fail)
       as_aux_lemma=>
        try simp only[Act.put]
        obtain⟨cT,HCT⟩:∃c:Bool,Hid (c=true):=⟨_,hid rfl⟩
        obtain⟨cF,HCF⟩:∃c:Bool,Hid (c=false):=⟨_,hid rfl⟩
        obtain⟨cU,HCU⟩:∃c:Value,Hid (c=undef):=⟨_,hid rfl⟩
        refine wp_region_lit ?_
        refine ak 28 (v:= .int .i64 (k:Int)) rfl (by rfl) (by exact dM _ rfl rfl) ?_
        simp only[ah]
        refine ak 29 (v:= .pointer (some ⟨b,0,none⟩)) rfl (by rfl) (by exact dM _ rfl rfl) ?_
        simp only[ah]
        refine ak 30 (v:= .pointer (some ⟨b,0,none⟩)) rfl (by rfl) (by go_simp) ?_
        simp only[ah]
        refine ak 31 (v:= .pointer (some ⟨b,0,none⟩)) rfl (by rfl) (by go_simp) ?_
        simp only[ah]
        refine ak 32 (v:= .slice (some ady) Y.length cy) rfl (by rfl) (by go_simp) ?_
        simp only[ah]
        refine ak 33 (v:= .int .i64 (i:Int)) rfl (by rfl) (by exact dM _ rfl rfl) ?_
        simp only[ah]
        refine ak 34 (v:= .pointer (some (ady.add i))) rfl (by rfl) (by go_simp) ?_
        simp only[ah]
        refine ak 35 (v:= .slice Ar m0 cr) rfl (by rfl) (by go_simp) ?_
        simp only[ah]
        refine ak 36 (v:= .int .i64 (m0:Int)) rfl (by rfl) (by go_simp) ?_
        simp only[ah]
        refine ak 37 (v:= .bool cF) rfl (by rfl) (by have h1:=HCT.out;have h2:=HCF.out;subst h1;subst h2;go_simp) ?_
        simp only[ah]
        refine ak 38 (v:= .bool cF) rfl (by rfl) (by exact dM _ rfl rfl) ?_
        simp only[ah]
        refine aP 39 HCU.out rfl ((aj true rfl rfl rfl).trans (by have h1:=HCT.out;have h2:=HCF.out;subst h1;subst h2;rfl)) ?_
        simp only[ah]
        refine aP 40 HCU.out rfl ((aj true rfl rfl rfl).trans (by have h1:=HCT.out;have h2:=HCF.out;subst h1;subst h2;rfl)) ?_
        simp only[ah]
        refine aP 41 HCU.out rfl ((aj true rfl rfl rfl).trans (by have h1:=HCT.out;have h2:=HCF.out;subst h1;subst h2;rfl)) ?_
        simp only[ah]
        refine aP 42 HCU.out rfl ((aj true rfl rfl rfl).trans (by have h1:=HCT.out;have h2:=HCF.out;subst h1;subst h2;rfl)) ?_
        simp only[ah]
        refine aP 43 HCU.out rfl ((aj true rfl rfl rfl).trans (by have h1:=HCT.out;have h2:=HCF.out;subst h1;subst h2;rfl)) ?_
        simp only[ah]
        refine aP 44 HCU.out rfl ((aj true rfl rfl rfl).trans (by have h1:=HCT.out;have h2:=HCF.out;subst h1;subst h2;rfl)) ?_
        simp only[ah]
        refine aP 45 HCU.out rfl ((aj true rfl rfl rfl).trans (by have h1:=HCT.out;have h2:=HCF.out;subst h1;subst h2;rfl)) ?_
        simp only[ah]
        refine aP 46 HCU.out rfl ((aj true rfl rfl rfl).trans (by have h1:=HCT.out;have h2:=HCF.out;subst h1;subst h2;rfl)) ?_
        simp only[ah]
        refine aP 47 HCU.out rfl ((aj true rfl rfl rfl).trans (by have h1:=HCT.out;have h2:=HCF.out;subst h1;subst h2;rfl)) ?_
        simp only[ah]
        refine aP 48 HCU.out rfl ((aj true rfl rfl rfl).trans (by have h1:=HCT.out;have h2:=HCF.out;subst h1;subst h2;rfl)) ?_
        simp only[ah]
        refine aP 49 HCU.out rfl ((aj true rfl rfl rfl).trans (by have h1:=HCT.out;have h2:=HCF.out;subst h1;subst h2;rfl)) ?_
        simp only[ah]
        refine aP 50 HCU.out rfl ((aj true rfl rfl rfl).trans (by have h1:=HCT.out;have h2:=HCF.out;subst h1;subst h2;rfl)) ?_
        simp only[ah]
        refine aP 51 HCU.out rfl ((aj true rfl rfl rfl).trans (by have h1:=HCT.out;have h2:=HCF.out;subst h1;subst h2;rfl)) ?_
        simp only[ah]
        refine aP 52 HCU.out rfl ((aj true rfl rfl rfl).trans (by have h1:=HCT.out;have h2:=HCF.out;subst h1;subst h2;rfl)) ?_
        simp only[ah]
        refine aP 53 HCU.out rfl ((aj true rfl rfl rfl).trans (by have h1:=HCT.out;have h2:=HCF.out;subst h1;subst h2;rfl)) ?_
        simp only[ah]
        refine aP 54 HCU.out rfl (iV false HCU.out rfl rfl rfl) ?_
        simp only[ah]
        refine aP 55 HCU.out rfl (iV false HCU.out rfl rfl rfl) ?_
        simp only[ah]
        refine aP 56 HCU.out rfl (iV false HCU.out rfl rfl rfl) ?_
        simp only[ah]
        refine aP 57 HCU.out rfl (iV false HCU.out rfl rfl rfl) ?_
        simp only[ah]
        refine aP 58 HCU.out rfl (iV false HCU.out rfl rfl rfl) ?_
        simp only[ah]
        refine aP 59 HCU.out rfl (iV false HCU.out rfl rfl rfl) ?_
        simp only[ah]
        refine aP 60 HCU.out rfl (iV false HCU.out rfl rfl rfl) ?_
        simp only[ah]
        refine aP 61 HCU.out rfl (iV false HCU.out rfl rfl rfl) ?_
        simp only[ah]
        refine aP 62 HCU.out rfl (iV false HCU.out rfl rfl rfl) ?_
        simp only[ah]
        refine aP 63 HCU.out rfl (iV false HCU.out rfl rfl rfl) ?_
        simp only[ah]
        refine aP 64 HCU.out rfl (iV false HCU.out rfl rfl rfl) ?_
        simp only[ah]
        refine aP 65 HCU.out rfl ((aj true rfl rfl rfl).trans (by have h1:=HCT.out;have h2:=HCF.out;subst h1;subst h2;rfl)) ?_
        simp only[ah]
        refine ak 66 (v:= .bool cF) rfl (by rfl) (by have h1:=HCT.out;have h2:=HCF.out;subst h1;subst h2;go_simp) ?_
        simp only[ah]
        refine ak 67 (v:= .bool cF) rfl (by rfl) (by exact dM _ rfl rfl) ?_
        simp only[ah]
        refine ak 68 (v:= .int .i64 (k:Int)) rfl ((aj false rfl rfl rfl).trans (by have h1:=HCT.out;have h2:=HCF.out;subst h1;subst h2;rfl)) (by exact dM _ rfl rfl) ?_
        simp only[ah]
        refine ak 69 (v:= .pointer (some ⟨b,0,none⟩)) rfl ((aj false rfl rfl rfl).trans (by have h1:=HCT.out;have h2:=HCF.out;subst h1;subst h2;rfl)) (by exact dM _ rfl rfl) ?_
        simp only[ah]
        refine ak 70 (v:= .pointer (some ⟨b,0,none⟩)) rfl ((aj false rfl rfl rfl).trans (by have h1:=HCT.out;have h2:=HCF.out;subst h1;subst h2;rfl)) (by go_simp) ?_
        simp only[ah]
        refine ak 71 (v:= .pointer (some ⟨b,0,none⟩)) rfl ((aj false rfl rfl rfl).trans (by have h1:=HCT.out;have h2:=HCF.out;subst h1;subst h2;rfl)) (by go_simp) ?_
        simp only[ah]
        refine ak 72 (v:= .slice (some ady) Y.length cy) rfl ((aj false rfl rfl rfl).trans (by have h1:=HCT.out;have h2:=HCF.out;subst h1;subst h2;rfl)) (by go_simp) ?_
        simp only[ah]
        refine ak 73 (v:= .int .i64 (i:Int)) rfl ((aj false rfl rfl rfl).trans (by have h1:=HCT.out;have h2:=HCF.out;subst h1;subst h2;rfl)) (by exact dM _ rfl rfl) ?_
        simp only[ah]
        refine ak 74 (v:= .pointer (some (ady.add i))) rfl ((aj false rfl rfl rfl).trans (by have h1:=HCT.out;have h2:=HCF.out;subst h1;subst h2;rfl)) (by go_simp) ?_
        simp only[ah]
        refine ak 75 (v:= .slice Ar m0 cr) rfl ((aj false rfl rfl rfl).trans (by have h1:=HCT.out;have h2:=HCF.out;subst h1;subst h2;rfl)) (by go_simp) ?_
        simp only[ah]
        refine ak 76 (v:= .int .i64 (m0:Int)) rfl ((aj false rfl rfl rfl).trans (by have h1:=HCT.out;have h2:=HCF.out;subst h1;subst h2;rfl)) (by go_simp) ?_
        simp only[ah]
        refine ak 77 (v:= .bool cT) rfl ((aj false rfl rfl rfl).trans (by have h1:=HCT.out;have h2:=HCF.out;subst h1;subst h2;rfl)) (by have h1:=HCT.out;have h2:=HCF.out;subst h1;subst h2;go_simp) ?_
        simp only[ah]
        refine ak 78 (v:= .bool cT) rfl ((aj false rfl rfl rfl).trans (by have h1:=HCT.out;have h2:=HCF.out;subst h1;subst h2;rfl)) (by exact dM _ rfl rfl) ?_
        simp only[ah]
        refine ak 79 (v:= .slice (some adm) Y.length cm) rfl ((aj true rfl rfl rfl).trans (by have h1:=HCT.out;have h2:=HCF.out;subst h1;subst h2;rfl)) (by exact dM _ rfl rfl) ?_
        simp only[ah]
        refine ak 80 (v:= .int .i64 (i:Int)) rfl ((aj true rfl rfl rfl).trans (by have h1:=HCT.out;have h2:=HCF.out;subst h1;subst h2;rfl)) (by exact dM _ rfl rfl) ?_
        simp only[ah]
        refine ak 81 (v:= .pointer (some (adm.add i))) rfl ((aj true rfl rfl rfl).trans (by have h1:=HCT.out;have h2:=HCF.out;subst h1;subst h2;rfl)) (by go_simp) ?_
        simp only[ah]
        refine ak 82 (v:= .slice (some adu) n cu) rfl ((aj true rfl rfl rfl).trans (by have h1:=HCT.out;have h2:=HCF.out;subst h1;subst h2;rfl)) (by go_simp) ?_
        simp only[ah]
        refine ak 83 (v:= .int .i64 (k:Int)) rfl ((aj true rfl rfl rfl).trans (by have h1:=HCT.out;have h2:=HCF.out;subst h1;subst h2;rfl)) (by exact dM _ rfl rfl) ?_
        simp only[ah]
        refine ak 84 (v:= .pointer (some (adu.add k))) rfl ((aj true rfl rfl rfl).trans (by have h1:=HCT.out;have h2:=HCF.out;subst h1;subst h2;rfl)) (by go_simp) ?_
        simp only[ah]
        refine ak 85 (v:= .int .u8 (101+(i:Int))) rfl ((aj true rfl rfl rfl).trans (by have h1:=HCT.out;have h2:=HCF.out;subst h1;subst h2;rfl)) (by go_simp) ?_
        simp only[ah]
        refine ak 86 (v:= .int .i64 (i:Int)) rfl ((aj true rfl rfl rfl).trans (by have h1:=HCT.out;have h2:=HCF.out;subst h1;subst h2;rfl)) (by exact dM _ rfl rfl) ?_
        simp only[ah]
        refine ak 87 (v:= .int .i64 (101+(i:Int))) rfl ((aj true rfl rfl rfl).trans (by have h1:=HCT.out;have h2:=HCF.out;subst h1;subst h2;rfl)) (by have h:=HS2.out;go_simp) ?_
        simp only[ah]
        refine ak 88 (v:= .int .u8 (101+(i:Int))) rfl ((aj true rfl rfl rfl).trans (by have h1:=HCT.out;have h2:=HCF.out;subst h1;subst h2;rfl)) (by go_simp) ?_
        simp only[ah]
        refine ak 89 (v:= .bool cF) rfl ((aj true rfl rfl rfl).trans (by have h1:=HCT.out;have h2:=HCF.out;subst h1;subst h2;rfl)) (by have h1:=HCT.out;have h2:=HCF.out;subst h1;subst h2;go_simp) ?_
        simp only[ah]
        refine ak 90 (v:= .bool cF) rfl ((aj false rfl rfl rfl).trans (by have h1:=HCT.out;have h2:=HCF.out;subst h1;subst h2;rfl)) (by have h1:=HCT.out;have h2:=HCF.out;subst h1;subst h2;go_simp) ?_
        simp only[ah]
        refine ak 91 (v:= .bool cF) rfl (by rfl) (by have h1:=HCT.out;have h2:=HCF.out;subst h1;subst h2;go_simp) ?_
        simp only[ah]
        have h1:=HCT.out
        have h2:=HCF.out
        have h3:=HCU.out
        subst h1
        subst h2
        subst h3
        go_wp2_with fail
        go_roundw
        case rel=>exact⟨by trivial,k+1,hkl,by go_num⟩
        case measure=>first|exact jv hkl hw2|exact jw hkl
     ·clear kb
      go_wp2_with fail
      go_roundw
      case rel=>exact⟨by trivial,i+1,hlt,by go_num⟩
      case measure=>first|exact jv hlt (IntWalk.wrap64_in _ (by omega))|exact jw hlt
  ·have hie:i=Y.length:=by omega
   subst hie
   clear hlt hi
   go_upto_region 10 with(fail)
   clear kb
   obtain⟨w0,hw0⟩:∃w0,w0=wr:=⟨_,rfl⟩
   have HW0:=hid hw0
   clear hw0
   go_loopw [7] (fun i wx=>∃j:Nat,j≤N.length∧i= .int .i64 (j:Int)∧RS wx b base H (.slice Ay Y.length cy) (.slice An N.length cn) (.slice Aq Q.length cq) (.slice Am Y.length cm) Y N Q M CY CN CQ∧Below w0.heap.size w0 wx) (fun i _=>N.length-(intOf i).toNat)
   case atStart=>exact⟨0,Nat.zero_le _,rfl,HR.out,by rw[HW0.out];exact Below.refl _ _⟩
   case round=>
    obtain⟨i,hi,rfl,hr,hb⟩:=hrel
    have HR2:=hid hr
    have HB2:=hid hb
    have kb:wr.cell? ⟨b,1,none⟩=some (.slice An N.length cn):=Blk.cell hr.k.k 1
    clear hr hb
    by_cases hlt:i<N.length
    ·obtain⟨v,hv⟩:∃v,N[i]? =some v:=⟨N[i],List.getElem?_eq_getElem hlt⟩
     have hiq:i<Q.length:=by have:=H3.out;omega
     obtain⟨u,hu⟩:∃u,Q[i]? =some u:=⟨Q[i],List.getElem?_eq_getElem hiq⟩
     have HV:=hid hv
     have HU:=hid hu
     obtain⟨adn,hA,ky⟩:=jr HR2.out.k.n hv
     subst hA
     obtain⟨adq,hA, -⟩:=jr HR2.out.k.q hu
     subst hA
     obtain⟨m0,hro⟩:=HR2.out.n.own i v hv
     obtain⟨Ar,cr,rfl,hmc,hcm⟩:=aJ hro
     obtain⟨m1,yh⟩:=HR2.out.q.own i u hu
     obtain⟨Br,dr,rfl,hmc1,hcm1⟩:=aJ yh
     have HM0:=hid (show m0≤9223372036854775807 from by unfold maxLen at hcm;omega)
     have HM1:=hid (show m1≤9223372036854775807 from by unfold maxLen at hcm1;omega)
     clear hro yh hv hu hmc hcm hmc1 hcm1
     go_upto_region 13 with(fail)
     clear kb ky
     go_loopw [8] (fun kk wx=>∃k:Nat,k≤m0∧kk= .int .i64 (k:Int)∧RS wx b base H (.slice Ay Y.length cy) (.slice (some adn) N.length cn) (.slice (some adq) Q.length cq) (.slice Am Y.length cm) Y N Q M CY CN CQ∧Below w0.heap.size w0 wx) (fun kk _=>m0-(intOf kk).toNat)
     case atStart=>exact⟨0,Nat.zero_le _,rfl,HR2.out,HB2.out⟩
     case round=>
      as_aux_lemma=>
       obtain⟨k,hk,rfl,hr,hb⟩:=hrel
       have HR3:=hid hr
       have HB3:=hid hb
       have kb:wr.cell? ⟨b,1,none⟩=some (.slice (some adn) N.length cn):=Blk.cell hr.k.k 1
       obtain⟨WJ,hA,ky⟩:=jr hr.k.n HV.out
       injection hA with hA
       subst hA
       clear hr hb HR2 HB2
       by_cases hkl:k<m0
       ·obtain⟨ad,x,hA, -, -⟩:=HR3.out.n.read HV.out (k:=k) (by rw[Nat.mul_one];exact hkl)
        subst hA
        go_upto_region 15 with(fail)
        clear kb ky
        as_aux_lemma=>
         have HKM:=hid (show k<m0*1 from by rw[Nat.mul_one];exact hkl)
         obtain⟨Ec,hws⟩:∃s,s=ofL [UInt8.ofNat (97+i),97]:=⟨_,rfl⟩
         have HWC:=hid (show∀w,Calls Tryz.prog 50 #[.int .i64 (i:Int)] w fun e w'=>e= .returned (.string Ec)∧Below w.heap.size w w' from fun w=>by rw[hws];exact yc i (by omega) w)
         have HAN:=hid (show BN (CN i) (.string Ec)from by rw[hws];exact HR3.out.an i hlt)
         clear hws
         have hrd:=HR3.out.new (aC wr)
         have HBD:=hid (HB3.out.trans ((aC wr).mono HB3.out.size))
         clear HR3 HB3
         try simp only[Act.put]
         refine wp_region_held_drew (S:=fun wx=>RS wx b base H (.slice Ay Y.length cy) (.slice (some adn) N.length cn) (.slice (some adq) Q.length cq) (.slice Am Y.length cm) Y N Q M CY CN CQ) (by kernel_rfl) hrd (fun hHeld=> ?_)
         clear hrd
         generalize wr.drew=wd at hHeld HBD⊢
         refine tk 113 0 (.pointer (some ⟨b,0,none⟩)) ?_
         refine tk 114 1 (.pointer (some ⟨b,0,none⟩)) ?_
         refine tk 115 2 (.pointer (some ⟨b,1,none⟩)) ?_
         refine tk2 116 3 (.slice (some adn) N.length cn) rfl (fun wq hSw=>by have kb:wq.cell? ⟨b,1,none⟩=some (.slice (some adn) N.length cn):=Blk.cell hSw.k.k 1;go_simp) ?_
         refine tk 117 4 (.int .i64 (i:Int)) ?_
         refine tk 118 5 (.pointer (some (adn.add i))) ?_
         refine tk2 119 6 (.slice (some ad) m0 cr) rfl (fun wq hSw=>by obtain⟨ad',hA,ky⟩:=jr hSw.k.n HV.out;injection hA with hA;subst hA;go_simp) ?_
         refine tk 120 7 (.int .i64 (k:Int)) ?_
         refine tk 121 8 (.pointer (some (ad.add k))) ?_
         refine tk2 122 9 (.string Ec) rfl (fun wq hSw=>by obtain⟨ad',x',hA,hx',kd⟩:=hSw.n.read HV.out (k:=k) HKM.out;injection hA with hA;subst hA;obtain rfl:=HAN.out k x' hx';go_simp) ?_
         refine tk 123 10 (.int .i64 (i:Int)) ?_
         refine wpAnyH_ready (rs:=[11]) (by kernel_rfl) (by simp) ?_
         refine AllReadyH.cons rfl (fun K hK=> ?_) AllReadyH.nil
         rw[if_pos (by rfl)]
         go_simp
         refine(HWC.out wd).mono ?_
         rintro e wf ⟨rfl,hb⟩
         dsimp only
         have HRF:=hid (hHeld.new hb)
         have HBF:=hid (HBD.out.trans (hb.mono HBD.out.size))
         clear hHeld hb HBD
         refine hK.out _ _ HRF.out (fun hHeld=> ?_)
         clear hK
         refine tk 125 12 (.bool false) ?_
         refine wpAnyH_done (by kernel_rfl) ?_ _
         clear hHeld
         have hw2:wrap64 ((k:Int)+1)=(k:Int)+1:=IntWalk.wrap64_in _ (by have:=HM0.out;omega)
         go_wp2_with fail
         go_roundw
         case rel=>exact⟨k+1,hkl,by go_num,HRF.out,HBF.out⟩
         case measure=>first|exact jv hkl hw2|exact jw hkl
       ·have XO:=hiq
        go_upto_region 18 with(fail)
        clear kb ky
        go_loopw [9] (fun kk wx=>wx=wr∧∃k:Nat,k≤m1∧kk= .int .i64 (k:Int)) (fun kk _=>m1-(intOf kk).toNat)
        case atStart=>exact⟨rfl,0,Nat.zero_le _,rfl⟩
        case round=>
         as_aux_lemma=>
          obtain⟨rfl,k2,hk2,rfl⟩:=hrel
          have kb:wr.cell? ⟨b,2,none⟩=some (.slice (some adq) Q.length cq):=Blk.cell HR3.out.k.k 2
          obtain⟨WL,hA,ky⟩:=jr HR3.out.k.q HU.out
          injection hA with hA
          subst hA
          by_cases hkl2:k2<m1
          ·obtain⟨ad,x,hA,hx,kd⟩:=HR3.out.q.read HU.out (k:=k2*3+2) (by omega)
           subst hA
           obtain rfl:=HR3.out.aq i hiq _ _ hx
           have kd2:wr.cell? ⟨(ad.add (k2*3)).block,(ad.add (k2*3)).off+2,none⟩=some (.int .u64 (1+(i:Int))):=by
            rw[show(⟨(ad.add (k2*3)).block,(ad.add (k2*3)).off+2,none⟩:Addr)=ad.add (k2*3+2)from by rw[←lU];rfl]
            exact kd
           have HWW:=hid (show IntKind.u64.wrap (1+(i:Int))=1+(i:Int)from by rw[IntKind.wrap_u64];omega)
           have hw2:wrap64 ((k2:Int)+1)=(k2:Int)+1:=IntWalk.wrap64_in _ (by have:=HM1.out;omega)
           have hw:=HWW.out
           clear hx kd
           go_upto_region 20 with(fail)
           as_aux_lemma=>
            go_wp2_with fail
            go_roundw
            case rel=>exact⟨by trivial,k2+1,hkl2,by go_num⟩
            case measure=>first|exact jv hkl2 hw2|exact jw hkl2
          ·go_wp2_with fail
           go_roundw
           case rel=>exact⟨i+1,hlt,by go_num,HR3.out,HB3.out⟩
           case measure=>first|exact jv hlt (IntWalk.wrap64_in _ (by omega))|exact jw hlt
    ·go_wp2_with fail
     refine bodyPost_ret (v:= .bool true) (by simp[results,Tryz.results51]) rfl ⟨rfl, ?_⟩
     have h:=HB2.out
     rw[HW0.out]at h
     exact h
end Go.Proofs.YtkblmloobkiloaaGreatDoor
