/-
  MUB MUC MUD: what the laws of package msg need of them.
-/
import Derived.Test.YtkblmloobkiloaaGreatDoorF00
import Derived.Test.YtkblmloobkiloaaGreatDoorF24
import Derived.Test.YtkblmloobkiloaaGreatDoorF17
set_option maxRecDepth 100000
set_option maxHeartbeats 6400000
namespace Go.Proofs.YtkblmloobkiloaaGreatDoor
open Go.Lib (hid)
open Go.RowKit
def Y6(hx:Bool)(st:Except Nat (List UInt8)):List UInt8:=match st with| .ok l=>l.takeWhile (YE hx)| .error _=>[]
theorem Zm{w:World}{p:Nat}{s:ByteArray}{st:Except Nat (List UInt8)}(hx:Bool)(h:RwS w p s st):(Y6 hx st).length≤16777216:=by
 obtain⟨a,b, -, -,hz,rfl⟩:=h
 cases b with
 |true=>exact Nat.zero_le _
 |false=>
  show((s.data.toList.drop a).takeWhile (YE hx)).length≤_
  have h:=(List.takeWhile_sublist (l:=s.data.toList.drop a) (YE hx)).length_le
  rw[List.length_drop,Array.length_toList]at h
  have h:((s.data.toList.drop a).takeWhile (YE hx)).length≤s.size-a:=h
  omega
theorem YN{w:World}{p:Nat}{s:ByteArray}{st:Except Nat (List UInt8)}(hx:Bool)(h:RwS w p s st):
  Calls Tryz.prog 100 #[.pointer (some ⟨p,0,none⟩),.int .i64 (if hx then 16 else 10)] w fun e w'=>e= .returned (.string (ofL (Y6 hx st)))∧Below w.heap.size w w':=by
 obtain⟨a,b,hb,ha,hz,rfl⟩:=h
 have k0:w.cell? ⟨p,0,none⟩=some (.string s):=hb.cell 0
 have k1:w.cell? ⟨p,1,none⟩=some (.int .i64 (a:Int)):=hb.cell 1
 have k2:w.cell? ⟨p,2,none⟩=some (.bool b):=hb.cell 2
 have j0:w.drew.cell? ⟨p,0,none⟩=some (.string s):=hb.cell 0
 have j1:w.drew.cell? ⟨p,1,none⟩=some (.int .i64 (a:Int)):=hb.cell 1
 have HDG:=hid (fun c w=>Yx hx c w)
 clear hb
 generalize hB:(if hx then(16:Int)else 10)=B at*
 clear hB
 cases b with
 |true=>
  go_enter Tryz.func100,Tryz.ntmps100
  go_wp2_with fail
  go_ret
  exact⟨rfl,Below.refl _ _⟩
 |false=>
  have aax:=hid (show∀j,a≤j→j≤s.size→((s.data.toList.drop a).take (j-a)).all (YE hx)=true→(∀c,s.data.toList[j]? =some c→YE hx c=false)→s.extract a j=ofL (Y6 hx (.ok (s.data.toList.drop a)))from fun j h1 h2 h3 h4=>by
   rw[Fq s a j h1 h2]
   show _=ofL ((s.data.toList.drop a).takeWhile (YE hx))
   rw[LC (YE hx) _ (j-a) h3 (by rw[List.length_drop,Array.length_toList];exact(by show j-a≤s.size-a;omega)) (fun c hc=>h4 c (by rw[List.getElem?_drop,show a+(j-a)=j by omega]at hc;exact hc))])
  go_enter Tryz.func100,Tryz.ntmps100
  go_upto_region 4 with(fail)
  go_loop [5] (fun i=>∃j:Nat,i= .int .i64 (j:Int)∧a≤j∧j≤s.size∧Hid (((s.data.toList.drop a).take (j-a)).all (YE hx)=true)) (fun i=>s.size-(intOf i).toNat)
  case atStart=>exact⟨a,rfl,Nat.le_refl _,ha,hid (by simp)⟩
  case round=>
   obtain⟨j,rfl,hj,hjs,HA⟩:=hrel
   by_cases hlt:j<s.size
   ·obtain⟨c,hc⟩:∃c,c=s[j]'hlt:=⟨_,rfl⟩
    have HCA:=hid (show s.data.toList[j]? =some c from by rw[hc];exact byte_at s j hlt)
    have hidx:s[j]'hlt=c:=hc.symm
    clear hc
    go_wp2_with fail
    refine(HDG.out c w).mono ?_
    rintro e w1 ⟨rfl,rfl⟩
    unfold Ya
    cases hd:YE hx c with
    |true=>
     have HD:=hid hd;clear hd
     go_wp2_with fail
     go_round
     case rel=>
      refine⟨j+1,by go_num,by omega,by omega,hid ?_⟩
      rw[show j+1-a=(j-a)+1 by omega,List.take_add_one,List.getElem?_drop,show a+(j-a)=j by omega,HCA.out,Option.toList_some,List.all_append,HA.out]
      simp[HD.out]
     case measure=>first|(simp[intOf];done)|(simp[intOf];omega)
    |false=>
     have HR:=hid (aax.out j hj hjs HA.out (fun c' hc'=>by rw[HCA.out]at hc';injection hc' with hc';rw[←hc'];exact hd))
     clear hd
     go_upto_region 8 with(fail)
     go_region
     rw[HR.out]
     go_wp2_with fail
     exact bodyPost_ret (v:= .string (ofL (Y6 hx (.ok (s.data.toList.drop a))))) (by simp[results,Tryz.results100]) rfl ⟨rfl,aC _⟩
   ·have HR:=hid (aax.out j hj hjs HA.out (fun c' hc'=>by
     rw[List.getElem?_eq_none (by rw[Array.length_toList];exact(by show s.size≤j;omega))]at hc'
     cases hc'))
    go_upto_region 8 with(fail)
    go_region
    rw[HR.out]
    go_wp2_with fail
    exact bodyPost_ret (v:= .string (ofL (Y6 hx (.ok (s.data.toList.drop a))))) (by simp[results,Tryz.results100]) rfl ⟨rfl,aC _⟩
def XZ{α:Type}(o:Except Nat (α×List UInt8))(s:α)(s2:Except Nat (List UInt8)):Prop:=match o with| .ok (t,r)=>s=t∧s2= .ok r| .error k=>s2= .error k
theorem RwS.error{w:World}{p:Nat}{s:ByteArray}{k:Nat}(h:RwS w p s (.error k)):∃a:Nat,Blk w p 106 #[.string s,.int .i64 (a:Int),.bool true]∧a≤s.size∧s.size≤16777216∧k=s.size-a:=by
 obtain⟨a,b,h1,h2,h3,h4⟩:=h
 cases b with
 |true=>injection h4 with h4;exact⟨a,h1,h2,h3,h4⟩
 |false=>cases h4
theorem RwS.bad{w:World}{p a:Nat}{s:ByteArray}{b:Bool}(h:Blk w p 106 #[.string s,.int .i64 (a:Int),.bool b])(ha:a≤s.size)(hz:s.size≤16777216):RwS (w.setCell ⟨p,2,none⟩ (.bool true)) p s (.error (s.size-a)):=
 ⟨a,true,h.aW 2 (.bool true),ha,hz,rfl⟩
theorem RwS.go{w:World}{p a k:Nat}{s:ByteArray}{b:Bool}(h:Blk w p 106 #[.string s,.int .i64 (a:Int),.bool b])(hb:b=false)(ha:a+k≤s.size)(hz:s.size≤16777216):RwS (w.setCell ⟨p,1,none⟩ (.int .i64 ((a:Int)+(k:Int)))) p s (.ok ((s.data.toList.drop a).drop k)):=by
 subst hb
 refine⟨a+k,false, ?_,ha,hz,by rw[List.drop_drop];rfl⟩
 have h:=h.aW 1 (.int .i64 ((a:Int)+(k:Int)))
 rw[show((a+k:Nat):Int)=(a:Int)+(k:Int)from by omega]
 exact h
theorem Yk(w:World)(p k:Nat)(v:Value):Off (fun i=>i=p) w (w.setCell ⟨p,k,none⟩ v):=(Off.refl (fun i=>i=p) w).setCell (p:=⟨p,k,none⟩) rfl v
theorem ZR{m:Nat}{c:UInt8}{d:List UInt8}{n:Nat}(h:m/10<n∨m-(c.toNat-48)<n*10):Yq m (c::d) n=none:=by rw[Yq,if_pos h]
theorem ZT{m:Nat}{c:UInt8}{d:List UInt8}{n:Nat}(h1:¬m/10<n)(h2:¬m-(c.toNat-48)<n*10):Yq m (c::d) n=Yq m d (n*10+(c.toNat-48)):=by rw[Yq,if_neg (fun h=>h.elim h1 h2)]
def Yn{α:Type}(p:Nat)(s:ByteArray)(V:α→Value)(K:α→Prop)(r:Except Nat (α×List UInt8))(S:Nat→Prop)(w:World)(e:Ending)(w':World):Prop:=
 ∃(x:α) (st':Except Nat (List UInt8)),e= .returned (V x)∧K x∧RwS w' p s st'∧XZ r x st'∧Off S w w'
theorem XU{w:World}{p:Nat}{s:ByteArray}{st:Except Nat (List UInt8)}(m:Nat)(hm:9≤m)(h64:m<18446744073709551616)(h:RwS w p s st):
  Calls Tryz.prog 53 #[.pointer (some ⟨p,0,none⟩),.int .u64 (m:Int)] w (Yn p s (fun n:Nat=> .int .u64 (n:Int)) (fun n=>n≤m) (st >>= fZ m) (fun i=>i=p) w):=by
 have ZU:=hid (show Calls Tryz.prog 100 #[.pointer (some ⟨p,0,none⟩),.int .i64 10] w _ from YN false h)
 have hrl:=Zm false h
 obtain⟨a,b,hb,ha,hz,rfl⟩:=h
 have HBK:=hid hb
 clear hb
 go_enter Tryz.func53,Tryz.ntmps53
 go_wp2_with fail
 refine ZU.out.mono ?_
 rintro e w1 ⟨rfl,hb⟩
 have HB1:=hid (Blk.below HBK.out hb (Blk.lt HBK.out))
 have HO:=hid (Off.of_below (S:=fun i=>i=p) hb)
 clear hb HBK ZU
 have k1:w1.cell? ⟨p,1,none⟩=some (.int .i64 (a:Int)):=HB1.out.cell 1
 have k2:w1.cell? ⟨p,2,none⟩=some (.bool b):=HB1.out.cell 2
 have z1:w1.frozen? ⟨p,1,none⟩=false:=HB1.out.frozen 1
 have z2:w1.frozen? ⟨p,2,none⟩=false:=HB1.out.frozen 2
 have HBAD:=hid (RwS.bad HB1.out ha hz)
 have HOB:=hid (HO.out.trans (Yk w1 p 2 (.bool true)))
 cases b with
 |true=>
  rw[show Y6 false (if true=true then(.error (s.size-a))else .ok (s.data.toList.drop a))=[]from rfl]
  have qm:=hid (show XZ ((Except.error (s.size-a):Except Nat (List UInt8)) >>= fZ m) 0 (.error (s.size-a))from rfl)
  go_wp2_with fail
  exact bodyPost_ret (v:= .int .u64 (0:Nat)) (by simp[results,Tryz.results53]) rfl ⟨0,_,rfl,Nat.zero_le _,HBAD.out,qm.out,HOB.out⟩
 |false=>
  have HGO:=hid (fun k (hk:a+k≤s.size)=>RwS.go (k:=k) HB1.out rfl hk hz)
  obtain⟨d,hd⟩:∃d,d=(s.data.toList.drop a).takeWhile iT:=⟨_,rfl⟩
  have hdl:d.length≤s.size-a:=by
   have h:=(List.takeWhile_sublist (l:=s.data.toList.drop a) iT).length_le
   rw[List.length_drop,Array.length_toList]at h
   rw[hd]
   exact h
  have HDA:=hid (show∀c∈d,iT c=true from by rw[hd];exact(lI (p:=iT) (s.data.toList.drop a)).2.1)
  have HRN:=hid (show(Except.ok (s.data.toList.drop a) >>= fZ m)=if d.length=0∨20<d.length∨(1<d.length∧d.head?=some 48)then .error (s.size-a)else(match Yq m d 0 with|none=> .error (s.size-a)|some n=> .ok (n,(s.data.toList.drop a).drop d.length))from by
   show fZ m (s.data.toList.drop a)=_
   rw[←aah hm h64]
   unfold aam
   rw[←hd,List.length_drop,Array.length_toList]
   rfl)
  rw[show ofL (Y6 false (if false=true then .error (s.size-a)else .ok (s.data.toList.drop a)))=ofL d from by rw[hd];rfl]
  clear hd hrl
  obtain⟨X,hX⟩:∃X,X=ofL d:=⟨_,rfl⟩
  rw[←hX]
  have HXS:=hid (show X.size=d.length from by rw[hX,dU])
  have HXL:=hid (show X.data.toList=d from by rw[hX];simp[ofL])
  have hxz:X.size≤16777216:=by rw[HXS.out];omega
  have HDL:=hid hdl
  clear hX hdl
  have HBE:=hid (show∀st:Except Nat (Nat×List UInt8),XZ st 0 (.error (s.size-a))→Yn p s (fun n:Nat=> .int .u64 (n:Int)) (fun n=>n≤m) st (fun i=>i=p) w (.returned (.int .u64 (0:Int))) (w1.setCell ⟨p,2,none⟩ (.bool true))from fun st h=>⟨0,_,rfl,Nat.zero_le _,HBAD.out,h,HOB.out⟩)
  obtain⟨bb,hbb⟩:∃bb,bb=decide (d.length=0∨20<d.length∨(1<d.length∧d.head?=some 48)):=⟨_,rfl⟩
  have HBB:=hid hbb
  clear hbb
  go_upto_region 2 with(fail)
  go_cut [28] (fun v wx=>v= .bool bb∧wx=w1)
  case first=>
   as_aux_lemma=>
   by_cases h0:X.size=0
   ·have HG:=hid (show bb=true from by rw[HBB.out,decide_eq_true_eq];exact .inl (by rw[←HXS.out];exact h0))
    have b0:((X.size:Int)==0)=true:=by rw[beq_iff_eq];omega
    clear h0
    go_wp2_with fail
    go_meet
    case rel=>exact⟨by rw[HG.out],rfl⟩
   ·have b0:((X.size:Int)==0)=false:=by rw[beq_eq_false_iff_ne];omega
    have hpos:0<X.size:=by omega
    by_cases h20:(20:Int)<(X.size:Int)
    ·have HG:=hid (show bb=true from by rw[HBB.out,decide_eq_true_eq];exact .inr (.inl (by rw[←HXS.out];omega)))
     clear h0
     go_wp2_with fail
     go_meet
     case rel=>exact⟨by rw[HG.out],rfl⟩
    ·obtain⟨c,hc⟩:∃c,c=X[0]'hpos:=⟨_,rfl⟩
     have HHD:=hid (show d.head?=some c from by
      rw[hc,←HXL.out,List.head?_eq_getElem?]
      exact byte_at X 0 hpos)
     have hidx:X[0]'hpos=c:=hc.symm
     clear hc
     by_cases h1:(1:Int)<(X.size:Int)
     ·by_cases h48:c.toNat=48
      ·have HG:=hid (show bb=true from by rw[HBB.out,decide_eq_true_eq];exact .inr (.inr ⟨by rw[←HXS.out];omega,by rw[HHD.out,show c=48 from UInt8.toNat_inj.1 h48]⟩))
       have b48:((c.toNat:Int)==48)=true:=by rw[beq_iff_eq];omega
       clear h0 h48
       go_wp2_with fail
       go_meet
       case rel=>exact⟨by rw[HG.out],rfl⟩
      ·have HG:=hid (show bb=false from by
        rw[HBB.out,decide_eq_false_iff_not,←HXS.out]
        rintro(h|h|⟨h,h'⟩)
        ·exact h0 h
        ·omega
        ·rw[HHD.out]at h'
         injection h' with h'
         exact h48 (by rw[h'];rfl))
       have b48:((c.toNat:Int)==48)=false:=by rw[beq_eq_false_iff_ne];omega
       clear h0 h48
       go_wp2_with fail
       go_meet
       case rel=>exact⟨by rw[HG.out],rfl⟩
     ·have HG:=hid (show bb=false from by
       rw[HBB.out,decide_eq_false_iff_not,←HXS.out]
       rintro(h|h|⟨h,h'⟩)
       ·exact h0 h
       ·omega
       ·omega)
      clear h0
      go_wp2_with fail
      go_meet
      case rel=>exact⟨by rw[HG.out],rfl⟩
  obtain⟨rfl,rfl⟩:=hcut
  cases bb with
  |true=>
   have HG:=hid (show XZ (Except.ok (s.data.toList.drop a) >>= fZ m) 0 (.error (s.size-a))from by rw[HRN.out,if_pos (of_decide_eq_true HBB.out.symm)];rfl)
   go_wp2_with fail
   exact bodyPost_ret (v:= .int .u64 (0:Int)) (by simp[results,Tryz.results53]) rfl (HBE.out _ HG.out)
  |false=>
   have aay:=hid (show(Except.ok (s.data.toList.drop a) >>= fZ m)=(match Yq m d 0 with|none=> .error (s.size-a)|some n=> .ok (n,(s.data.toList.drop a).drop d.length))from by rw[HRN.out,if_neg (of_decide_eq_false HBB.out.symm)])
   clear HRN HBB
   have hm9:(9:Int)≤(m:Int):=by omega
   have aaR:(m:Int)<18446744073709551616:=by omega
   go_upto_region 7 with(fail)
   go_loop [6,7] (fun n i=>∃k j:Nat,n= .int .u64 (k:Int)∧i= .int .i64 (j:Int)∧k≤m∧j≤X.size∧Hid (Yq m d 0=Yq m (d.drop j) k)) (fun n i=>X.size-(intOf i).toNat)
   case atStart=>exact⟨0,0,rfl,rfl,Nat.zero_le _,Nat.zero_le _,hid rfl⟩
   case round=>
    obtain⟨k,j,rfl,rfl,hk,hj,HN⟩:=hrel
    by_cases hlt:j<X.size
    ·obtain⟨c,hc⟩:∃c,c=X[j]'hlt:=⟨_,rfl⟩
     have HCA:=hid (show d[j]? =some c from by rw[←HXL.out,hc];exact byte_at X j hlt)
     have HDR:=hid (show d.drop j=c::d.drop (j+1)from by
      obtain⟨h1,h2⟩:=List.getElem?_eq_some_iff.1 HCA.out
      rw[List.drop_eq_getElem_cons h1,h2])
     have hcd:=Il (HDA.out c (List.mem_of_getElem? HCA.out))
     have hidx:X[j]'hlt=c:=hc.symm
     clear hc
     have hw8:IntKind.u8.wrap ((c.toNat:Int)-48)=(c.toNat:Int)-48:=by rw[IntKind.wrap_u8];omega
     have hw64:IntKind.u64.wrap ((c.toNat:Int)-48)=(c.toNat:Int)-48:=by rw[IntKind.wrap_u64];omega
     go_upto_region 10 with(fail)
     obtain⟨e,he⟩:∃e:Nat,e=c.toNat-48:=⟨_,rfl⟩
     rw[show(c.toNat:Int)-48=(e:Int) by omega]
     have HE:=hid he
     have he9:(e:Int)≤9:=by omega
     clear he hw8 hw64 hcd
     have aaz:=hid (fun h=>HBE.out (Except.ok (s.data.toList.drop a) >>= fZ m) (show XZ _ 0 _ from by rw[aay.out,HN.out,HDR.out,ZR h];rfl))
     by_cases hA:(m:Int)/10<(k:Int)
     ·have HG:=hid (aaz.out (.inl (by omega)))
      go_wp2_with fail
      exact bodyPost_ret (v:= .int .u64 (0:Int)) (by simp[results,Tryz.results53]) rfl HG.out
     ·by_cases hB:(m:Int)-(e:Int)<(k:Int)*10
      ·have HG:=hid (aaz.out (.inr (by have:=HE.out;omega)))
       go_wp2_with fail
       exact bodyPost_ret (v:= .int .u64 (0:Int)) (by simp[results,Tryz.results53]) rfl HG.out
      ·have HNX:=hid (show Yq m d 0=Yq m (d.drop (j+1)) (k*10+e)from by
        rw[HN.out,HDR.out,HE.out]
        exact ZT (by omega) (by have:=HE.out;omega))
       go_wp2_with fail
       go_round
       case rel=>exact⟨k*10+e,j+1,by go_num,by go_num,by omega,by omega,HNX⟩
       case measure=>first|(simp[intOf];done)|(simp[intOf];omega)
    ·have HL:=hid (show d.drop j=[]from List.drop_eq_nil_of_le (by rw[←HXS.out];omega))
     have HNN:=hid (show Yq m d 0=some k from by rw[HN.out,HL.out];rfl)
     have HRS:=hid (HGO.out d.length (by have:=HDL.out;omega))
     have HOF:=hid (HO.out.trans (Yk wc p 1 (.int .i64 ((a:Int)+(d.length:Int)))))
     have HXI:=hid (show(X.size:Int)=(d.length:Int)from by rw[HXS.out])
     go_wp2_with fail
     rw[HXI.out]
     exact bodyPost_ret (v:= .int .u64 (k:Int)) (by simp[results,Tryz.results53]) rfl ⟨k,_,rfl,hk,HRS.out,by rw[aay.out,HNN.out];exact⟨rfl,rfl⟩,HOF.out⟩
theorem YO(n:Nat)(hn:n<16)(w:World):Calls Tryz.prog 195 #[.int .u8 (n:Int)] w fun e w'=>e= .returned (.int .u8 ((hexD n).toNat:Int))∧w=w':=by
 by_cases h:(n:Int)<10
 ·have HR:=hid (show Ending.returned (.int .u8 (48+(n:Int)))= .returned (.int .u8 ((hexD n).toNat:Int))from by
   unfold hexD
   rw[if_pos (by omega),iK _ (by omega)]
   rfl)
  go_enter Tryz.func195,Tryz.ntmps195
  go_wp2_with fail
  exact bodyPost_ret (v:= .int .u8 (48+(n:Int))) (by simp[results,Tryz.results195]) rfl ⟨HR.out,rfl⟩
 ·have HR:=hid (show Ending.returned (.int .u8 (97+(n:Int)-10))= .returned (.int .u8 ((hexD n).toNat:Int))from by
   unfold hexD
   rw[if_neg (by omega),iK _ (by omega),show(97:Int)+(n:Int)-10=((87+n:Nat):Int) by omega])
  go_enter Tryz.func195,Tryz.ntmps195
  go_wp2_with fail
  exact bodyPost_ret (v:= .int .u8 (97+(n:Int)-10)) (by simp[results,Tryz.results195]) rfl ⟨HR.out,rfl⟩
theorem Yd(w:World)(bs:List UInt8):Reads (al w (aX bs) 5) (w.heap.size+1) 1 (some ⟨w.heap.size,0,none⟩) bs.length (aX bs):=dI w 5 (aX bs) bs.length 1 (by rw[jQ,Nat.mul_one])
theorem ZF{c:UInt8}(h:esc c=true):dw c=[92,c]:=by unfold dw;rw[if_pos h]
theorem ZG{c:UInt8}(h:esc c=false)(h2:ctl c=true):dw c=[92,120,hexD (c.toNat/16),hexD (c.toNat%16)]:=by unfold dw;rw[if_neg (by rw[h];decide),if_pos h2];rfl
theorem ZV{c:UInt8}(h:esc c=false)(h2:ctl c=false):dw c=[c]:=by unfold dw;rw[if_neg (by rw[h];decide),if_neg (by rw[h2];decide)]
theorem Yu{l:List UInt8}{j:Nat}{c:UInt8}(h:l[j]? =some c):(34::(l.take j).flatMap dw)++dw c=34::(l.take (j+1)).flatMap dw:=by
 rw[List.take_add_one,h,Option.toList_some,List.flatMap_append]
 simp
theorem YZ(X:ByteArray)(hz:X.size≤16777216)(w:World):
  Calls Tryz.prog 184 #[.string X] w fun e w'=>e= .returned (.string (ofL (Ah X.data.toList)))∧Below w.heap.size w w':=by
 obtain⟨l,hl⟩:∃l,l=X.data.toList:=⟨_,rfl⟩
 have hXs:X.size=l.length:=by rw[hl,Array.length_toList];rfl
 have HL:=hid hl
 rw[←hl]
 clear hl
 have HXS:=hid hXs
 clear hXs
 have aaF:=hid (dS w w.heap.size 5 1)
 have HB0:=hid (Below.refl w.heap.size w)
 have hup0:Below w.heap.size w (al w (aX [34]) 5):=(Below.refl _ _).alloc (Nat.le_refl _) _
 have aan:=hid hup0
 have aaA:=hid (aI aaF.out hup0)
 have aaG:=hid (Yd w [34])
 clear hup0
 go_enter Tryz.func184,Tryz.ntmps184
 go_upto_region 3 with(at_builtin;refine kY (.tmp 6) (.tmp 7) rfl rfl w.heap.size _ [] rfl aaA.out (w.heap.size+1) _ 1 [34] rfl aaG.out (by decide) aan.out.size ?_;intro v2 w2 hown hgr hor;have HO2:=hid hown;have HB2:=hid (aan.out.grown hgr aan.out.size (fun g hg=>dH aaA.out g hg));clear hown hgr hor)
 go_upto_region 4 with(fail)
 go_loopw [3,4] (fun b i wr=>∃(j:Nat) (B:List UInt8),i= .int .i64 (j:Int)∧j≤X.size∧wr.ownsRow w.heap.size 5 1 b B.length (aX B)∧Below w.heap.size w wr∧Hid (B=34::(l.take j).flatMap dw)∧B.length≤1+4*j) (fun _ i _=>X.size-(intOf i).toNat)
 case atStart=>exact⟨0,[34],rfl,Nat.zero_le _,HO2.out,HB2.out,hid rfl,by decide⟩
 case round=>
  obtain⟨j,B,rfl,hj,ho,hb,HBE,hBl⟩:=hrel
  have HOW:=hid ho;clear ho
  have HBR:=hid hb;clear hb
  obtain⟨A0,cap,rfl,hc0,hm0⟩:=aJ HOW.out
  by_cases hlt:j<X.size
  ·obtain⟨c,hc⟩:∃c,c=X[j]'hlt:=⟨_,rfl⟩
   have HCA:=hid (show l[j]? =some c from by rw[HL.out,hc];exact byte_at X j hlt)
   have hidx:X[j]'hlt=c:=hc.symm
   clear hc
   have hc8:c.toNat<256:=c.toNat_lt
   go_upto_region 8 with(fail)
   clear hidx
   go_cut [22] (fun v wx=>v= .bool (esc c)∧wx=wr)
   case first=>
    as_aux_lemma=>
    by_cases h34:c.toNat=34
    ·have b34:((c.toNat:Int)==34)=true:=by rw[beq_iff_eq];omega
     have HE:=hid (show esc c=true from by unfold esc;rw[decide_eq_true h34];rfl)
     clear h34
     go_wp2_with fail
     go_meet
     case rel=>exact⟨by rw[HE.out],rfl⟩
    ·have b34:((c.toNat:Int)==34)=false:=by rw[beq_eq_false_iff_ne];omega
     cases b92:((c.toNat:Int)==92)
     ·have HE:=hid (show esc c=false from by unfold esc;rw[decide_eq_false h34,decide_eq_false (by rw[beq_eq_false_iff_ne]at b92;omega)];rfl)
      clear h34
      go_wp2_with fail
      go_meet
      case rel=>exact⟨by rw[HE.out],rfl⟩
     ·have HE:=hid (show esc c=true from by unfold esc;rw[decide_eq_false h34,decide_eq_true (by rw[beq_iff_eq]at b92;omega)];rfl)
      clear h34
      go_wp2_with fail
      go_meet
      case rel=>exact⟨by rw[HE.out],rfl⟩
   obtain⟨rfl,rfl⟩:=hcut
   cases he:esc c with
   |true=>
    have HQC:=hid (ZF he)
    clear he
    have hup:Below wc.heap.size wc (al wc (aX [92,c]) 5):=(Below.refl _ _).alloc (Nat.le_refl _) _
    have HBA:=hid (HBR.out.trans (hup.mono HBR.out.size))
    have HOA:=hid (aI HOW.out hup)
    have HRA:=hid (Yd wc [92,c])
    have HLL:=hid (show B.length+([92,c]:List UInt8).length≤140737488355327 from by simp only[List.length_cons,List.length_nil];omega)
    clear hup
    go_wp2_with(at_builtin;refine kY (.tmp 29) (.tmp 31) rfl rfl w.heap.size _ B rfl HOA.out (wc.heap.size+1) _ 2 [92,c] rfl HRA.out HLL.out HBA.out.size ?_;intro v2 w2 hown hgr hor;have HO2:=hid hown;have HB2:=hid (HBA.out.grown hgr HBA.out.size (fun g hg=>dH HOA.out g hg));clear hown hgr hor)
    go_roundw
    case rel=>
     refine⟨j+1,B++[92,c],by go_num,by omega,HO2.out,HB2.out, ?_, ?_⟩
     ·rw[HBE.out,←HQC.out];exact Yu HCA.out
     ·rw[List.length_append];simp only[List.length_cons,List.length_nil];omega
    case measure=>first|(simp[intOf];done)|(simp[intOf];omega)
   |false=>
    go_upto_region 10 with(fail)
    go_cut [33] (fun v wx=>v= .bool (ctl c)∧wx=wc)
    case first=>
     as_aux_lemma=>
     by_cases h32:(c.toNat:Int)<32
     ·have HE:=hid (show ctl c=true from by unfold ctl;rw[decide_eq_true (show c.toNat<32 by omega)];rfl)
      go_wp2_with fail
      go_meet
      case rel=>exact⟨by rw[HE.out],rfl⟩
     ·cases UZ:((c.toNat:Int)==127)
      ·have HE:=hid (show ctl c=false from by unfold ctl;rw[decide_eq_false (show¬c.toNat<32 by omega),decide_eq_false (by rw[beq_eq_false_iff_ne]at UZ;omega)];rfl)
       go_wp2_with fail
       go_meet
       case rel=>exact⟨by rw[HE.out],rfl⟩
      ·have HE:=hid (show ctl c=true from by unfold ctl;rw[decide_eq_false (show¬c.toNat<32 by omega),decide_eq_true (by rw[beq_iff_eq]at UZ;omega)];rfl)
       go_wp2_with fail
       go_meet
       case rel=>exact⟨by rw[HE.out],rfl⟩
    obtain⟨rfl,rfl⟩:=hcut
    cases hk:ctl c with
    |true=>
     have HQC:=hid (ZG he hk)
     clear he hk
     have h16:c.toNat/16<16:=by omega
     have aaB:c.toNat%16<16:=by omega
     have HD1:=hid (show(c.toNat:Int)/16=((c.toNat/16:Nat):Int)from by omega)
     have HD2:=hid (show(c.toNat:Int)%16=((c.toNat%16:Nat):Int)from by omega)
     have HH1:=hid (fun w=>YO (c.toNat/16) h16 w)
     have HH2:=hid (fun w=>YO (c.toNat%16) aaB w)
     clear h16 aaB
     go_wp2_with fail
     rw[HD1.out]
     refine(HH1.out _).mono ?_
     rintro e w3 ⟨rfl,rfl⟩
     go_wp2_with fail
     rw[HD2.out]
     refine(HH2.out _).mono ?_
     rintro e w3 ⟨rfl,rfl⟩
     generalize hexD (c.toNat/16)=d1 at HQC⊢
     generalize hexD (c.toNat%16)=d2 at HQC⊢
     clear HD1 HD2 HH1 HH2
     have hup:Below wc.heap.size wc (al wc (aX [92,120,d1,d2]) 5):=(Below.refl _ _).alloc (Nat.le_refl _) _
     have HBA:=hid (HBR.out.trans (hup.mono HBR.out.size))
     have HOA:=hid (aI HOW.out hup)
     have HRA:=hid (Yd wc [92,120,d1,d2])
     have HLL:=hid (show B.length+([92,120,d1,d2]:List UInt8).length≤140737488355327 from by simp only[List.length_cons,List.length_nil];omega)
     clear hup
     go_wp2_with(at_builtin;refine kY (.tmp 40) (.tmp 47) rfl rfl w.heap.size _ B rfl HOA.out (wc.heap.size+1) _ 4 [92,120,d1,d2] rfl HRA.out HLL.out HBA.out.size ?_;intro v2 w2 hown hgr hor;have HO2:=hid hown;have HB2:=hid (HBA.out.grown hgr HBA.out.size (fun g hg=>dH HOA.out g hg));clear hown hgr hor)
     go_roundw
     case rel=>
      refine⟨j+1,B++[92,120,d1,d2],by go_num,by omega,HO2.out,HB2.out, ?_, ?_⟩
      ·rw[HBE.out,←HQC.out];exact Yu HCA.out
      ·rw[List.length_append];simp only[List.length_cons,List.length_nil];omega
     case measure=>first|(simp[intOf];done)|(simp[intOf];omega)
    |false=>
     have HQC:=hid (ZV he hk)
     clear he hk
     have hup:Below wc.heap.size wc (al wc (aX [c]) 5):=(Below.refl _ _).alloc (Nat.le_refl _) _
     have HBA:=hid (HBR.out.trans (hup.mono HBR.out.size))
     have HOA:=hid (aI HOW.out hup)
     have HRA:=hid (Yd wc [c])
     have HLL:=hid (show B.length+([c]:List UInt8).length≤140737488355327 from by simp only[List.length_cons,List.length_nil];omega)
     clear hup
     go_wp2_with(at_builtin;refine kY (.tmp 18) (.tmp 20) rfl rfl w.heap.size _ B rfl HOA.out (wc.heap.size+1) _ 1 [c] rfl HRA.out HLL.out HBA.out.size ?_;intro v2 w2 hown hgr hor;have HO2:=hid hown;have HB2:=hid (HBA.out.grown hgr HBA.out.size (fun g hg=>dH HOA.out g hg));clear hown hgr hor)
     go_roundw
     case rel=>
      refine⟨j+1,B++[c],by go_num,by omega,HO2.out,HB2.out, ?_, ?_⟩
      ·rw[HBE.out,←HQC.out];exact Yu HCA.out
      ·rw[List.length_append];simp only[List.length_cons,List.length_nil];omega
     case measure=>first|(simp[intOf];done)|(simp[intOf];omega)
  ·have HT:=hid (show l.take j=l from List.take_of_length_le (by rw[←HXS.out];omega))
   have HR:=hid (show B++[34]=Ah l from by rw[HBE.out,HT.out];unfold Ah;rfl)
   have hup:Below wr.heap.size wr (al wr (aX [34]) 5):=(Below.refl _ _).alloc (Nat.le_refl _) _
   have HBA:=hid (HBR.out.trans (hup.mono HBR.out.size))
   have HOA:=hid (aI HOW.out hup)
   have HRA:=hid (Yd wr [34])
   have HLL:=hid (show B.length+([34]:List UInt8).length≤140737488355327 from by simp only[List.length_cons,List.length_nil];omega)
   clear hup
   go_upto_region 13 with(at_builtin;refine kY (.tmp 49) (.tmp 50) rfl rfl w.heap.size _ B rfl HOA.out (wr.heap.size+1) _ 1 [34] rfl HRA.out HLL.out HBA.out.size ?_;intro v2 w2 hown hgr hor;have HO2:=hid hown;have HB2:=hid (HBA.out.grown hgr HBA.out.size (fun g hg=>dH HOA.out g hg));clear hown hgr hor)
   obtain⟨A2,cap2,rfl,hc2,hm2⟩:=aJ HO2.out
   have hcv:(convert 22 9 (.slice A2 (B.length+1) cap2)).run Tryz.prog w2= .ok (.string (ofL (B++[34]))) w2:=by
    have h:=HO2.out
    rw[List.length_append]at h
    exact jH (Bys.iH h)
   go_wp2_with fail
   rw[HR.out]
   exact bodyPost_ret (v:= .string (ofL (Ah l))) (by simp[results,Tryz.results184]) rfl ⟨rfl,HB2.out⟩
theorem Yb(c:UInt8)(w:World):Calls Tryz.prog 182 #[.int .u8 (c.toNat:Int),.int .i64 16] w fun e w'=>e= .returned (.tuple #[.int .u8 (X_ c:Int),.bool (dG c)])∧w=w':=Yx true c w
theorem Yy(c:UInt8):X_ c<16:=by
 unfold X_
 split
 ·exact(rH (by assumption)).1
 ·decide
theorem Yf{l:List UInt8}(h:l.length≤1):XT l=[]:=by
 rcases l with _|⟨c,_|⟨d,l⟩⟩
 ·rfl
 ·rfl
 ·simp at h
theorem YP{l:List UInt8}{j:Nat}{c d:UInt8}(h:l[j]? =some c)(h2:l[j+1]? =some d):l.drop j=c::d::l.drop (j+2):=by
 rw[drop_at l j c h,drop_at l (j+1) d h2]
theorem Zn{l:List UInt8}{j:Nat}{d:UInt8}(h:l.drop j=92::d::l.drop (j+2))(hl:l.length≤j+3):XT (l.drop j)=d::XT (l.drop (j+2)):=by
 have hk:(l.drop (j+2)).length≤1:=by rw[List.length_drop];omega
 rw[Yf hk,h]
 generalize l.drop (j+2)=r at hk
 rcases r with _|⟨x,_|⟨y,r⟩⟩
 ·exact(Yw d 0).1
 ·exact(Yw d x).2
 ·simp at hk
theorem Y7(X:ByteArray)(hp1:1≤X.size)(hz:X.size≤16777216)(w:World):
  Calls Tryz.prog 183 #[.string X] w fun e w'=>e= .returned (.string (ofL (XT (X.data.toList.drop 1))))∧Below w.heap.size w w':=by
 obtain⟨l,hl⟩:∃l,l=X.data.toList:=⟨_,rfl⟩
 have HXS:=hid (show X.size=l.length from by rw[hl,Array.length_toList];rfl)
 have HL:=hid hl
 rw[←hl]
 clear hl
 obtain⟨Y,hY⟩:∃Y,Y=XT (l.drop 1):=⟨_,rfl⟩
 rw[←hY]
 have HY:=hid hY
 clear hY
 go_enter Tryz.func183,Tryz.ntmps183
 go_upto_region 3 with(fail)
 go_loopw [3,4] (fun b i wr=>∃(j:Nat) (B:List UInt8),i= .int .i64 (j:Int)∧1≤j∧j≤X.size∧wr.ownsRow w.heap.size 5 1 b B.length (aX B)∧Below w.heap.size w wr∧Hid (Y=B++XT (l.drop j))∧B.length≤j) (fun _ i _=>X.size-(intOf i).toNat)
 case atStart=>exact⟨1,[],rfl,Nat.le_refl _,hp1,dS _ _ _ _,Below.refl _ _,HY,Nat.zero_le _⟩
 case round=>
  obtain⟨j,B,rfl,hj1,hj,ho,hb,HPL,hBl⟩:=hrel
  have HOW:=hid ho;clear ho
  have HBR:=hid hb;clear hb
  obtain⟨A0,cap,rfl,hc0,hm0⟩:=aJ HOW.out
  by_cases hlt:(j:Int)<(X.size:Int)-1
  ·have hj2:j+1<X.size:=by omega
   obtain⟨c,hc⟩:∃c,c=X[j]'(by omega):=⟨_,rfl⟩
   have HCA:=hid (show l[j]? =some c from by rw[HL.out,hc];exact byte_at X j (by omega))
   have hidx:X[j]'(by omega)=c:=hc.symm
   obtain⟨d,hd⟩:∃d,d=X[j+1]'hj2:=⟨_,rfl⟩
   have HDA:=hid (show l[j+1]? =some d from by rw[HL.out,hd];exact byte_at X (j+1) hj2)
   have hidx1:X[j+1]'hj2=d:=hd.symm
   have HDR:=hid (YP HCA.out HDA.out)
   clear hc hd
   have hc8:c.toNat<256:=c.toNat_lt
   have hd8:d.toNat<256:=d.toNat_lt
   by_cases h92:c.toNat=92
   ·have b92:((c.toNat:Int)==92)=true:=by rw[beq_iff_eq];omega
    have aao:=hid (show c=92 from UInt8.toNat_inj.1 h92)
    clear h92
    by_cases h3:(j:Int)+3<(X.size:Int)
    ·by_cases PN:d.toNat=120
     ·have aaH:((d.toNat:Int)==120)=true:=by rw[beq_iff_eq];omega
      have aaC:=hid (show d=120 from UInt8.toNat_inj.1 PN)
      clear PN
      have hj3:j+2<X.size:=by omega
      have hj4:j+3<X.size:=by omega
      obtain⟨h,hh⟩:∃h,h=X[j+2]'hj3:=⟨_,rfl⟩
      obtain⟨k,hk⟩:∃k,k=X[j+3]'hj4:=⟨_,rfl⟩
      have HHK:=hid (show l.drop (j+2)=h::k::l.drop (j+4)from YP (by rw[HL.out,hh];exact byte_at X (j+2) hj3) (by rw[HL.out,hk];exact byte_at X (j+3) hj4))
      have hidx2:X[j+2]'hj3=h:=hh.symm
      have hidx3:X[j+3]'hj4=k:=hk.symm
      clear hh hk
      have HNX:=hid (show XT (l.drop j)=UInt8.ofNat (X_ h*16+X_ k)::XT (l.drop (j+4))from by rw[HDR.out,HHK.out,aao.out,aaC.out];exact YI _ _ _)
      have g1:=Yy h
      have g2:=Yy k
      clear HDR HDA HHK
      go_wp2_with fail
      refine(Yb h _).mono ?_
      rintro e w1 ⟨rfl,rfl⟩
      go_wp2_with fail
      refine(Yb k _).mono ?_
      rintro e w1 ⟨rfl,rfl⟩
      generalize X_ h=x at HNX g1⊢
      generalize X_ k=y at HNX g2⊢
      go_upto_region 14 with(fail)
      have HQ:=hid (show(x:Int)*16+(y:Int)=((UInt8.ofNat (x*16+y)).toNat:Int)from by rw[iK _ (by omega)];omega)
      rw[HQ.out]
      generalize UInt8.ofNat (x*16+y)=q at HNX⊢
      clear HQ hidx hidx1 hidx2 hidx3
      have hup:Below wr.heap.size wr (wr.alloc (.cells #[.int .u8 (q.toNat:Int)] 5)):=(Below.refl _ _).alloc (Nat.le_refl _) _
      have HBA:=hid (HBR.out.trans (hup.mono HBR.out.size))
      have HOA:=hid (aI HOW.out hup)
      have HRA:=hid (show Reads (wr.alloc (.cells #[.int .u8 (q.toNat:Int)] 5)) (wr.heap.size+1) 1 (some ⟨wr.heap.size,0,none⟩) ([q]:List UInt8).length (aX [q])from Yd wr [q])
      have HLL:=hid (show B.length+([q]:List UInt8).length≤140737488355327 from by simp only[List.length_cons,List.length_nil];omega)
      clear hup
      go_wp2_with(at_builtin;refine kY (.tmp 65) (.tmp 67) rfl rfl w.heap.size _ B rfl HOA.out (wr.heap.size+1) _ 1 [q] rfl HRA.out HLL.out HBA.out.size ?_;intro v2 w2 hown hgr hor;have HO2:=hid hown;have HB2:=hid (HBA.out.grown hgr HBA.out.size (fun g hg=>dH HOA.out g hg));clear hown hgr hor)
      go_roundw
      case rel=>
       refine⟨j+4,B++[q],by go_num,by omega,by omega,HO2.out,HB2.out,hid ?_, ?_⟩
       ·rw[HPL.out,HNX.out,List.append_assoc];rfl
       ·rw[List.length_append];simp only[List.length_cons,List.length_nil];omega
      case measure=>first|(simp[intOf];done)|(simp[intOf];omega)
     ·have aaH:((d.toNat:Int)==120)=false:=by rw[beq_eq_false_iff_ne];omega
      have HNX:=hid (show XT (l.drop j)=d::XT (l.drop (j+2))from by rw[HDR.out,aao.out];exact YJ PN _)
      clear PN
      clear HDR HDA
      go_upto_region 14 with(fail)
      clear hidx hidx1
      have hup:Below wr.heap.size wr (wr.alloc (.cells #[.int .u8 (d.toNat:Int)] 5)):=(Below.refl _ _).alloc (Nat.le_refl _) _
      have HBA:=hid (HBR.out.trans (hup.mono HBR.out.size))
      have HOA:=hid (aI HOW.out hup)
      have HRA:=hid (show Reads (wr.alloc (.cells #[.int .u8 (d.toNat:Int)] 5)) (wr.heap.size+1) 1 (some ⟨wr.heap.size,0,none⟩) ([d]:List UInt8).length (aX [d])from Yd wr [d])
      have HLL:=hid (show B.length+([d]:List UInt8).length≤140737488355327 from by simp only[List.length_cons,List.length_nil];omega)
      clear hup
      go_wp2_with(at_builtin;refine kY (.tmp 65) (.tmp 67) rfl rfl w.heap.size _ B rfl HOA.out (wr.heap.size+1) _ 1 [d] rfl HRA.out HLL.out HBA.out.size ?_;intro v2 w2 hown hgr hor;have HO2:=hid hown;have HB2:=hid (HBA.out.grown hgr HBA.out.size (fun g hg=>dH HOA.out g hg));clear hown hgr hor)
      go_roundw
      case rel=>
       refine⟨j+2,B++[d],by go_num,by omega,by omega,HO2.out,HB2.out,hid ?_, ?_⟩
       ·rw[HPL.out,HNX.out,List.append_assoc];rfl
       ·rw[List.length_append];simp only[List.length_cons,List.length_nil];omega
      case measure=>first|(simp[intOf];done)|(simp[intOf];omega)
    ·have HNX:=hid (show XT (l.drop j)=d::XT (l.drop (j+2))from Zn (by rw[HDR.out,aao.out]) (by rw[←HXS.out];omega))
     clear HDR HDA
     go_upto_region 14 with(fail)
     clear hidx hidx1
     have hup:Below wr.heap.size wr (wr.alloc (.cells #[.int .u8 (d.toNat:Int)] 5)):=(Below.refl _ _).alloc (Nat.le_refl _) _
     have HBA:=hid (HBR.out.trans (hup.mono HBR.out.size))
     have HOA:=hid (aI HOW.out hup)
     have HRA:=hid (show Reads (wr.alloc (.cells #[.int .u8 (d.toNat:Int)] 5)) (wr.heap.size+1) 1 (some ⟨wr.heap.size,0,none⟩) ([d]:List UInt8).length (aX [d])from Yd wr [d])
     have HLL:=hid (show B.length+([d]:List UInt8).length≤140737488355327 from by simp only[List.length_cons,List.length_nil];omega)
     clear hup
     go_wp2_with(at_builtin;refine kY (.tmp 65) (.tmp 67) rfl rfl w.heap.size _ B rfl HOA.out (wr.heap.size+1) _ 1 [d] rfl HRA.out HLL.out HBA.out.size ?_;intro v2 w2 hown hgr hor;have HO2:=hid hown;have HB2:=hid (HBA.out.grown hgr HBA.out.size (fun g hg=>dH HOA.out g hg));clear hown hgr hor)
     go_roundw
     case rel=>
      refine⟨j+2,B++[d],by go_num,by omega,by omega,HO2.out,HB2.out,hid ?_, ?_⟩
      ·rw[HPL.out,HNX.out,List.append_assoc];rfl
      ·rw[List.length_append];simp only[List.length_cons,List.length_nil];omega
     case measure=>first|(simp[intOf];done)|(simp[intOf];omega)
   ·have b92:((c.toNat:Int)==92)=false:=by rw[beq_eq_false_iff_ne];omega
    have HNX:=hid (show XT (l.drop j)=c::XT (l.drop (j+1))from by rw[drop_at l j c HCA.out];exact YH h92 _ (by rw[drop_at l (j+1) d HDA.out];simp))
    clear h92 HDR HDA hidx1
    have hup:Below wr.heap.size wr (wr.alloc (.cells #[.int .u8 (c.toNat:Int)] 5)):=(Below.refl _ _).alloc (Nat.le_refl _) _
    have HBA:=hid (HBR.out.trans (hup.mono HBR.out.size))
    have HOA:=hid (aI HOW.out hup)
    have HRA:=hid (show Reads (wr.alloc (.cells #[.int .u8 (c.toNat:Int)] 5)) (wr.heap.size+1) 1 (some ⟨wr.heap.size,0,none⟩) ([c]:List UInt8).length (aX [c])from Yd wr [c])
    have HLL:=hid (show B.length+([c]:List UInt8).length≤140737488355327 from by simp only[List.length_cons,List.length_nil];omega)
    clear hup
    go_wp2_with(at_builtin;refine kY (.tmp 65) (.tmp 67) rfl rfl w.heap.size _ B rfl HOA.out (wr.heap.size+1) _ 1 [c] rfl HRA.out HLL.out HBA.out.size ?_;intro v2 w2 hown hgr hor;have HO2:=hid hown;have HB2:=hid (HBA.out.grown hgr HBA.out.size (fun g hg=>dH HOA.out g hg));clear hown hgr hor)
    go_roundw
    case rel=>
     refine⟨j+1,B++[c],by go_num,by omega,by omega,HO2.out,HB2.out,hid ?_, ?_⟩
     ·rw[HPL.out,HNX.out,List.append_assoc];rfl
     ·rw[List.length_append];simp only[List.length_cons,List.length_nil];omega
    case measure=>first|(simp[intOf];done)|(simp[intOf];omega)
  ·have HT:=hid (show Y=B from by rw[HPL.out,Yf (by rw[List.length_drop,←HXS.out];omega),List.append_nil])
   have hcv:(convert 22 9 (.slice A0 B.length cap)).run Tryz.prog wr=_:=jH (Bys.iH HOW.out)
   go_wp2_with fail
   rw[HT.out]
   exact bodyPost_ret (v:= .string (ofL B)) (by simp[results,Tryz.results183]) rfl ⟨rfl,HBR.out⟩
end Go.Proofs.YtkblmloobkiloaaGreatDoor
