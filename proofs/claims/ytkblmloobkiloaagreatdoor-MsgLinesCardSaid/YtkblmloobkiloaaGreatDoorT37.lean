/-
  MUM MUN: what the laws of package msg need of them.
-/
import Derived.Test.YtkblmloobkiloaaGreatDoorT00
import Derived.Test.YtkblmloobkiloaaGreatDoorT36
import Derived.Test.YtkblmloobkiloaaGreatDoorT28
import Derived.Test.YtkblmloobkiloaaGreatDoorT26
set_option maxRecDepth 100000
set_option maxHeartbeats 12800000
namespace Go.Proofs.YtkblmloobkiloaaGreatDoor
open Go.Lib (hid)
open Go.RowKit
def Z9(r:Nat×Nat):Ending:= .returned (.tuple #[.int .i64 (r.1:Int),.int .i64 (r.2:Int)])
theorem YC{k:Nat}{fs:List Fld}(h:bQ k=some fs):fs.length≤4:=by
 rcases FN k with h'|h'|h'|h'|h'|h'|h'|h'|h'|h'|h'|h'|h'|h'|h'|h'|h'|h'|h'|h'|h'|h'|h'|h'|h'|h'|h'|h'
 all_goals first|(rw[h']at h;first|(injection h with h;subst h;decide)|cases h)
theorem Z_{m:Mg}(h:bQ m.kind=none):refused m=(32,0):=by unfold refused;rw[h]
theorem Yz{m:Mg}{fs:List Fld}{f:Fld}(h:bQ m.kind=some fs)(hf:f∈fs)(hg:m.good f=false):refused m=(30,0):=by
 unfold refused
 rw[h]
 dsimp only
 rw[if_neg]
 intro hh
 have:=List.all_eq_true.1 hh f hf
 rw[hg]at this
 cases this
theorem ZW{m:Mg}{fs:List Fld}(h:bQ m.kind=some fs)(hg:∀f∈fs,m.good f=true):refused m=if 65536<m.size fs then(31,0)else(0,m.size fs):=by
 unfold refused
 rw[h]
 dsimp only
 rw[if_pos (List.all_eq_true.2 hg)]
theorem aac(m:Mg)(hs:m.small)(l:List Fld):(l.map m.long).sum≤l.length*16777216:=by
 have h2:∀f,m.long f≤16777216:=hs
 generalize m.long=g at h2
 induction l with
 |nil=>exact Nat.zero_le _
 |cons f l ih=>
  rw[List.map_cons,List.sum_cons,List.length_cons,Nat.succ_mul,Nat.add_comm]
  exact Nat.add_le_add ih (h2 f)
theorem ZX(f:Fld):((f.rX.toNat:Int)==78)=decide (f= .names)∧((f.rX.toNat:Int)==81)=decide (f= .aV)∧((f.rX.toNat:Int)==83)=decide (f= .stat):=by cases f<;>exact⟨by decide,by decide,by decide⟩
theorem aad{f:Fld}(hf:f.isText=true)(m:Mg):m.good f=good (m.txt f):=by cases f<;>first|rfl|exact absurd hf (by decide)
theorem aae{f:Fld}(h1:f.isText=false)(h2:f≠ .names)(h3:f≠ .aV)(h4:f≠ .stat)(m:Mg):m.good f=true:=by cases f<;>first|rfl|exact absurd h1 (by decide)|exact absurd rfl h2|exact absurd rfl h3|exact absurd rfl h4
theorem aau{f:Fld}(hf:f.isText=true){m:Mg}(hs:m.small):(m.txt f).size≤16777216:=by have:=hs f;rw[YU hf]at this;omega
theorem aak{m:Mg}(hs:m.small):∀s∈m.names,s.size≤16777216:=by
 intro s h
 have h1:2+(m.names.map fun s=>2+s.size).sum≤16777216:=hs .names
 have h2:=En (f:=fun s:ByteArray=>2+s.size) h
 omega
theorem Y1(m:Mg)(vn vq vd:Value)(w:World)(hk:m.kind<256)(hl:Lists w w.heap.size m vn vq vd)(hs:m.small):
  Calls Tryz.prog 56 #[iM m vn vq vd] w fun e w'=>e=Z9 (refused m)∧Below w.heap.size w w':=by
 have hup:Below w.heap.size w (w.alloc (.cells (aF m vn vq vd).toArray 41)):=(Below.refl _ _).alloc (Nat.le_refl _) _
 have HU:=hid hup
 have HM:=hid (show aK (w.alloc (.cells (aF m vn vq vd).toArray 41)) w.heap.size m vn vq vd from Blk.new w _ _)
 have HL:=hid hl
 have HS:=hid hs
 have ZY:=hid (fun w1=>Bv m.kind hk w1)
 clear hup hl hs
 go_enter Tryz.func56,Tryz.ntmps56
 go_upto_region 1 with(fail)
 change Code.wp _ _ _ _ (w.alloc (.cells (aF m vn vq vd).toArray 41))
 generalize w.alloc (.cells (aF m vn vq vd).toArray 41)=w1 at HU HM⊢
 generalize hz:w.heap.size=z at HM⊢
 have HZZ:=hid hz;clear hz
 have k0:w1.cell? ⟨z,0,none⟩=some (.int .u8 (m.kind:Int)):=Blk.cell HM.out 0
 go_wp2_with fail
 refine(ZY.out w1).mono ?_
 rintro e w' ⟨rfl,rfl⟩
 clear ZY k0
 cases hf:bQ m.kind with
 |none=>
  rw[show(none:Option (List Fld)).isSome=false from rfl]
  have HR:=hid (Z_ hf)
  clear hf
  go_wp2_with fail
  exact bodyPost_ret (v:= .tuple #[.int .i64 32,.int .i64 0]) (by simp[results,Tryz.results56]) rfl ⟨by rw[HR.out];rfl,HU.out⟩
 |some fs=>
  rw[show(some fs:Option (List Fld)).isSome=true from rfl]
  have HK:=hid hf
  have h4:=YC hf
  have HSB:=hid (show∀j,j≤fs.length→((fs.take j).map m.long).sum≤67108864 from fun j hj=>by
   have h1:=aac m HS.out (fs.take j)
   rw[List.length_take]at h1
   omega)
  have HLL:=hid (show(iQ m.kind).data.toList=fs.map Fld.rX from by
   unfold iQ
   rw[hf]
   simp[ofL])
  have hLs:(iQ m.kind).size=fs.length:=by
   have h:=congrArg List.length HLL.out
   rw[Array.length_toList,List.length_map]at h
   exact h
  clear hf
  generalize iQ m.kind=L at HLL hLs⊢
  go_upto_region 6 with(fail)
  go_loopw [6,7] (fun n i wr=>∃j sm:Nat,n= .int .i64 (sm:Int)∧i= .int .i64 (j:Int)∧j≤fs.length∧sm≤67108871∧Below w.heap.size w wr∧aK wr z m vn vq vd∧Hid (sm=7+((fs.take j).map m.long).sum∧∀f∈fs.take j,m.good f=true)) (fun _ i _=>fs.length-(intOf i).toNat)
  case atStart=>exact⟨0,7,rfl,rfl,Nat.zero_le _,by decide,HU.out,HM.out,hid ⟨rfl,fun f hf=>by cases hf⟩⟩
  case round=>
   obtain⟨j,sm,rfl,rfl,hj,hsm,hb,hmb,HSM⟩:=hrel
   have HB2:=hid hb
   have HM2:=hid hmb
   have HL2:=hid (HL.out.below hb)
   clear hb hmb
   by_cases hlt:j<fs.length
   ·obtain⟨f,hfj⟩:∃f,fs[j]? =some f:=⟨fs[j],List.getElem?_eq_getElem _⟩
    have hjL:j<L.size:=by omega
    have hidx:L[j]'hjL=f.rX:=by
     have h:=byte_at L j hjL
     rw[HLL.out,List.getElem?_map,hfj]at h
     injection h with h
     exact h.symm
    have HFJ:=hid hfj
    have aaf:=hid (List.mem_of_getElem? hfj)
    have HIT:=hid (jV f)
    obtain⟨t1,t2,t3⟩:=ZX f
    clear hfj
    go_wp2_with fail
    refine(HIT.out wr).mono ?_
    rintro e w2 ⟨rfl,rfl⟩
    clear hidx HIT
    cases ht:f.isText with
    |true=>
     have h1:f≠ .names:=by intro e;rw[e]at ht;cases ht
     have h2:f≠ .aV:=by intro e;rw[e]at ht;cases ht
     have h3:f≠ .stat:=by intro e;rw[e]at ht;cases ht
     rw[decide_eq_false h1]at t1
     rw[decide_eq_false h2]at t2
     rw[decide_eq_false h3]at t3
     have HTX:=hid (fun w=>YB f ht m vn vq vd w)
     have HTL:=hid (aau ht HS.out)
     have HGD:=hid (aad ht m)
     clear ht h1 h2 h3
     go_wp2_with(refine wlw HM2.out 0 (aF m vn vq vd) rfl rfl _ _ rfl rfl _ Tryz.underlying41 rfl aB ?_)
     refine(HTX.out wr).mono ?_
     rintro e w5 ⟨rfl,hb⟩
     replace HB2:=hid (HB2.out.trans (hb.mono HB2.out.size))
     replace HM2:=hid (show aK w5 z m vn vq vd from Blk.below HM2.out hb (Blk.lt HM2.out))
     clear hb HTX
     generalize m.txt f=T at HTL HGD⊢
     have hup:Below w5.heap.size w5 (w5.alloc (.cells (h_ [T]).toArray 9)):=(Below.refl _ _).alloc (Nat.le_refl _) _
     have HN3:=hid (show iW (w5.alloc (.cells (h_ [T]).toArray 9)) (w5.alloc (.cells (h_ [T]).toArray 9)).heap.size (.slice (some ⟨w5.heap.size,0,none⟩) 1 1) [T]from by rw[World.size_alloc];exact iW.new w5 _ [T] (show 1≤maxLen by decide))
     have HBX:=hid (HB2.out.trans (hup.mono HB2.out.size))
     have HMX:=hid (show aK (w5.alloc (.cells (h_ [T]).toArray 9)) z m vn vq vd from Blk.below HM2.out hup (Blk.lt HM2.out))
     clear hup
     go_wp2_with fail
     change Calls _ _ _ (w5.alloc (.cells (h_ [T]).toArray 9)) _
     refine(D5 _ [T] _ HN3.out (fun s hs=>by rw[List.mem_singleton]at hs;subst hs;exact HTL.out)).mono ?_
     rintro e w7 ⟨rfl,rfl⟩
     rw[show([T]:List ByteArray).all good=good T from by rw[List.all_cons,List.all_nil,Bool.and_true]]
     generalize w5.alloc (.cells (h_ [T]).toArray 9)=w6 at HBX HMX⊢
     have HLX:=hid (HL.out.below HBX.out)
     clear HN3 HB2 HM2 HL2
     cases hg:good T with
     |false=>
      have HGB:=hid (HGD.out.trans hg)
      clear hg
      have HR:=hid (Yz HK.out aaf.out HGB.out)
      go_wp2_with fail
      exact bodyPost_ret (v:= .tuple #[.int .i64 30,.int .i64 0]) (by simp[results,Tryz.results56]) rfl ⟨by rw[HR.out];rfl,HBX.out⟩
     |true=>
      have HGT:=hid (HGD.out.trans hg)
      clear hg
      go_wp2_with(refine wlw HMX.out 0 (aF m vn vq vd) rfl rfl _ _ rfl rfl _ Tryz.underlying41 rfl aB ?_)
      refine(Yj f m vn vq vd w6 (HLX.out.more HBX.out.size) (HS.out f)).mono ?_
      rintro e w8 ⟨rfl,hb⟩
      have HB8:=hid (HBX.out.trans (hb.mono HBX.out.size))
      have HM8:=hid (show aK w8 z m vn vq vd from Blk.below HMX.out hb (Blk.lt HMX.out))
      have hlf:=HS.out f
      have HLF:=hid (show((fs.take (j+1)).map m.long).sum=((fs.take j).map m.long).sum+m.long f from by rw[List.take_add_one,HFJ.out,Option.toList_some,List.map_append,List.sum_append];simp)
      generalize m.long f=lf at hlf HLF⊢
      clear hb
      go_wp2_with fail
      go_roundw
      case rel=>
       refine⟨j+1,sm+lf,by go_num,by go_num,by omega,by have:=HSM.out.1;have:=HLF.out;have h4:=HSB.out (j+1) (by omega);omega,HB8.out,HM8.out,hid ⟨by rw[HLF.out,←Nat.add_assoc,←HSM.out.1], ?_⟩⟩
       intro g hg
       rw[List.take_add_one,HFJ.out,Option.toList_some,List.mem_append]at hg
       rcases hg with hg|hg
       ·exact HSM.out.2 g hg
       ·rw[List.mem_singleton]at hg;subst hg;exact HGT.out
      case measure=>first|(simp[intOf];done)|(simp[intOf];omega)
    |false=>
     by_cases h1:f= .names
     ·subst h1
      rw[decide_eq_true rfl]at t1
      rw[decide_eq_false (by decide)]at t2
      rw[decide_eq_false (by decide)]at t3
      obtain⟨A,c,hv,hc,hmx, -⟩:=id HL.out.n
      have HV:=hid hv
      clear hv
      have kn:wr.cell? ⟨z,11,none⟩=some (.slice A m.names.length c):=by rw[←HV.out];exact Blk.cell HM2.out 11
      have HBX:=HB2
      have HMX:=HM2
      have HLX:=HL2
      have HNL:=hid (aak HS.out)
      have HGD:=hid (show m.good .names=(decide (m.names.length≤16)&&m.names.all good)from rfl)
      clear ht HB2 HM2 HL2
      go_wp2_with fail
      refine(D5 _ m.names wr (by rw[←HV.out];exact HLX.out.n.more HBX.out.size) HNL.out).mono ?_
      rintro e w7 ⟨rfl,rfl⟩
      cases hga:m.names.all good with
      |false=>
       have HGB:=hid (show m.good .names=false from by rw[HGD.out,hga,Bool.and_false])
       clear hga
       have HR:=hid (Yz HK.out aaf.out HGB.out)
       go_wp2_with fail
       exact bodyPost_ret (v:= .tuple #[.int .i64 30,.int .i64 0]) (by simp[results,Tryz.results56]) rfl ⟨by rw[HR.out];rfl,HBX.out⟩
      |true=>
       by_cases h16:(m.names.length:Int)≤16
       ·have HGT:=hid (show m.good .names=true from by rw[HGD.out,hga,decide_eq_true (by omega)];rfl)
        clear hga
        generalize hf:Fld.names=f at*
        have HFE:=hid hf
        clear hf
        go_wp2_with(refine wlw HMX.out 0 (aF m vn vq vd) rfl rfl _ _ rfl rfl _ Tryz.underlying41 rfl aB ?_)
        refine(Yj f m vn vq vd wr (HLX.out.more HBX.out.size) (HS.out f)).mono ?_
        rintro e w8 ⟨rfl,hb⟩
        have HB8:=hid (HBX.out.trans (hb.mono HBX.out.size))
        have HM8:=hid (show aK w8 z m vn vq vd from Blk.below HMX.out hb (Blk.lt HMX.out))
        have hlf:=HS.out f
        have HLF:=hid (show((fs.take (j+1)).map m.long).sum=((fs.take j).map m.long).sum+m.long f from by rw[List.take_add_one,HFJ.out,Option.toList_some,List.map_append,List.sum_append];simp)
        generalize m.long f=lf at hlf HLF⊢
        clear hb
        go_wp2_with fail
        go_roundw
        case rel=>
         refine⟨j+1,sm+lf,by go_num,by go_num,by omega,by have:=HSM.out.1;have:=HLF.out;have h4:=HSB.out (j+1) (by omega);omega,HB8.out,HM8.out,hid ⟨by rw[HLF.out,←Nat.add_assoc,←HSM.out.1], ?_⟩⟩
         intro g hg
         rw[List.take_add_one,HFJ.out,Option.toList_some,List.mem_append]at hg
         rcases hg with hg|hg
         ·exact HSM.out.2 g hg
         ·rw[List.mem_singleton]at hg;subst hg;exact HGT.out
        case measure=>first|(simp[intOf];done)|(simp[intOf];omega)
       ·have HGB:=hid (show m.good .names=false from by rw[HGD.out,decide_eq_false (by omega)];rfl)
        have hd:decide ((m.names.length:Int)≤16)=false:=decide_eq_false h16
        clear hga
        have HR:=hid (Yz HK.out aaf.out HGB.out)
        go_wp2_with fail
        exact bodyPost_ret (v:= .tuple #[.int .i64 30,.int .i64 0]) (by simp[results,Tryz.results56]) rfl ⟨by rw[HR.out];rfl,HBX.out⟩
     rw[decide_eq_false h1]at t1
     by_cases h2:f= .aV
     ·subst h2
      rw[decide_eq_true rfl]at t2
      rw[decide_eq_false (by decide)]at t3
      obtain⟨A,c,hv,hc,hmx, -⟩:=id HL.out.q
      have HV:=hid hv
      clear hv
      have kn:wr.cell? ⟨z,12,none⟩=some (.slice A m.aV.length c):=by rw[←HV.out];exact Blk.cell HM2.out 12
      have HBX:=HB2
      have HMX:=HM2
      have HLX:=HL2
      have HGD:=hid (show m.good .aV=decide (m.aV.length≤16)from rfl)
      clear ht HB2 HM2 HL2 h1
      by_cases h16:(m.aV.length:Int)≤16
      ·have HGT:=hid (show m.good .aV=true from by rw[HGD.out,decide_eq_true (by omega)])
       generalize hf:Fld.aV=f at*
       have HFE:=hid hf
       clear hf
       go_wp2_with(refine wlw HMX.out 0 (aF m vn vq vd) rfl rfl _ _ rfl rfl _ Tryz.underlying41 rfl aB ?_)
       refine(Yj f m vn vq vd wr (HLX.out.more HBX.out.size) (HS.out f)).mono ?_
       rintro e w8 ⟨rfl,hb⟩
       have HB8:=hid (HBX.out.trans (hb.mono HBX.out.size))
       have HM8:=hid (show aK w8 z m vn vq vd from Blk.below HMX.out hb (Blk.lt HMX.out))
       have hlf:=HS.out f
       have HLF:=hid (show((fs.take (j+1)).map m.long).sum=((fs.take j).map m.long).sum+m.long f from by rw[List.take_add_one,HFJ.out,Option.toList_some,List.map_append,List.sum_append];simp)
       generalize m.long f=lf at hlf HLF⊢
       clear hb
       go_wp2_with fail
       go_roundw
       case rel=>
        refine⟨j+1,sm+lf,by go_num,by go_num,by omega,by have:=HSM.out.1;have:=HLF.out;have h4:=HSB.out (j+1) (by omega);omega,HB8.out,HM8.out,hid ⟨by rw[HLF.out,←Nat.add_assoc,←HSM.out.1], ?_⟩⟩
        intro g hg
        rw[List.take_add_one,HFJ.out,Option.toList_some,List.mem_append]at hg
        rcases hg with hg|hg
        ·exact HSM.out.2 g hg
        ·rw[List.mem_singleton]at hg;subst hg;exact HGT.out
       case measure=>first|(simp[intOf];done)|(simp[intOf];omega)
      ·have HGB:=hid (show m.good .aV=false from by rw[HGD.out,decide_eq_false (by omega)])
       have hd:decide ((m.aV.length:Int)≤16)=false:=decide_eq_false h16
       have HR:=hid (Yz HK.out aaf.out HGB.out)
       go_wp2_with fail
       exact bodyPost_ret (v:= .tuple #[.int .i64 30,.int .i64 0]) (by simp[results,Tryz.results56]) rfl ⟨by rw[HR.out];rfl,HBX.out⟩
     rw[decide_eq_false h2]at t2
     by_cases h3:f= .stat
     ·subst h3
      rw[decide_eq_true rfl]at t3
      have kn1:wr.cell? ⟨z,32,none⟩=some (.string m.stat.name):=Blk.cell HM2.out 32
      have kn2:wr.cell? ⟨z,33,none⟩=some (.string m.stat.uid):=Blk.cell HM2.out 33
      have kn3:wr.cell? ⟨z,34,none⟩=some (.string m.stat.gid):=Blk.cell HM2.out 34
      have kn4:wr.cell? ⟨z,35,none⟩=some (.string m.stat.fE):=Blk.cell HM2.out 35
      have HGD:=hid (show m.good .stat=([m.stat.name,m.stat.uid,m.stat.gid,m.stat.fE]:List ByteArray).all good from by
       show m.stat.good=_
       unfold Sta.good
       simp[Bool.and_assoc])
      have HTL:=hid (show∀s∈([m.stat.name,m.stat.uid,m.stat.gid,m.stat.fE]:List ByteArray),s.size≤16777216 from by
       have h:2+(49+m.stat.name.size+m.stat.uid.size+m.stat.gid.size+m.stat.fE.size)≤16777216:=HS.out .stat
       intro s hs
       simp only[List.mem_cons,List.not_mem_nil,or_false]at hs
       rcases hs with rfl|rfl|rfl|rfl<;>omega)
      clear ht h1 h2
      generalize m.stat.name=T1 at*
      generalize m.stat.uid=T2 at*
      generalize m.stat.gid=T3 at*
      generalize m.stat.fE=T4 at*
      have hup:Below wr.heap.size wr (wr.alloc (.cells (h_ [T1,T2,T3,T4]).toArray 9)):=(Below.refl _ _).alloc (Nat.le_refl _) _
      have HN3:=hid (show iW (wr.alloc (.cells (h_ [T1,T2,T3,T4]).toArray 9)) (wr.alloc (.cells (h_ [T1,T2,T3,T4]).toArray 9)).heap.size (.slice (some ⟨wr.heap.size,0,none⟩) 4 4) [T1,T2,T3,T4]from by rw[World.size_alloc];exact iW.new wr _ [T1,T2,T3,T4] (show 4≤maxLen by decide))
      have HBX:=hid (HB2.out.trans (hup.mono HB2.out.size))
      have HMX:=hid (show aK (wr.alloc (.cells (h_ [T1,T2,T3,T4]).toArray 9)) z m vn vq vd from Blk.below HM2.out hup (Blk.lt HM2.out))
      clear hup
      go_wp2_with fail
      change Calls _ _ _ (wr.alloc (.cells (h_ [T1,T2,T3,T4]).toArray 9)) _
      refine(D5 _ [T1,T2,T3,T4] _ HN3.out HTL.out).mono ?_
      rintro e w7 ⟨rfl,rfl⟩
      clear kn1 kn2 kn3 kn4
      generalize wr.alloc (.cells (h_ [T1,T2,T3,T4]).toArray 9)=w6 at HBX HMX⊢
      have HLX:=hid (HL.out.below HBX.out)
      clear HN3 HB2 HM2 HL2 HTL
      cases hg:([T1,T2,T3,T4]:List ByteArray).all good with
      |false=>
       have HGB:=hid (HGD.out.trans hg)
       clear hg
       have HR:=hid (Yz HK.out aaf.out HGB.out)
       go_wp2_with fail
       exact bodyPost_ret (v:= .tuple #[.int .i64 30,.int .i64 0]) (by simp[results,Tryz.results56]) rfl ⟨by rw[HR.out];rfl,HBX.out⟩
      |true=>
       have HGT:=hid (HGD.out.trans hg)
       clear hg
       generalize hf:Fld.stat=f at*
       have HFE:=hid hf
       clear hf
       go_wp2_with(refine wlw HMX.out 0 (aF m vn vq vd) rfl rfl _ _ rfl rfl _ Tryz.underlying41 rfl aB ?_)
       refine(Yj f m vn vq vd w6 (HLX.out.more HBX.out.size) (HS.out f)).mono ?_
       rintro e w8 ⟨rfl,hb⟩
       have HB8:=hid (HBX.out.trans (hb.mono HBX.out.size))
       have HM8:=hid (show aK w8 z m vn vq vd from Blk.below HMX.out hb (Blk.lt HMX.out))
       have hlf:=HS.out f
       have HLF:=hid (show((fs.take (j+1)).map m.long).sum=((fs.take j).map m.long).sum+m.long f from by rw[List.take_add_one,HFJ.out,Option.toList_some,List.map_append,List.sum_append];simp)
       generalize m.long f=lf at hlf HLF⊢
       clear hb
       go_wp2_with fail
       go_roundw
       case rel=>
        refine⟨j+1,sm+lf,by go_num,by go_num,by omega,by have:=HSM.out.1;have:=HLF.out;have h4:=HSB.out (j+1) (by omega);omega,HB8.out,HM8.out,hid ⟨by rw[HLF.out,←Nat.add_assoc,←HSM.out.1], ?_⟩⟩
        intro g hg
        rw[List.take_add_one,HFJ.out,Option.toList_some,List.mem_append]at hg
        rcases hg with hg|hg
        ·exact HSM.out.2 g hg
        ·rw[List.mem_singleton]at hg;subst hg;exact HGT.out
       case measure=>first|(simp[intOf];done)|(simp[intOf];omega)
     ·rw[decide_eq_false h3]at t3
      have HGT:=hid (aae ht h1 h2 h3 m)
      have HBX:=HB2
      have HMX:=HM2
      have HLX:=HL2
      clear ht h1 h2 h3 HB2 HM2 HL2
      go_wp2_with(refine wlw HMX.out 0 (aF m vn vq vd) rfl rfl _ _ rfl rfl _ Tryz.underlying41 rfl aB ?_)
      refine(Yj f m vn vq vd wr (HLX.out.more HBX.out.size) (HS.out f)).mono ?_
      rintro e w8 ⟨rfl,hb⟩
      have HB8:=hid (HBX.out.trans (hb.mono HBX.out.size))
      have HM8:=hid (show aK w8 z m vn vq vd from Blk.below HMX.out hb (Blk.lt HMX.out))
      have hlf:=HS.out f
      have HLF:=hid (show((fs.take (j+1)).map m.long).sum=((fs.take j).map m.long).sum+m.long f from by rw[List.take_add_one,HFJ.out,Option.toList_some,List.map_append,List.sum_append];simp)
      generalize m.long f=lf at hlf HLF⊢
      clear hb
      go_wp2_with fail
      go_roundw
      case rel=>
       refine⟨j+1,sm+lf,by go_num,by go_num,by omega,by have:=HSM.out.1;have:=HLF.out;have h4:=HSB.out (j+1) (by omega);omega,HB8.out,HM8.out,hid ⟨by rw[HLF.out,←Nat.add_assoc,←HSM.out.1], ?_⟩⟩
       intro g hg
       rw[List.take_add_one,HFJ.out,Option.toList_some,List.mem_append]at hg
       rcases hg with hg|hg
       ·exact HSM.out.2 g hg
       ·rw[List.mem_singleton]at hg;subst hg;exact HGT.out
      case measure=>first|(simp[intOf];done)|(simp[intOf];omega)
   ·have HSZ:=hid (show sm=m.size fs from by rw[HSM.out.1,List.take_of_length_le (by omega)];rfl)
    have HR:=hid (ZW HK.out (fun f hf=>HSM.out.2 f (by rw[List.take_of_length_le (by omega)];exact hf)))
    rw[←HSZ.out]at HR
    by_cases hbig:(65536:Int)<(sm:Int)
    ·have HR2:=hid (show refused m=(31,0)from by rw[HR.out,if_pos (by omega)])
     go_wp2_with fail
     exact bodyPost_ret (v:= .tuple #[.int .i64 31,.int .i64 0]) (by simp[results,Tryz.results56]) rfl ⟨by rw[HR2.out];rfl,HB2.out⟩
    ·have HR2:=hid (show refused m=(0,sm)from by rw[HR.out,if_neg (by omega)])
     go_wp2_with fail
     exact bodyPost_ret (v:= .tuple #[.int .i64 0,.int .i64 (sm:Int)]) (by simp[results,Tryz.results56]) rfl ⟨by rw[HR2.out];rfl,HB2.out⟩
theorem Yg{tmps:Array Value}{w:World}{q:Nat}{m:Mg}{vn vq vd:Value}{n er:Int}(h2:tmps.getD 2 undef= .pointer (some ⟨q,0,none⟩))(h3:tmps.getD 3 undef= .int .i64 n)(h4:tmps.getD 4 undef= .int .i64 er)(hk:aK w q m vn vq vd):
  (results Tryz.f19 tmps).run Tryz.prog w= .ok (.tuple #[iM m vn vq vd,.int .i64 n,.int .i64 er]) w:=by
 have h2':tmps[2]?.getD undef= .pointer (some ⟨q,0,none⟩):=by simpa using h2
 have h3':tmps[3]?.getD undef= .int .i64 n:=by simpa using h3
 have h4':tmps[4]?.getD undef= .int .i64 er:=by simpa using h4
 have hl7:(loadVar 41 ⟨q,0,none⟩).run Tryz.prog w= .ok (iM m vn vq vd) w:=
  run_loadVar_mid w q 0 41 (aF m vn vq vd) _ (Blk.range hk 0 _ (by simp)) Tryz.underlying41 rfl aB
 simp[results,Tryz.results19,h2',h3',h4',asAddr,hl7]
theorem aav{op:Oper}{a:Act}{w:World}{q:Nat}{m:Mg}{vn vq vd:Value}(x:Operand)(ho:op.op= .load 41 x)(hx:a.eval x= .pointer (some ⟨q,0,none⟩))(hk:aK w q m vn vq vd):(execOp a.eval op).run Tryz.prog w= .ok (.value (iM m vn vq vd)) w:=by
 unfold execOp
 simp only[ho,hx,Instr.loadAt,Instr.sureAddr,Sem.run_bind,Sem.run_pure,Result.andThen_ok,run_loadVar_mid w q 0 41 (aF m vn vq vd) _ (Blk.range hk 0 _ (by simp)) Tryz.underlying41 rfl aB]
theorem Ch.field{β:Type}{r:Except Nat β}{sk s2:Except Nat (List UInt8)}{f:Fld}{fs:List Fld}{m m2:Mg}{E:Mg×List UInt8→Except Nat β}(h:Ch r sk (fun l=>m_ (f::fs) m l >>= E))(U:ByteArray)(hU:U.data.toList=32::(f.word++[61]))
  (g:XZ (Ye U sk >>= fun l=>pF m l f) m2 s2):Ch r s2 (fun l=>m_ fs m2 l >>= E):=by
 unfold Ch at*
 rw[h]
 cases sk with
 |error n=>have g:s2= .error n:=g;rw[g];rfl
 |ok l=>
  show(m_ (f::fs) m l >>= E)=_
  have e:m_ (f::fs) m l=(dQ (32::(f.word++[61])) l >>= fun l=>pF m l f >>= fun q=>m_ fs q.1 q.2):=rfl
  rw[e]
  change XZ (dQ U.data.toList l >>= fun l=>pF m l f) m2 s2 at g
  rw[hU]at g
  cases hp:dQ (32::(f.word++[61])) l with
  |error n=>rw[hp]at g;have g:s2= .error n:=g;rw[g];rfl
  |ok l2=>
   rw[hp]at g
   change XZ (pF m l2 f) m2 s2 at g
   show((pF m l2 f >>= fun q=>m_ fs q.1 q.2) >>= E)=_
   cases hf:pF m l2 f with
   |error n=>rw[hf]at g;have g:s2= .error n:=g;rw[g];rfl
   |ok q=>rw[hf]at g;obtain⟨g1,g2⟩:=g;rw[g1,g2];rfl
def YV(q:Mg×List UInt8):Except Nat Mg:=if q.2=[]then .ok q.1 else .error q.2.length
theorem ZA{l:List UInt8}(h:kindOf (l.takeWhile isLet)=none):jX l= .error l.length:=by
 unfold jX
 dsimp only
 rw[h]
theorem ZB{l:List UInt8}{k:Nat}{fs:List Fld}(h:kindOf (l.takeWhile isLet)=some k)(hf:bQ k=some fs):Ch (jX l) (.ok (l.drop (l.takeWhile isLet).length)) (fun l=>dQ (⟨#[32]⟩:ByteArray).data.toList l >>= fun l=>fZ 65535 l >>= fun q=>m_ fs (head k q.1) q.2 >>= YV):=by
 unfold Ch jX
 dsimp only
 rw[h]
 dsimp only
 rw[hf]
 rfl
theorem Yv{l:List UInt8}{n:Nat}(h:jX l= .error n):parseM l=(head 0 0,l.length-n,34):=by unfold parseM;rw[h]
theorem YD{l:List UInt8}{m:Mg}(h:jX l= .ok m):parseM l=if(refused m).1=0 then(m,0,0)else(head 0 0,l.length,(refused m).1):=by unfold parseM;rw[h]
structure PS(w0 w:World)(r q p:Nat)(s:ByteArray)(st:Except Nat (List UInt8)):Prop where
 ln:RwS w p s st
 res:aK w r (head 0 0) (.slice none 0 0) (.slice none 0 0) (.slice none 0 0)
 non:aK w q (head 0 0) (.slice none 0 0) (.slice none 0 0) (.slice none 0 0)
 br:w0.heap.size≤r
 bp:w0.heap.size≤p
 bl:Below w0.heap.size w0 w
section
variable {w w' w0:World} {p r q:Nat} {s:ByteArray} {st st':Except Nat (List UInt8)}
theorem PS.step(h:PS w0 w r q p s st)(hs:RwS w' p s st')(ho:Off (fun i=>i=p) w w'):PS w0 w' r q p s st':=
 ⟨hs,ho.blk h.res (fun e=>h.ln.noT (by decide) r _ _ e h.res),ho.blk h.non (fun e=>h.ln.noT (by decide) q _ _ e h.non),h.br,h.bp,h.bl.trans (ho.below (fun i hi=>by have hi:i=p:=hi;have:=h.bp;omega) h.bl.size)⟩
theorem PS.new(h:PS w0 w r q p s st)(hb:Below w.heap.size w w'):PS w0 w' r q p s st:=h.step (h.ln.below hb) (Off.of_below hb)
theorem PS.keep(h:PS w0 w r q p s st)(hs:RwS w' p s st')(hk:Nh w0.heap.size w w'):PS w0 w' r q p s st':=
 ⟨hs,hk.2 _ _ h.res,hk.2 _ _ h.non,h.br,h.bp,h.bl.trans hk.1⟩
theorem PS.msg{g:Nat}{cs:Array Value}(h:PS w0 w r q p s st)(hg:Blk w g 41 cs)(hl:w0.heap.size≤g)(hr:r≠g)(hq:q≠g)(ho:Off (fun i=>i=g) w w'):PS w0 w' r q p s st:=
 ⟨h.ln.off ho (fun e=>h.ln.noT (by decide) g _ _ e.symm hg),ho.blk h.res hr,ho.blk h.non hq,h.br,h.bp,h.bl.trans (ho.below (fun i hi=>by have hi:i=g:=hi;omega) h.bl.size)⟩
theorem PS.fin{m:Mg}{vn vq vd:Value}(h:PS w0 w r q p s st)(hl:OL w w0.heap.size m vn vq vd)(ho:Off (fun i=>i=r) w w'):OL w' w0.heap.size m vn vq vd∧Below w0.heap.size w0 w':=
 ⟨hl.qp h.res ho,h.bl.trans (ho.below (fun i hi=>by have hi:i=r:=hi;have:=h.br;omega) h.bl.size)⟩
end
theorem Ze(s:ByteArray)(w:World)(hz:s.size≤16000000):Calls Tryz.prog 19 #[.string s] w (V_ (parseM s.data.toList) w):=by
 obtain⟨hup,h1,h2⟩:=uZ w (head 0 0) (.slice none 0 0) (.slice none 0 0) (.slice none 0 0)
 have HR:=hid (show aK ((w.alloc (.cells (mgN (head 0 0)).toArray 41)).alloc (.cells (mgN (head 0 0)).toArray 41)) w.heap.size (head 0 0) (.slice none 0 0) (.slice none 0 0) (.slice none 0 0)from h1)
 have HN:=hid (show aK ((w.alloc (.cells (mgN (head 0 0)).toArray 41)).alloc (.cells (mgN (head 0 0)).toArray 41)) (w.heap.size+1) (head 0 0) (.slice none 0 0) (.slice none 0 0) (.slice none 0 0)from h2)
 have HB:=hid (show Below w.heap.size w ((w.alloc (.cells (mgN (head 0 0)).toArray 41)).alloc (.cells (mgN (head 0 0)).toArray 41))from hup)
 obtain⟨L,hL⟩:∃L,L=s.data.toList:=⟨_,rfl⟩
 have HL:=hid hL
 have HLS:=hid (show L.length=s.size from by rw[hL,Array.length_toList];rfl)
 rw[←hL]
 clear h1 h2 hup hL
 go_enter Tryz.func19,Tryz.ntmps19
 go_upto_region 3 with(fail)
 change Code.wp _ _ _ _ ((w.alloc (.cells (mgN (head 0 0)).toArray 41)).alloc (.cells (mgN (head 0 0)).toArray 41))
 generalize hw1:(w.alloc (.cells (mgN (head 0 0)).toArray 41)).alloc (.cells (mgN (head 0 0)).toArray 41)=w1 at HR HN HB⊢
 have uF:=hid (show w1.heap.size=w.heap.size+2 from by rw[←hw1,World.size_alloc,World.size_alloc])
 clear hw1
 generalize hq:w.heap.size+1=q at HN⊢
 have HQ:=hid hq
 clear hq
 generalize hr:w.heap.size=r at HR⊢
 have HRR:=hid hr
 clear hr
 go_loop [6] (fun i=>∃j:Nat,i= .int .i64 (j:Int)∧j≤s.size∧Hid ((L.take j).all isLet=true)) (fun i=>s.size-(intOf i).toNat)
 case atStart=>exact⟨0,rfl,Nat.zero_le _,hid rfl⟩
 case round=>
  obtain⟨j,rfl,hj,HJ⟩:=hrel
  obtain⟨go,hgo⟩:∃go:Bool,go=(match L[j]? with|some c=>isLet c|none=>false):=⟨_,rfl⟩
  have HGO:=hid hgo
  clear hgo
  go_upto_region 3 with(fail)
  go_cut [44] (fun x wx=>x= .bool go∧wx=w1)
  case first=>
   as_aux_lemma=>
   by_cases hlt:j<s.size
   ·obtain⟨c,hc⟩:∃c,c=s[j]'hlt:=⟨_,rfl⟩
    have HE:=hid (show go=((decide (65≤c.toNat)&&decide (c.toNat≤90))||(decide (97≤c.toNat)&&decide (c.toNat≤122)))from by
     rw[HGO.out,HL.out,byte_at s j hlt,←hc]
     rfl)
    have hidx:s[j]'hlt=c:=hc.symm
    clear hc
    by_cases a1:(97:Int)≤(c.toNat:Int)<;>by_cases a2:(c.toNat:Int)≤122<;>by_cases a3:(65:Int)≤(c.toNat:Int)<;>by_cases a4:(c.toNat:Int)≤90<;>first
     |(exfalso;omega)
     |(have HG:=hid (show go=true from by rw[HE.out];simp only[Bool.or_eq_true,Bool.and_eq_true,decide_eq_true_eq];omega)
       go_wp2_with fail
       go_meet
       case rel=>exact⟨by rw[HG.out],rfl⟩)
     |(have HG:=hid (show go=false from by rw[HE.out];simp only[Bool.or_eq_false_iff,Bool.and_eq_false_iff,decide_eq_false_iff_not];omega)
       go_wp2_with fail
       go_meet
       case rel=>exact⟨by rw[HG.out],rfl⟩)
   ·have HG:=hid (show go=false from by rw[HGO.out,List.getElem?_eq_none (by rw[HLS.out];omega)])
    go_wp2_with fail
    go_meet
    case rel=>exact⟨by rw[HG.out],rfl⟩
  obtain⟨rfl,rfl⟩:=hcut
  cases go with
  |true=>
   obtain⟨c,hc,hcl⟩:∃c,L[j]? =some c∧isLet c=true:=by
    have h:=HGO.out
    cases hx:L[j]? with
    |none=>rw[hx]at h;cases h
    |some c=>rw[hx]at h;exact⟨c,rfl,h.symm⟩
   have hjl:j<s.size:=by rw[←HLS.out];exact(List.getElem?_eq_some_iff.1 hc).1
   have HNX:=hid (show(L.take (j+1)).all isLet=true from by rw[List.take_add_one,hc,Option.toList_some,List.all_append,HJ.out];simp[hcl])
   clear hc hcl
   go_wp2_with fail
   go_round
   case rel=>exact⟨j+1,by go_num,hjl,HNX⟩
   case measure=>first|(simp[intOf];done)|(simp[intOf];omega)
  |false=>
   have HTW:=hid (show L.takeWhile isLet=L.take j from LC isLet L j HJ.out (by rw[HLS.out];exact hj) (fun c hc=>by have h:=HGO.out;rw[hc]at h;exact h.symm))
   have HTL:=hid (show(L.takeWhile isLet).length=j from by rw[HTW.out,List.length_take,HLS.out];omega)
   have HXX:=hid (show(s.extract 0 j).data.toList=L.takeWhile isLet from by
    have h:=YM s 0 j
    rw[Nat.zero_add,List.drop_zero,←HL.out]at h
    rw[h,HTW.out])
   clear HGO
   go_wp2_with fail
   generalize s.extract 0 j=X at HXX⊢
   refine(YX X wc).mono ?_
   rintro e w2 ⟨hkd,hb⟩
   unfold GV at hkd
   rw[HXX.out]at hkd
   have HR2:=hid (show aK w2 r (head 0 0) (.slice none 0 0) (.slice none 0 0) (.slice none 0 0)from Blk.below HR.out hb (Blk.lt HR.out))
   have HN2:=hid (show aK w2 q (head 0 0) (.slice none 0 0) (.slice none 0 0) (.slice none 0 0)from Blk.below HN.out hb (Blk.lt HN.out))
   have HB2:=hid (HB.out.trans (hb.mono HB.out.size))
   have QZ:=hid (show w.heap.size+2≤w2.heap.size from by rw[←uF.out];exact hb.size)
   clear hb HR HN HB
   cases hk:kindOf (L.takeWhile isLet)with
   |none=>
    rw[hk]at hkd
    obtain rfl:=hkd
    have HE:=hid (show parseM L=(head 0 0,0,34)from by rw[Yv (ZA hk),Nat.sub_self])
    clear hk
    go_wp2_with(first|(refine wlw HN2.out 0 (aF (head 0 0) (.slice none 0 0) (.slice none 0 0) (.slice none 0 0)) rfl rfl _ _ rfl rfl _ Tryz.underlying41 rfl aB ?_)|(refine dA HR2.out 0 (aF (head 0 0) (.slice none 0 0) (.slice none 0 0) (.slice none 0 0)) _ (kQ ..) (Nat.le_refl 36) (bT _ rfl rfl rfl) rfl _ _ _ rfl rfl rfl aB ?_;intro wz hs ho;have HZF:=hid hs;have HOF:=hid (ho (fun i=>i=r) rfl _ (Off.refl _ _));clear hs ho))
    obtain⟨r1,r2⟩:=(show OL wz w.heap.size (head 0 0) (.slice none 0 0) (.slice none 0 0) (.slice none 0 0)∧Below w.heap.size w wz from⟨OL.nil_ ..,HB2.out.trans (HOF.out.below (fun i hi=>by have hi:i=r:=hi;have:=HRR.out;omega) HB2.out.size)⟩)
    refine bodyPost_ret (Yg (m:=(head 0 0)) (n:=0) (er:=34) rfl rfl rfl HZF.out) rfl ?_
    rw[HE.out]
    exact⟨⟨_,_,_,rfl,r1⟩,r2⟩
   |some k=>
    rw[hk]at hkd
    obtain rfl:=hkd
    obtain⟨-, -,fs,hfs⟩:=mM hk
    obtain⟨-,hnd,hk1,hk2⟩:=iP hfs
    have HC0:=hid (ZB hk hfs)
    rw[HTL.out]at HC0
    have HND:=hid hnd
    clear hk hnd HJ HTW HXX
    have hup:Below w2.heap.size w2 (w2.alloc (.cells #[.string s,.int .i64 (j:Int),.bool false] 106)):=(Below.refl _ _).alloc (Nat.le_refl _) _
    have HP:=hid (show PS w (w2.alloc (.cells #[.string s,.int .i64 (j:Int),.bool false] 106)) r q w2.heap.size s (.ok (L.drop j))from⟨⟨j,false,Blk.new w2 _ _,hj,by omega,by rw[HL.out];rfl⟩,Blk.below HR2.out hup (Blk.lt HR2.out),Blk.below HN2.out hup (Blk.lt HN2.out),by have:=HRR.out;omega,by have:=QZ.out;omega,HB2.out.trans (hup.mono HB2.out.size)⟩)
    have HRQ:=hid (show r+1=q∧w.heap.size=r∧q<w2.heap.size from⟨by rw[←HQ.out,HRR.out],HRR.out,by have:=QZ.out;have:=HQ.out;omega⟩)
    clear hup HR2 HN2 HB2 QZ
    go_upto_region 9 with(fail)
    generalize w2.alloc (.cells #[.string s,.int .i64 (j:Int),.bool false] 106)=w3 at HP⊢
    generalize w2.heap.size=p at HP HRQ⊢
    go_wp2_with fail
    refine(zS ⟨#[32]⟩ (by decide) HP.out.ln).mono ?_
    rintro e w4 ⟨rfl,hs,ho⟩
    have HP4:=hid (HP.out.step hs ho)
    have HC4:=hid (HC0.out.word ⟨#[32]⟩)
    clear hs ho HP HC0
    go_wp2_with fail
    refine(XU 65535 (by decide) (by decide) HP4.out.ln).mono ?_
    rintro e w5 ⟨tg,s5,rfl,htg,hs,hg,ho⟩
    have HP5:=hid (HP4.out.step hs ho)
    have aaw:=HC4.out.part hg
    dsimp only at aaw
    have HC5:=hid aaw
    clear hs ho hg HP4 HC4 aaw
    have hw2:IntKind.u16.wrap (tg:Int)=(tg:Int):=by rw[IntKind.wrap_u16];omega
    go_upto_region 12 with(change wpList _ _ _ _ _ (w5.alloc (.cells (mgN (head 0 0)).toArray 41));have HH6:=hid (show aK (w5.alloc (.cells (mgN (head 0 0)).toArray 41)) w5.heap.size (head 0 0) (.slice none 0 0) (.slice none 0 0) (.slice none 0 0)from Blk.new w5 _ _);have HP6:=hid (HP5.out.new ((Below.refl _ _).alloc (Nat.le_refl _) (.cells (mgN (head 0 0)).toArray 41)));have HZR:=hid (show r<w5.heap.size∧q<w5.heap.size∧w.heap.size≤w5.heap.size from⟨Blk.lt HP5.out.res,Blk.lt HP5.out.non,HP5.out.bl.size⟩);clear HP5;generalize w5.alloc (.cells (mgN (head 0 0)).toArray 41)=w6 at HH6 HP6⊢;generalize w5.heap.size=z at HH6 HZR⊢;refine dA HH6.out 0 (mgN (head k tg)) _ (kQ ..) (Nat.le_refl 36) (bT _ rfl rfl rfl) rfl _ _ _ rfl rfl rfl aB ?_;intro w7 hs ho;have HM7:=hid (show aK w7 z (head k tg) (.slice none 0 0) (.slice none 0 0) (.slice none 0 0)from hs);have HP7:=hid (HP6.out.msg HH6.out HZR.out.2.2 (by have:=HZR.out;omega) (by have:=HZR.out;omega) (ho (fun i=>i=z) rfl _ (Off.refl _ _)));clear hs ho HH6 HP6)
    go_wp2_with fail
    refine(Bv k (by omega) w7).mono ?_
    rintro e w' ⟨rfl,rfl⟩
    rw[hfs,show(some fs).isSome=true from rfl]
    have HLA:=hid (@Rt k · fs · hfs)
    have hls:=lay_size hfs
    have hfl:=YC hfs
    clear hfs hw2
    generalize iQ k=S at*
    go_upto_region 14 with(fail)
    go_loopw [14] (fun i wr=>∃(n:Nat) (m:Mg) (vn vq vd:Value) (sk:Except Nat (List UInt8)),n≤fs.length∧i= .int .i64 (n:Int)∧PS w wr r q p s sk∧aK wr z m vn vq vd∧OL wr w.heap.size m vn vq vd∧zT (fs.drop n) m∧Ch (jX L) sk (fun l=>m_ (fs.drop n) m l >>= YV)) (fun i _=>fs.length-(intOf i).toNat)
    case atStart=>exact⟨0,_,_,_,_,_,Nat.zero_le _,rfl,HP7.out,HM7.out,OL.nil_ ..,⟨fun _=>rfl,fun _=>rfl,fun _=>rfl⟩,HC5.out⟩
    case round=>
     obtain⟨n,m,vn,vq,vd,sk,hn,rfl,hd,hm,hol,hfr,hall⟩:=hrel
     have HDK:=hid hd
     have HMK:=hid hm
     have HOK:=hid hol
     have HFR:=hid hfr
     have HAL:=hid hall
     have h1:=bG hol.n
     have h2:=bG hol.q
     have h3:=bG hol.d
     clear hd hm hol hfr hall HM7 HP7 HC5
     by_cases hlt:n<fs.length
     ·obtain⟨f,hf⟩:∃f,fs[n]? =some f:=⟨fs[n],List.getElem?_eq_getElem hlt⟩
      have hdr:fs.drop n=f::fs.drop (n+1):=by rw[List.drop_eq_getElem_cons hlt,(List.getElem?_eq_some_iff.1 hf).2]
      obtain⟨hks,hc⟩:=HLA.out _ _ hf
      have HCC:=hid hc
      have Ut:=hid (show zT (f::fs.drop (n+1)) m from by rw[←hdr];exact HFR.out)
      have HNX:=hid (show(f::fs.drop (n+1)).Nodup from by rw[←hdr];exact HND.out.sublist (List.drop_sublist _ _))
      have WB:=hid (show Ch (jX L) sk (fun l=>m_ (f::fs.drop (n+1)) m l >>= YV)from by rw[←hdr];exact HAL.out)
      have hidx:S[n]'hks=f.rX:=hc.symm
      clear hf hdr hc HFR HAL
      go_wp2_with fail
      refine(Zx f wr).mono ?_
      rintro e wa ⟨rfl,hb⟩
      have HDA:=hid (HDK.out.new hb)
      have HMA:=hid (show aK wa z m vn vq vd from Blk.below HMK.out hb (Blk.lt HMK.out))
      have HOA:=hid (HOK.out.below hb)
      clear hb HDK HMK HOK
      have hws:(ofL f.word).size≤10:=by cases f<;>decide
      obtain⟨V,hV⟩:∃V,V=ofL f.word:=⟨_,rfl⟩
      obtain⟨U1,hU1⟩:∃U,U=(⟨#[32]⟩:ByteArray)++V:=⟨_,rfl⟩
      obtain⟨U,hU⟩:∃U,U=U1++(⟨#[61]⟩:ByteArray):=⟨_,rfl⟩
      rw[←hV]at hws⊢
      have hs1:U1.size≤11:=by rw[hU1,ByteArray.size_append,show(⟨#[32]⟩:ByteArray).size=1 from rfl];omega
      have hs2:U.size≤1000:=by rw[hU,ByteArray.size_append,show(⟨#[61]⟩:ByteArray).size=1 from rfl];omega
      have HUL:=hid (show U.data.toList=32::(f.word++[61])from by
       rw[hU,hU1,hV]
       simp[ofL,ByteArray.data_append])
      have ha1:∀w,(Op.stringOp .add (⟨#[32]⟩:ByteArray) V).run Tryz.prog w= .ok (.string U1) w:=fun w=>by
       rw[hU1]
       exact run_string_add_sum w _ _ (by rw[show(⟨#[32]⟩:ByteArray).size=1 from rfl];omega)
      have ha2:∀w,(Op.stringOp .add U1 (⟨#[61]⟩:ByteArray)).run Tryz.prog w= .ok (.string U) w:=fun w=>by
       rw[hU]
       exact run_string_add_sum w _ _ (by rw[show(⟨#[61]⟩:ByteArray).size=1 from rfl];omega)
      clear hU hU1 hV
      go_wp2_with fail
      refine(zS U hs2 HDA.out.ln).mono ?_
      rintro e wb ⟨rfl,hs,ho⟩
      have HOB:=hid (HOA.out.rw_ HDA.out.ln ho)
      have HMB:=hid (show aK wb z m vn vq vd from ho.blk HMA.out (fun e=>HDA.out.ln.noT (by decide) _ _ _ e HMA.out))
      have HDB:=hid (HDA.out.step hs ho)
      clear hs ho HDA HMA HOA ha1 ha2 hws hs1
      go_upto_region 17 with(fail)
      try simp only[Act.put]
      have HDD:=hid (HDB.out.new (aC wb))
      have HMD:=hid (show aK wb.drew z m vn vq vd from HMB.out)
      have HOD:=hid (HOB.out.below (aC wb))
      clear HDB HMB HOB hidx
      refine wp_region_held_drew (S:=fun _=>True) (by kernel_rfl) trivial (fun hHeld=> ?_)
      generalize wb.drew=wd at HDD HMD HOD⊢
      refine tk 88 0 (.pointer (some ⟨p,0,none⟩)) ?_
      simp only[ah]
      refine tk 90 2 (.string S) ?_
      simp only[ah]
      refine tk 91 3 (.int .i64 (n:Int)) ?_
      simp only[ah]
      refine tk2 92 4 (.int .u8 (f.rX.toNat:Int)) rfl (fun wq hSw=>by have hc:=HCC.out;go_simp) ?_
      simp only[ah]
      refine wpAnyH_ready (rs:=[1]) (by kernel_rfl) (by simp) ?_
      refine AllReadyH.cons rfl (fun K hK=> ?_) AllReadyH.nil
      rw[if_pos (by rfl)]
      refine wp_load_mid _ _ rfl _ _ rfl (aF m vn vq vd) _ (Blk.range HMD.out 0 _ rfl) Tryz.underlying41 rfl aB ?_
      refine hK.out _ _ hHeld (fun hHeld=> ?_)
      clear hK
      try simp only[ah]
      refine wpAnyH_ready (rs:=[5]) (by kernel_rfl) (by simp) ?_
      refine AllReadyH.cons rfl (fun K hK=> ?_) AllReadyH.nil
      rw[if_pos (by rfl)]
      go_simp
      refine(Zb HDD.out.bp HDD.out.ln HOD.out f (fun e=>Ut.out.1 (by rw[e];exact List.mem_cons_self ..)) (fun e=>Ut.out.2.1 (by rw[e];exact List.mem_cons_self ..))).mono ?_
      rintro e wf ⟨m',un,uq,ud,s',rfl,hol,hfo,hkm,hs,hg⟩
      dsimp only
      have HCN:=hid (WB.out.field U HUL.out hg)
      have HDF:=hid (HDD.out.keep hs hkm)
      have HMF:=hid (hkm.2 _ _ HMD.out)
      have HOF:=hid hol
      have HFO:=hid hfo
      have g1:=bG hol.n
      have g2:=bG hol.q
      have g3:=bG hol.d
      clear hs hg hkm hol hfo HDD HMD HOD WB
      refine hK.out _ _ hHeld (fun hHeld=> ?_)
      clear hK
      try simp only[ah]
      refine wpAnyH_ready (rs:=[6]) (by kernel_rfl) (by simp) ?_
      refine AllReadyH.cons rfl (fun K hK=> ?_) AllReadyH.nil
      rw[if_pos (by rfl)]
      refine WA HMF.out 0 (aF m' un uq ud) _ (kQ ..) (Nat.le_refl 36) (bT _ g1 g2 g3) _ _ _ rfl rfl rfl aB ?_
      intro wg hs ho
      have HMG:=hid (show aK wg z m' un uq ud from hs)
      have HDG:=hid (HDF.out.msg HMF.out HZR.out.2.2 (by have:=HZR.out;omega) (by have:=HZR.out;omega) (ho (fun i=>i=z) rfl _ (Off.refl _ _)))
      have HOG:=hid (HOF.out.qp HMF.out (ho (fun i=>i=z) rfl _ (Off.refl _ _)))
      clear hs ho HMF HDF HOF
      refine hK.out _ _ hHeld (fun hHeld=> ?_)
      clear hK
      refine wpAnyH_done (by kernel_rfl) ?_ _
      go_wp2_with fail
      go_roundw
      case rel=>
       exact⟨n+1,m',un,uq,ud,s',by omega,by go_num,HDG.out,HMG.out,HOG.out,Ut.out.next HNX.out HFO.out,HCN.out⟩
      case measure=>simp[intOf];omega
     ·have hkn:n=fs.length:=by omega
      rw[hkn,List.drop_length]at HAL
      clear hkn
      obtain⟨a,b,hbk,hax, -,hst⟩:=HDK.out.ln
      have kb:wr.cell? ⟨p,2,none⟩=some (.bool b):=hbk.cell 2
      have ka:wr.cell? ⟨p,1,none⟩=some (.int .i64 (a:Int)):=hbk.cell 1
      have HAX:=hid hax
      have HBP:=hid hbk
      have HPB:=hid (show(b=true∨a≠s.size)→parseM L=(head 0 0,a,34)from fun h=>by
       have e:jX L= .error (s.size-a):=by
        have h2:=HAL.out
        unfold Ch at h2
        rw[h2,hst]
        cases b with
        |true=>rfl
        |false=>
         show YV (m,s.data.toList.drop a)=_
         unfold YV
         have hlen:(s.data.toList.drop a).length=s.size-a:=by rw[List.length_drop,Array.length_toList];rfl
         rw[if_neg (fun e=>by have e:s.data.toList.drop a=[]:=e;rw[e]at hlen;rcases h with h|h;cases h;simp at hlen;omega)]
         show Except.error (s.data.toList.drop a).length=_
         rw[hlen]
       rw[Yv e,HLS.out,show s.size-(s.size-a)=a from by omega])
      have HPG:=hid (show b=false→a=s.size→jX L= .ok m from fun hb ha=>by
       have h2:=HAL.out
       unfold Ch at h2
       rw[h2,hst,hb]
       show YV (m,s.data.toList.drop a)=_
       unfold YV
       rw[if_pos (List.drop_eq_nil_of_le (by rw[Array.length_toList];exact Nat.le_of_eq ha.symm))])
      clear hbk hax hst HLA HND HAL
      obtain⟨bad,hbad⟩:∃bad,bad=(b||decide (a≠s.size)):=⟨_,rfl⟩
      have HBAD:=hid hbad
      clear hbad
      go_upto_region 18 with(fail)
      go_cut [106] (fun x wx=>x= .bool bad∧wx=wr)
      case first=>
       as_aux_lemma=>
       cases b with
       |true=>
        have HG:=hid (show bad=true from by rw[HBAD.out];rfl)
        go_wp2_with fail
        go_meet
        case rel=>exact⟨by rw[HG.out],rfl⟩
       |false=>
        cases hne:((a:Int) != (s.size:Int))with
        |true=>
         have HG:=hid (show bad=true from by rw[HBAD.out,decide_eq_true (by rw[bne_iff_ne]at hne;omega)];rfl)
         go_wp2_with fail
         go_meet
         case rel=>exact⟨by rw[HG.out],rfl⟩
        |false=>
         have HG:=hid (show bad=false from by rw[HBAD.out,decide_eq_false (by rw[bne_eq_false_iff_eq]at hne;omega)];rfl)
         go_wp2_with fail
         go_meet
         case rel=>exact⟨by rw[HG.out],rfl⟩
      obtain⟨rfl,rfl⟩:=hcut
      cases bad with
      |true=>
       have HE:=hid (HPB.out (by
        have h:=HBAD.out.symm
        rw[Bool.or_eq_true,decide_eq_true_eq]at h
        exact h))
       clear HPB HPG HBAD kb
       go_upto_region 19 with(fail)
       have HDD:=hid (HDK.out.new (aC wc))
       have ja:wc.drew.cell? ⟨p,1,none⟩=some (.int .i64 (a:Int)):=ka
       have HPQ:=hid (show r≠p∧r≠q from⟨fun e=>HDK.out.ln.noT (by decide) _ _ _ e HDK.out.res,by have:=HRQ.out.1;omega⟩)
       refine wp_region_held_drew (S:=fun wx=>wx.cell? ⟨p,1,none⟩=some (.int .i64 (a:Int))∧aK wx q (head 0 0) (.slice none 0 0) (.slice none 0 0) (.slice none 0 0)) (by kernel_rfl) ⟨ja,HDD.out.non⟩ (fun hHeld=> ?_)
       generalize wc.drew=wd at HDD ja hHeld⊢
       have hSd:wd.cell? ⟨p,1,none⟩=some (.int .i64 (a:Int))∧aK wd q (head 0 0) (.slice none 0 0) (.slice none 0 0) (.slice none 0 0):=⟨ja,HDD.out.non⟩
       refine tk2 107 0 (iM (head 0 0) (.slice none 0 0) (.slice none 0 0) (.slice none 0 0)) rfl (fun wq hSw=>by exact aav _ rfl rfl hSw.2) ?_
       simp only[ah]
       refine tk 108 1 (.pointer (some ⟨p,0,none⟩)) ?_
       simp only[ah]
       refine tk 109 2 (.pointer (some ⟨p,0,none⟩)) ?_
       simp only[ah]
       refine tk 110 3 (.pointer (some ⟨p,1,none⟩)) ?_
       simp only[ah]
       refine tk2 111 4 (.int .i64 (a:Int)) rfl (fun wq hSw=>by have k:=hSw.1;go_simp) ?_
       simp only[ah]
       refine wpAnyH_ready (rs:=[5]) (by kernel_rfl) (by simp) ?_
       refine AllReadyH.cons rfl (fun K hK=> ?_) AllReadyH.nil
       rw[if_pos (by rfl)]
       refine WA HDD.out.res 0 (aF (head 0 0) (.slice none 0 0) (.slice none 0 0) (.slice none 0 0)) _ (kQ ..) (Nat.le_refl 36) (bT _ rfl rfl rfl) _ _ _ rfl rfl rfl aB ?_
       intro wz hs ho
       have HZF:=hid hs
       have HOF:=hid (ho (fun i=>i=r) rfl _ (Off.refl _ _))
       have hSz:wz.cell? ⟨p,1,none⟩=some (.int .i64 (a:Int))∧aK wz q (head 0 0) (.slice none 0 0) (.slice none 0 0) (.slice none 0 0):=⟨by
        obtain⟨a',b',hb', -⟩:=HDD.out.ln
        have e:=hb'.cell 1
        rw[show(⟨p,0+1,none⟩:Addr)=⟨p,1,none⟩from rfl]at e
        have e2:=((HOF.out.blk hb' (fun e=>HPQ.out.1 (by have e:p=r:=e;exact e.symm))).cell 1)
        exact(e2.trans e.symm).trans ja,HOF.out.blk HDD.out.non (fun e=>HPQ.out.2 (by have e:q=r:=e;exact e.symm))⟩
       clear hs ho
       refine hK.out _ _ hSz (fun hHeld=> ?_)
       clear hK
       try simp only[ah]
       refine tk 3 6 (.int .i64 (a:Int)) ?_
       simp only[ah]
       refine tk 4 7 (.int .i64 34) ?_
       simp only[ah]
       refine wpAnyH_done (by kernel_rfl) ?_ _
       go_wp2_with fail
       obtain⟨r1,r2⟩:=HDD.out.fin (OL.nil_ ..) HOF.out
       refine bodyPost_ret (Yg (m:=head 0 0) (n:=(a:Int)) (er:=34) rfl rfl rfl HZF.out) rfl ?_
       rw[HE.out]
       exact⟨⟨_,_,_,rfl,r1⟩,r2⟩
      |false=>
       have hb0:b=false∧a=s.size:=by
        have h:=HBAD.out.symm
        rw[Bool.or_eq_false_iff,decide_eq_false_iff_not]at h
        exact⟨h.1,Decidable.not_not.1 h.2⟩
       have HPL:=hid (HPG.out hb0.1 hb0.2)
       have aaE:=hid (L8 HPL.out)
       have HPM:=hid (YD HPL.out)
       clear HPB HPG HBAD kb ka hb0
       go_wp2_with(refine wlw HMK.out 0 (aF m vn vq vd) rfl rfl _ _ rfl rfl _ Tryz.underlying41 rfl aB ?_)
       refine(Y1 m vn vq vd wc aaE.out.1.kind HOK.out.lists (fun f=>by have h:=aaE.out.2 f;rw[HLS.out]at h;omega)).mono ?_
       rintro e wf ⟨rfl,hb⟩
       have HDF:=hid (HDK.out.new hb)
       have HMF:=hid (show aK wf z m vn vq vd from Blk.below HMK.out hb (Blk.lt HMK.out))
       have aaQ:=hid (HOK.out.below hb)
       clear hb HDK HMK HOK
       unfold Z9
       generalize(refused m).1=er at HPM⊢
       generalize(refused m).2=en at*
       by_cases her:er=0
       ·have hb0:((er:Int) != 0)=false:=by rw[bne_eq_false_iff_eq];omega
        have HE:=hid (show parseM L=(m,0,0)from by rw[HPM.out,if_pos her])
        clear her
        go_wp2_with(first|(refine wlw HMF.out 0 (aF m vn vq vd) rfl rfl _ _ rfl rfl _ Tryz.underlying41 rfl aB ?_)|(refine dA HDF.out.res 0 (aF m vn vq vd) _ (kQ ..) (Nat.le_refl 36) (bT _ h1 h2 h3) rfl _ _ _ rfl rfl rfl aB ?_;intro wz hs ho;have HZF:=hid hs;have HOF:=hid (ho (fun i=>i=r) rfl _ (Off.refl _ _));clear hs ho))
        obtain⟨r1,r2⟩:=HDF.out.fin aaQ.out HOF.out
        refine bodyPost_ret (Yg (m:=m) (n:=0) (er:=0) rfl rfl rfl HZF.out) rfl ?_
        rw[HE.out]
        exact⟨⟨_,_,_,rfl,r1⟩,r2⟩
       ·have hb0:((er:Int) != 0)=true:=by rw[bne_iff_ne];omega
        have HE:=hid (show parseM L=(head 0 0,s.size,er)from by rw[HPM.out,if_neg her,HLS.out])
        clear her
        go_wp2_with(first|(refine wlw HDF.out.non 0 (aF (head 0 0) (.slice none 0 0) (.slice none 0 0) (.slice none 0 0)) rfl rfl _ _ rfl rfl _ Tryz.underlying41 rfl aB ?_)|(refine dA HDF.out.res 0 (aF (head 0 0) (.slice none 0 0) (.slice none 0 0) (.slice none 0 0)) _ (kQ ..) (Nat.le_refl 36) (bT _ rfl rfl rfl) rfl _ _ _ rfl rfl rfl aB ?_;intro wz hs ho;have HZF:=hid hs;have HOF:=hid (ho (fun i=>i=r) rfl _ (Off.refl _ _));clear hs ho))
        obtain⟨r1,r2⟩:=HDF.out.fin (OL.nil_ ..) HOF.out
        refine bodyPost_ret (Yg (m:=(head 0 0)) (n:=(s.size:Int)) (er:=(er:Int)) rfl rfl rfl HZF.out) rfl ?_
        rw[HE.out]
        exact⟨⟨_,_,_,rfl,r1⟩,r2⟩
end Go.Proofs.YtkblmloobkiloaaGreatDoor
