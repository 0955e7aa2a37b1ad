/-
  MUM MVA: what the laws of package msg need of them.
-/
import Derived.Test.YtkblmloobkiloaaGreatDoorK00
import Derived.Test.YtkblmloobkiloaaGreatDoorK14
set_option maxRecDepth 100000
set_option maxHeartbeats 12800000
namespace Go.Proofs.YtkblmloobkiloaaGreatDoor
open Go.Lib (hid)
open Go.RowKit
def Z9(r:Nat×Nat):Ending:= .returned (.tuple #[.int .i64 (r.1:Int),.int .i64 (r.2:Int)])
theorem YC{k:Nat}{fs:List Fld}(h:bQ k=some fs):fs.length≤4:=by
 rcases FN k with h'|h'|h'|h'|h'|h'|h'|h'|h'|h'|h'|h'|h'|h'|h'|h'|h'|h'|h'|h'|h'|h'|h'|h'|h'|h'|h'|h'
 all_goals first|(rw[h']at h;first|(injection h with h;subst h;decide)|cases h)
theorem Z_{m:Mg}(h:bQ m.kind=none):refused m=(32,0):=by unfold refused;rw[h]
theorem Yz{m:Mg}{fs:List Fld}{f:Fld}(h:bQ m.kind=some fs)(hf:f∈fs)(hg:m.good f=false):refused m=(30,0):=by
 unfold refused
 rw[h]
 dsimp only
 rw[if_neg]
 intro hh
 have:=List.all_eq_true.1 hh f hf
 rw[hg]at this
 cases this
theorem ZW{m:Mg}{fs:List Fld}(h:bQ m.kind=some fs)(hg:∀f∈fs,m.good f=true):refused m=if 65536<m.size fs then(31,0)else(0,m.size fs):=by
 unfold refused
 rw[h]
 dsimp only
 rw[if_pos (List.all_eq_true.2 hg)]
theorem aac(m:Mg)(hs:m.small)(l:List Fld):(l.map m.long).sum≤l.length*16777216:=by
 have h2:∀f,m.long f≤16777216:=hs
 generalize m.long=g at h2
 induction l with
 |nil=>exact Nat.zero_le _
 |cons f l ih=>
  rw[List.map_cons,List.sum_cons,List.length_cons,Nat.succ_mul,Nat.add_comm]
  exact Nat.add_le_add ih (h2 f)
theorem ZX(f:Fld):((f.rX.toNat:Int)==78)=decide (f= .names)∧((f.rX.toNat:Int)==81)=decide (f= .aV)∧((f.rX.toNat:Int)==83)=decide (f= .stat):=by cases f<;>exact⟨by decide,by decide,by decide⟩
theorem aad{f:Fld}(hf:f.isText=true)(m:Mg):m.good f=good (m.txt f):=by cases f<;>first|rfl|exact absurd hf (by decide)
theorem aae{f:Fld}(h1:f.isText=false)(h2:f≠ .names)(h3:f≠ .aV)(h4:f≠ .stat)(m:Mg):m.good f=true:=by cases f<;>first|rfl|exact absurd h1 (by decide)|exact absurd rfl h2|exact absurd rfl h3|exact absurd rfl h4
theorem aau{f:Fld}(hf:f.isText=true){m:Mg}(hs:m.small):(m.txt f).size≤16777216:=by have:=hs f;rw[YU hf]at this;omega
theorem aak{m:Mg}(hs:m.small):∀s∈m.names,s.size≤16777216:=by
 intro s h
 have h1:2+(m.names.map fun s=>2+s.size).sum≤16777216:=hs .names
 have h2:=En (f:=fun s:ByteArray=>2+s.size) h
 omega
theorem Y1(m:Mg)(vn vq vd:Value)(w:World)(hk:m.kind<256)(hl:Lists w w.heap.size m vn vq vd)(hs:m.small):
  Calls Tryz.prog 56 #[iM m vn vq vd] w fun e w'=>e=Z9 (refused m)∧Below w.heap.size w w':=by
 have hup:Below w.heap.size w (al w (aF m vn vq vd) 41):=(Below.refl _ _).alloc (Nat.le_refl _) _
 have HU:=hid hup
 have HM:=hid (show aK (al w (aF m vn vq vd) 41) w.heap.size m vn vq vd from Blk.new w _ _)
 have HL:=hid hl
 have HS:=hid hs
 have ZY:=hid (fun w1=>Bv m.kind hk w1)
 clear hup hl hs
 go_enter Tryz.func56,Tryz.ntmps56
 go_upto_region 1 with(fail)
 change Code.wp _ _ _ _ (al w (aF m vn vq vd) 41)
 generalize(al w (aF m vn vq vd) 41)=w1 at HU HM⊢
 generalize hz:w.heap.size=z at HM⊢
 have HZZ:=hid hz;clear hz
 have k0:w1.cell? ⟨z,0,none⟩=some (.int .u8 (m.kind:Int)):=Blk.cell HM.out 0
 go_wp2_with fail
 refine(ZY.out w1).mono ?_
 rintro e w' ⟨rfl,rfl⟩
 clear ZY k0
 cases hf:bQ m.kind with
 |none=>
  rw[show(none:Option (List Fld)).isSome=false from rfl]
  have HR:=hid (Z_ hf)
  clear hf
  go_wp2_with fail
  exact bodyPost_ret (v:= .tuple #[.int .i64 32,.int .i64 0]) (by simp[results,Tryz.results56]) rfl ⟨by rw[HR.out];rfl,HU.out⟩
 |some fs=>
  rw[show(some fs:Option (List Fld)).isSome=true from rfl]
  have HK:=hid hf
  have h4:=YC hf
  have HSB:=hid (show∀j,j≤fs.length→((fs.take j).map m.long).sum≤67108864 from fun j hj=>by
   have h1:=aac m HS.out (fs.take j)
   rw[List.length_take]at h1
   omega)
  have HLL:=hid (show(iQ m.kind).data.toList=fs.map Fld.rX from by
   unfold iQ
   rw[hf]
   simp[ofL])
  have hLs:(iQ m.kind).size=fs.length:=by
   have h:=congrArg List.length HLL.out
   rw[Array.length_toList,List.length_map]at h
   exact h
  clear hf
  generalize iQ m.kind=L at HLL hLs⊢
  go_upto_region 6 with(fail)
  go_loopw [6,7] (fun n i wr=>∃j sm:Nat,n= .int .i64 (sm:Int)∧i= .int .i64 (j:Int)∧j≤fs.length∧sm≤67108871∧Below w.heap.size w wr∧aK wr z m vn vq vd∧Hid (sm=7+((fs.take j).map m.long).sum∧∀f∈fs.take j,m.good f=true)) (fun _ i _=>fs.length-(intOf i).toNat)
  case atStart=>exact⟨0,7,rfl,rfl,Nat.zero_le _,by decide,HU.out,HM.out,hid ⟨rfl,fun f hf=>by cases hf⟩⟩
  case round=>
   obtain⟨j,sm,rfl,rfl,hj,hsm,hb,hmb,HSM⟩:=hrel
   have HB2:=hid hb
   have HM2:=hid hmb
   have HL2:=hid (HL.out.below hb)
   clear hb hmb
   by_cases hlt:j<fs.length
   ·obtain⟨f,hfj⟩:∃f,fs[j]? =some f:=⟨fs[j],List.getElem?_eq_getElem _⟩
    have hjL:j<L.size:=by omega
    have hidx:L[j]'hjL=f.rX:=by
     have h:=byte_at L j hjL
     rw[HLL.out,List.getElem?_map,hfj]at h
     injection h with h
     exact h.symm
    have HFJ:=hid hfj
    have aaf:=hid (List.mem_of_getElem? hfj)
    have HIT:=hid (jV f)
    obtain⟨t1,t2,t3⟩:=ZX f
    clear hfj
    go_wp2_with fail
    refine(HIT.out wr).mono ?_
    rintro e w2 ⟨rfl,rfl⟩
    clear hidx HIT
    cases ht:f.isText with
    |true=>
     have h1:f≠ .names:=by intro e;rw[e]at ht;cases ht
     have h2:f≠ .aV:=by intro e;rw[e]at ht;cases ht
     have h3:f≠ .stat:=by intro e;rw[e]at ht;cases ht
     rw[decide_eq_false h1]at t1
     rw[decide_eq_false h2]at t2
     rw[decide_eq_false h3]at t3
     have HTX:=hid (fun w=>YB f ht m vn vq vd w)
     have HTL:=hid (aau ht HS.out)
     have HGD:=hid (aad ht m)
     clear ht h1 h2 h3
     go_wp2_with(refine wlw HM2.out 0 (aF m vn vq vd) rfl rfl _ _ rfl rfl _ Tryz.underlying41 rfl aB ?_)
     refine(HTX.out wr).mono ?_
     rintro e w5 ⟨rfl,hb⟩
     replace HB2:=hid (HB2.out.trans (hb.mono HB2.out.size))
     replace HM2:=hid (show aK w5 z m vn vq vd from Blk.below HM2.out hb (Blk.lt HM2.out))
     clear hb HTX
     generalize m.txt f=T at HTL HGD⊢
     have hup:Below w5.heap.size w5 (al w5 (h_ [T]) 9):=(Below.refl _ _).alloc (Nat.le_refl _) _
     have HN3:=hid (show iW (al w5 (h_ [T]) 9) (al w5 (h_ [T]) 9).heap.size (.slice (some ⟨w5.heap.size,0,none⟩) 1 1) [T]from by rw[World.size_alloc];exact iW.new w5 _ [T] (show 1≤maxLen by decide))
     have HBX:=hid (HB2.out.trans (hup.mono HB2.out.size))
     have HMX:=hid (show aK (al w5 (h_ [T]) 9) z m vn vq vd from Blk.below HM2.out hup (Blk.lt HM2.out))
     clear hup
     go_wp2_with fail
     change Calls _ _ _ (al w5 (h_ [T]) 9) _
     refine(D5 _ [T] _ HN3.out (fun s hs=>by rw[List.mem_singleton]at hs;subst hs;exact HTL.out)).mono ?_
     rintro e w7 ⟨rfl,rfl⟩
     rw[show([T]:List ByteArray).all good=good T from by rw[List.all_cons,List.all_nil,Bool.and_true]]
     generalize(al w5 (h_ [T]) 9)=w6 at HBX HMX⊢
     have HLX:=hid (HL.out.below HBX.out)
     clear HN3 HB2 HM2 HL2
     cases hg:good T with
     |false=>
      have HGB:=hid (HGD.out.trans hg)
      clear hg
      have HR:=hid (Yz HK.out aaf.out HGB.out)
      go_wp2_with fail
      exact bodyPost_ret (v:= .tuple #[.int .i64 30,.int .i64 0]) (by simp[results,Tryz.results56]) rfl ⟨by rw[HR.out];rfl,HBX.out⟩
     |true=>
      have HGT:=hid (HGD.out.trans hg)
      clear hg
      go_wp2_with(refine wlw HMX.out 0 (aF m vn vq vd) rfl rfl _ _ rfl rfl _ Tryz.underlying41 rfl aB ?_)
      refine(Yj f m vn vq vd w6 (HLX.out.more HBX.out.size) (HS.out f)).mono ?_
      rintro e w8 ⟨rfl,hb⟩
      have HB8:=hid (HBX.out.trans (hb.mono HBX.out.size))
      have HM8:=hid (show aK w8 z m vn vq vd from Blk.below HMX.out hb (Blk.lt HMX.out))
      have hlf:=HS.out f
      have HLF:=hid (show((fs.take (j+1)).map m.long).sum=((fs.take j).map m.long).sum+m.long f from by rw[List.take_add_one,HFJ.out,Option.toList_some,List.map_append,List.sum_append];simp)
      generalize m.long f=lf at hlf HLF⊢
      clear hb
      go_wp2_with fail
      go_roundw
      case rel=>
       refine⟨j+1,sm+lf,by go_num,by go_num,by omega,by have:=HSM.out.1;have:=HLF.out;have h4:=HSB.out (j+1) (by omega);omega,HB8.out,HM8.out,hid ⟨by rw[HLF.out,←Nat.add_assoc,←HSM.out.1], ?_⟩⟩
       intro g hg
       rw[List.take_add_one,HFJ.out,Option.toList_some,List.mem_append]at hg
       rcases hg with hg|hg
       ·exact HSM.out.2 g hg
       ·rw[List.mem_singleton]at hg;subst hg;exact HGT.out
      case measure=>first|(simp[intOf];done)|(simp[intOf];omega)
    |false=>
     by_cases h1:f= .names
     ·subst h1
      rw[decide_eq_true rfl]at t1
      rw[decide_eq_false (by decide)]at t2
      rw[decide_eq_false (by decide)]at t3
      obtain⟨A,c,hv,hc,hmx, -⟩:=id HL.out.n
      have HV:=hid hv
      clear hv
      have kn:wr.cell? ⟨z,11,none⟩=some (.slice A m.names.length c):=by rw[←HV.out];exact Blk.cell HM2.out 11
      have HBX:=HB2
      have HMX:=HM2
      have HLX:=HL2
      have HNL:=hid (aak HS.out)
      have HGD:=hid (show m.good .names=(decide (m.names.length≤16)&&m.names.all good)from rfl)
      clear ht HB2 HM2 HL2
      go_wp2_with fail
      refine(D5 _ m.names wr (by rw[←HV.out];exact HLX.out.n.more HBX.out.size) HNL.out).mono ?_
      rintro e w7 ⟨rfl,rfl⟩
      cases hga:m.names.all good with
      |false=>
       have HGB:=hid (show m.good .names=false from by rw[HGD.out,hga,Bool.and_false])
       clear hga
       have HR:=hid (Yz HK.out aaf.out HGB.out)
       go_wp2_with fail
       exact bodyPost_ret (v:= .tuple #[.int .i64 30,.int .i64 0]) (by simp[results,Tryz.results56]) rfl ⟨by rw[HR.out];rfl,HBX.out⟩
      |true=>
       by_cases h16:(m.names.length:Int)≤16
       ·have HGT:=hid (show m.good .names=true from by rw[HGD.out,hga,decide_eq_true (by omega)];rfl)
        clear hga
        generalize hf:Fld.names=f at*
        have HFE:=hid hf
        clear hf
        go_wp2_with(refine wlw HMX.out 0 (aF m vn vq vd) rfl rfl _ _ rfl rfl _ Tryz.underlying41 rfl aB ?_)
        refine(Yj f m vn vq vd wr (HLX.out.more HBX.out.size) (HS.out f)).mono ?_
        rintro e w8 ⟨rfl,hb⟩
        have HB8:=hid (HBX.out.trans (hb.mono HBX.out.size))
        have HM8:=hid (show aK w8 z m vn vq vd from Blk.below HMX.out hb (Blk.lt HMX.out))
        have hlf:=HS.out f
        have HLF:=hid (show((fs.take (j+1)).map m.long).sum=((fs.take j).map m.long).sum+m.long f from by rw[List.take_add_one,HFJ.out,Option.toList_some,List.map_append,List.sum_append];simp)
        generalize m.long f=lf at hlf HLF⊢
        clear hb
        go_wp2_with fail
        go_roundw
        case rel=>
         refine⟨j+1,sm+lf,by go_num,by go_num,by omega,by have:=HSM.out.1;have:=HLF.out;have h4:=HSB.out (j+1) (by omega);omega,HB8.out,HM8.out,hid ⟨by rw[HLF.out,←Nat.add_assoc,←HSM.out.1], ?_⟩⟩
         intro g hg
         rw[List.take_add_one,HFJ.out,Option.toList_some,List.mem_append]at hg
         rcases hg with hg|hg
         ·exact HSM.out.2 g hg
         ·rw[List.mem_singleton]at hg;subst hg;exact HGT.out
        case measure=>first|(simp[intOf];done)|(simp[intOf];omega)
       ·have HGB:=hid (show m.good .names=false from by rw[HGD.out,decide_eq_false (by omega)];rfl)
        have hd:decide ((m.names.length:Int)≤16)=false:=decide_eq_false h16
        clear hga
        have HR:=hid (Yz HK.out aaf.out HGB.out)
        go_wp2_with fail
        exact bodyPost_ret (v:= .tuple #[.int .i64 30,.int .i64 0]) (by simp[results,Tryz.results56]) rfl ⟨by rw[HR.out];rfl,HBX.out⟩
     rw[decide_eq_false h1]at t1
     by_cases h2:f= .aV
     ·subst h2
      rw[decide_eq_true rfl]at t2
      rw[decide_eq_false (by decide)]at t3
      obtain⟨A,c,hv,hc,hmx, -⟩:=id HL.out.q
      have HV:=hid hv
      clear hv
      have kn:wr.cell? ⟨z,12,none⟩=some (.slice A m.aV.length c):=by rw[←HV.out];exact Blk.cell HM2.out 12
      have HBX:=HB2
      have HMX:=HM2
      have HLX:=HL2
      have HGD:=hid (show m.good .aV=decide (m.aV.length≤16)from rfl)
      clear ht HB2 HM2 HL2 h1
      by_cases h16:(m.aV.length:Int)≤16
      ·have HGT:=hid (show m.good .aV=true from by rw[HGD.out,decide_eq_true (by omega)])
       generalize hf:Fld.aV=f at*
       have HFE:=hid hf
       clear hf
       go_wp2_with(refine wlw HMX.out 0 (aF m vn vq vd) rfl rfl _ _ rfl rfl _ Tryz.underlying41 rfl aB ?_)
       refine(Yj f m vn vq vd wr (HLX.out.more HBX.out.size) (HS.out f)).mono ?_
       rintro e w8 ⟨rfl,hb⟩
       have HB8:=hid (HBX.out.trans (hb.mono HBX.out.size))
       have HM8:=hid (show aK w8 z m vn vq vd from Blk.below HMX.out hb (Blk.lt HMX.out))
       have hlf:=HS.out f
       have HLF:=hid (show((fs.take (j+1)).map m.long).sum=((fs.take j).map m.long).sum+m.long f from by rw[List.take_add_one,HFJ.out,Option.toList_some,List.map_append,List.sum_append];simp)
       generalize m.long f=lf at hlf HLF⊢
       clear hb
       go_wp2_with fail
       go_roundw
       case rel=>
        refine⟨j+1,sm+lf,by go_num,by go_num,by omega,by have:=HSM.out.1;have:=HLF.out;have h4:=HSB.out (j+1) (by omega);omega,HB8.out,HM8.out,hid ⟨by rw[HLF.out,←Nat.add_assoc,←HSM.out.1], ?_⟩⟩
        intro g hg
        rw[List.take_add_one,HFJ.out,Option.toList_some,List.mem_append]at hg
        rcases hg with hg|hg
        ·exact HSM.out.2 g hg
        ·rw[List.mem_singleton]at hg;subst hg;exact HGT.out
       case measure=>first|(simp[intOf];done)|(simp[intOf];omega)
      ·have HGB:=hid (show m.good .aV=false from by rw[HGD.out,decide_eq_false (by omega)])
       have hd:decide ((m.aV.length:Int)≤16)=false:=decide_eq_false h16
       have HR:=hid (Yz HK.out aaf.out HGB.out)
       go_wp2_with fail
       exact bodyPost_ret (v:= .tuple #[.int .i64 30,.int .i64 0]) (by simp[results,Tryz.results56]) rfl ⟨by rw[HR.out];rfl,HBX.out⟩
     rw[decide_eq_false h2]at t2
     by_cases h3:f= .stat
     ·subst h3
      rw[decide_eq_true rfl]at t3
      have kn1:wr.cell? ⟨z,32,none⟩=some (.string m.stat.name):=Blk.cell HM2.out 32
      have kn2:wr.cell? ⟨z,33,none⟩=some (.string m.stat.uid):=Blk.cell HM2.out 33
      have kn3:wr.cell? ⟨z,34,none⟩=some (.string m.stat.gid):=Blk.cell HM2.out 34
      have kn4:wr.cell? ⟨z,35,none⟩=some (.string m.stat.fE):=Blk.cell HM2.out 35
      have HGD:=hid (show m.good .stat=([m.stat.name,m.stat.uid,m.stat.gid,m.stat.fE]:List ByteArray).all good from by
       show m.stat.good=_
       unfold Sta.good
       simp[Bool.and_assoc])
      have HTL:=hid (show∀s∈([m.stat.name,m.stat.uid,m.stat.gid,m.stat.fE]:List ByteArray),s.size≤16777216 from by
       have h:2+(49+m.stat.name.size+m.stat.uid.size+m.stat.gid.size+m.stat.fE.size)≤16777216:=HS.out .stat
       intro s hs
       simp only[List.mem_cons,List.not_mem_nil,or_false]at hs
       rcases hs with rfl|rfl|rfl|rfl<;>omega)
      clear ht h1 h2
      generalize m.stat.name=T1 at*
      generalize m.stat.uid=T2 at*
      generalize m.stat.gid=T3 at*
      generalize m.stat.fE=T4 at*
      have hup:Below wr.heap.size wr (al wr (h_ [T1,T2,T3,T4]) 9):=(Below.refl _ _).alloc (Nat.le_refl _) _
      have HN3:=hid (show iW (al wr (h_ [T1,T2,T3,T4]) 9) (al wr (h_ [T1,T2,T3,T4]) 9).heap.size (.slice (some ⟨wr.heap.size,0,none⟩) 4 4) [T1,T2,T3,T4]from by rw[World.size_alloc];exact iW.new wr _ [T1,T2,T3,T4] (show 4≤maxLen by decide))
      have HBX:=hid (HB2.out.trans (hup.mono HB2.out.size))
      have HMX:=hid (show aK (al wr (h_ [T1,T2,T3,T4]) 9) z m vn vq vd from Blk.below HM2.out hup (Blk.lt HM2.out))
      clear hup
      go_wp2_with fail
      change Calls _ _ _ (al wr (h_ [T1,T2,T3,T4]) 9) _
      refine(D5 _ [T1,T2,T3,T4] _ HN3.out HTL.out).mono ?_
      rintro e w7 ⟨rfl,rfl⟩
      clear kn1 kn2 kn3 kn4
      generalize(al wr (h_ [T1,T2,T3,T4]) 9)=w6 at HBX HMX⊢
      have HLX:=hid (HL.out.below HBX.out)
      clear HN3 HB2 HM2 HL2 HTL
      cases hg:([T1,T2,T3,T4]:List ByteArray).all good with
      |false=>
       have HGB:=hid (HGD.out.trans hg)
       clear hg
       have HR:=hid (Yz HK.out aaf.out HGB.out)
       go_wp2_with fail
       exact bodyPost_ret (v:= .tuple #[.int .i64 30,.int .i64 0]) (by simp[results,Tryz.results56]) rfl ⟨by rw[HR.out];rfl,HBX.out⟩
      |true=>
       have HGT:=hid (HGD.out.trans hg)
       clear hg
       generalize hf:Fld.stat=f at*
       have HFE:=hid hf
       clear hf
       go_wp2_with(refine wlw HMX.out 0 (aF m vn vq vd) rfl rfl _ _ rfl rfl _ Tryz.underlying41 rfl aB ?_)
       refine(Yj f m vn vq vd w6 (HLX.out.more HBX.out.size) (HS.out f)).mono ?_
       rintro e w8 ⟨rfl,hb⟩
       have HB8:=hid (HBX.out.trans (hb.mono HBX.out.size))
       have HM8:=hid (show aK w8 z m vn vq vd from Blk.below HMX.out hb (Blk.lt HMX.out))
       have hlf:=HS.out f
       have HLF:=hid (show((fs.take (j+1)).map m.long).sum=((fs.take j).map m.long).sum+m.long f from by rw[List.take_add_one,HFJ.out,Option.toList_some,List.map_append,List.sum_append];simp)
       generalize m.long f=lf at hlf HLF⊢
       clear hb
       go_wp2_with fail
       go_roundw
       case rel=>
        refine⟨j+1,sm+lf,by go_num,by go_num,by omega,by have:=HSM.out.1;have:=HLF.out;have h4:=HSB.out (j+1) (by omega);omega,HB8.out,HM8.out,hid ⟨by rw[HLF.out,←Nat.add_assoc,←HSM.out.1], ?_⟩⟩
        intro g hg
        rw[List.take_add_one,HFJ.out,Option.toList_some,List.mem_append]at hg
        rcases hg with hg|hg
        ·exact HSM.out.2 g hg
        ·rw[List.mem_singleton]at hg;subst hg;exact HGT.out
       case measure=>first|(simp[intOf];done)|(simp[intOf];omega)
     ·rw[decide_eq_false h3]at t3
      have HGT:=hid (aae ht h1 h2 h3 m)
      have HBX:=HB2
      have HMX:=HM2
      have HLX:=HL2
      clear ht h1 h2 h3 HB2 HM2 HL2
      go_wp2_with(refine wlw HMX.out 0 (aF m vn vq vd) rfl rfl _ _ rfl rfl _ Tryz.underlying41 rfl aB ?_)
      refine(Yj f m vn vq vd wr (HLX.out.more HBX.out.size) (HS.out f)).mono ?_
      rintro e w8 ⟨rfl,hb⟩
      have HB8:=hid (HBX.out.trans (hb.mono HBX.out.size))
      have HM8:=hid (show aK w8 z m vn vq vd from Blk.below HMX.out hb (Blk.lt HMX.out))
      have hlf:=HS.out f
      have HLF:=hid (show((fs.take (j+1)).map m.long).sum=((fs.take j).map m.long).sum+m.long f from by rw[List.take_add_one,HFJ.out,Option.toList_some,List.map_append,List.sum_append];simp)
      generalize m.long f=lf at hlf HLF⊢
      clear hb
      go_wp2_with fail
      go_roundw
      case rel=>
       refine⟨j+1,sm+lf,by go_num,by go_num,by omega,by have:=HSM.out.1;have:=HLF.out;have h4:=HSB.out (j+1) (by omega);omega,HB8.out,HM8.out,hid ⟨by rw[HLF.out,←Nat.add_assoc,←HSM.out.1], ?_⟩⟩
       intro g hg
       rw[List.take_add_one,HFJ.out,Option.toList_some,List.mem_append]at hg
       rcases hg with hg|hg
       ·exact HSM.out.2 g hg
       ·rw[List.mem_singleton]at hg;subst hg;exact HGT.out
      case measure=>first|(simp[intOf];done)|(simp[intOf];omega)
   ·have HSZ:=hid (show sm=m.size fs from by rw[HSM.out.1,List.take_of_length_le (by omega)];rfl)
    have HR:=hid (ZW HK.out (fun f hf=>HSM.out.2 f (by rw[List.take_of_length_le (by omega)];exact hf)))
    rw[←HSZ.out]at HR
    by_cases hbig:(65536:Int)<(sm:Int)
    ·have HR2:=hid (show refused m=(31,0)from by rw[HR.out,if_pos (by omega)])
     go_wp2_with fail
     exact bodyPost_ret (v:= .tuple #[.int .i64 31,.int .i64 0]) (by simp[results,Tryz.results56]) rfl ⟨by rw[HR2.out];rfl,HB2.out⟩
    ·have HR2:=hid (show refused m=(0,sm)from by rw[HR.out,if_neg (by omega)])
     go_wp2_with fail
     exact bodyPost_ret (v:= .tuple #[.int .i64 0,.int .i64 (sm:Int)]) (by simp[results,Tryz.results56]) rfl ⟨by rw[HR2.out];rfl,HB2.out⟩
def oq(base:Nat)(w w':World):Prop:=Below base w w'∧∀g t cs,t≠5→Blk w g t cs→Blk w' g t cs
theorem oq.refl(base:Nat)(w:World):oq base w w:=⟨Below.refl _ _,fun _ _ _ _ h=>h⟩
theorem oq.trans{base:Nat}{a b c:World}(h:oq base a b)(k:oq base b c):oq base a c:=⟨h.1.trans k.1,fun g t cs ht hg=>k.2 g t cs ht (h.2 g t cs ht hg)⟩
theorem oq.new{base:Nat}{a b c:World}(h:oq base a b)(hb:Below b.heap.size b c)(hs:base≤b.heap.size):oq base a c:=h.trans ⟨hb.mono hs,fun _ _ _ _ hg=>Blk.below hg hb (Blk.lt hg)⟩
theorem oq.grown{base n:Nat}{a b c:World}{v:Value}{xs:List Value}(h:oq base a b)(hr:b.ownsRow base 5 1 v n xs)(hs:base≤b.heap.size)(hg:b.grownBy c v.ownBlock):oq base a c:=by
 have ho:=(Off.refl (fun i=>v.ownBlock=some i) b).grown hg (fun g hg=>hg)
 exact h.trans ⟨ho.below (fun i hi=>dH hr i hi) hs,fun g t cs ht hk=>ho.blk hk (fun e=>bZ hr (fun e=>ht e.symm) g _ _ e hk)⟩
def abg(base:Nat)(X:List UInt8)(w:World)(e:Ending)(w':World):Prop:=(∃v,e= .returned v∧w'.ownsRow base 5 1 v X.length (aX X))∧oq base w w'
def Own(v b:Value)(w wr:World):Prop:=Off (fun i=>v.ownBlock=some i∨w.heap.size≤i) w wr∧∀g,b.ownBlock=some g→v.ownBlock=some g∨w.heap.size≤g
theorem Own.refl(v:Value)(w:World):Own v v w w:=⟨Off.refl _ _,fun _ h=> .inl h⟩
theorem Own.step{v b b2:Value}{w wr wa w2:World}(h:Own v b w wr)(hup:Below wr.heap.size wr wa)(hg:wa.grownBy w2 b.ownBlock)(hor:b2.ownBlock=b.ownBlock∨b2.ownBlock=some wa.heap.size):Own v b2 w w2:=by
 have h1:=h.1.trans (Off.of_below hup)
 refine⟨h1.grown hg h.2,fun g e=> ?_⟩
 rcases hor with e'|e'
 ·exact h.2 g (e'▸e)
 ·rw[e']at e
  injection e with e
  subst e
  exact .inr h1.size
theorem Own.off{v b:Value}{w wr:World}(h:Own v b w wr):Off (fun i=>v.ownBlock=some i) w wr:=h.1.mono fun k hk hs=>hs.resolve_right (by omega)
theorem Au{w:World}{base k n:Nat}{v:Value}{B:List UInt8}(hb:base≤w.heap.size)(hv:w.ownsRow base 5 1 v B.length (aX B))(hn:n<18446744073709551616)(hk:k≤8)(hB:B.length≤1000000000):
  Calls Tryz.prog 65 #[v,.int .u64 (n:Int),.int .i64 (k:Int)] w (fun e w'=>abg base (B++le k n) w e w'∧Off (fun i=>v.ownBlock=some i) w w'):=by
 have HB:=hid hb
 obtain⟨X,hX⟩:∃X,X=B++le k n:=⟨_,rfl⟩
 have HX:=hid hX
 rw[←hX]
 have HV:=hid hv
 clear hX hb hv
 go_enter Tryz.func65,Tryz.ntmps65
 go_upto_region 2 with(fail)
 go_loopw [0,1,7] (fun b m i wr=>∃(j n' r:Nat) (B':List UInt8),i= .int .i64 (j:Int)∧m= .int .u64 (n':Int)∧j+r=k∧n'<18446744073709551616∧B'.length≤1000000000+j∧wr.ownsRow base 5 1 b B'.length (aX B')∧oq base w wr∧Hid (X=B'++le r n')∧Own v b w wr) (fun _ _ i _=>k-(intOf i).toNat)
 case atStart=>exact⟨0,n,k,B,rfl,rfl,Nat.zero_add _,hn,hB,HV.out,oq.refl _ _,HX,Own.refl v w⟩
 case round=>
  obtain⟨j,n',r,B',rfl,rfl,hr,hn',hB',ho,hkp,HXX,hown0⟩:=hrel
  have HWN:=hid hown0
  clear hown0
  have HOW:=hid ho
  have HKB:=hid hkp
  have HSZ:=hid (Nat.le_trans HB.out hkp.1.size)
  clear ho hkp HV
  obtain⟨A0,cap,rfl,hc0,hm0⟩:=aJ HOW.out
  by_cases hlt:j<k
  ·obtain⟨r',rfl⟩:∃r',r=r'+1:=⟨r-1,by omega⟩
   have hw8:IntKind.u8.wrap ((n':Int)%256)=(n':Int)%256:=by rw[IntKind.wrap_u8];omega
   obtain⟨q,hq⟩:∃q,q=UInt8.ofNat (n'%256):=⟨_,rfl⟩
   have HQ:=hid (show(n':Int)%256=(q.toNat:Int)from by rw[hq,iK _ (Nat.mod_lt _ (by decide))];omega)
   have HNX:=hid (show X=(B'++[q])++le r' (n'/256)from by rw[HXX.out,hq,List.append_assoc];rfl)
   clear hq
   have hup:Below wr.heap.size wr (wr.alloc (.cells #[.int .u8 ((n':Int)%256)] 5)):=(Below.refl _ _).alloc (Nat.le_refl _) _
   have HKA:=hid (HKB.out.new hup HSZ.out)
   have HOA:=hid (aI HOW.out hup)
   have HRA:=hid (show Reads (wr.alloc (.cells #[.int .u8 ((n':Int)%256)] 5)) (wr.heap.size+1) 1 (some ⟨wr.heap.size,0,none⟩) ([q]:List UInt8).length (aX [q])from by rw[HQ.out];exact Yd wr [q])
   have HLL:=hid (show B'.length+([q]:List UInt8).length≤140737488355327 from by simp only[List.length_cons,List.length_nil];omega)
   have HSA:=hid (Nat.le_trans HSZ.out hup.size)
   have HUP:=hid hup
   clear hup
   go_wp2_with(at_builtin;refine kY (.tmp 13) (.tmp 17) rfl rfl base _ B' rfl HOA.out (wr.heap.size+1) _ 1 [q] rfl HRA.out HLL.out HSA.out ?_;intro v2 w2 hown hgr hor;have HO2:=hid hown;have HK2:=hid (HKA.out.grown HOA.out HSA.out hgr);have HW2:=hid (HWN.out.step HUP.out hgr hor);clear hown hgr hor)
   go_roundw
   case rel=>
    exact⟨j+1,n'/256,r',B'++[q],by go_num,by go_num,by omega,by omega,by rw[List.length_append];simp only[List.length_cons,List.length_nil];omega,HO2.out,HK2.out,HNX,HW2.out⟩
   case measure=>first|(simp[intOf];done)|(simp[intOf];omega)
  ·have hr0:r=0:=by omega
   have HXE:=hid (show X=B' from by rw[HXX.out,hr0];exact List.append_nil _)
   clear hr0
   go_wp2_with fail
   refine bodyPost_ret (v:= .slice A0 B'.length cap) (by simp[results,Tryz.results65]) rfl ⟨⟨⟨_,rfl, ?_⟩,HKB.out⟩,HWN.out.off⟩
   rw[HXE.out]
   exact HOW.out
theorem Ad{w:World}{base k n:Nat}{v:Value}{B:List UInt8}(hb:base≤w.heap.size)(hv:w.ownsRow base 5 1 v B.length (aX B))(hn:n<18446744073709551616)(hk:k≤8)(hB:B.length≤1000000000):
  Calls Tryz.prog 65 #[v,.int .u64 (n:Int),.int .i64 (k:Int)] w (abg base (B++le k n) w):=(Au hb hv hn hk hB).mono fun _ _ h=>h.1
theorem eu{w:World}{base k n:Nat}{v:Value}{B:List UInt8}(hb:base≤w.heap.size)(hv:w.ownsRow base 5 1 v B.length (aX B))(hn:n<18446744073709551616)(hk:k≤8)(hB:B.length≤1000000000):
  Calls Tryz.prog 192 #[v,.int .u64 (n:Int),.int .i64 (k:Int)] w (abg base (B++le k n) w):=by
 have HB:=hid hb
 obtain⟨X,hX⟩:∃X,X=B++le k n:=⟨_,rfl⟩
 have HX:=hid hX
 rw[←hX]
 have HV:=hid hv
 clear hX hb hv
 go_enter Tryz.func192,Tryz.ntmps192
 go_upto_region 2 with(fail)
 go_loopw [0,1,7] (fun b m i wr=>∃(j n' r:Nat) (B':List UInt8),i= .int .i64 (j:Int)∧m= .int .u64 (n':Int)∧j+r=k∧n'<18446744073709551616∧B'.length≤1000000000+j∧wr.ownsRow base 5 1 b B'.length (aX B')∧oq base w wr∧Hid (X=B'++le r n')) (fun _ _ i _=>k-(intOf i).toNat)
 case atStart=>exact⟨0,n,k,B,rfl,rfl,Nat.zero_add _,hn,hB,HV.out,oq.refl _ _,HX⟩
 case round=>
  obtain⟨j,n',r,B',rfl,rfl,hr,hn',hB',ho,hkp,HXX⟩:=hrel
  have HOW:=hid ho
  have HKB:=hid hkp
  have HSZ:=hid (Nat.le_trans HB.out hkp.1.size)
  clear ho hkp HV
  obtain⟨A0,cap,rfl,hc0,hm0⟩:=aJ HOW.out
  by_cases hlt:j<k
  ·obtain⟨r',rfl⟩:∃r',r=r'+1:=⟨r-1,by omega⟩
   have hw8:IntKind.u8.wrap ((n':Int)%256)=(n':Int)%256:=by rw[IntKind.wrap_u8];omega
   obtain⟨q,hq⟩:∃q,q=UInt8.ofNat (n'%256):=⟨_,rfl⟩
   have HQ:=hid (show(n':Int)%256=(q.toNat:Int)from by rw[hq,iK _ (Nat.mod_lt _ (by decide))];omega)
   have HNX:=hid (show X=(B'++[q])++le r' (n'/256)from by rw[HXX.out,hq,List.append_assoc];rfl)
   clear hq
   have hup:Below wr.heap.size wr (wr.alloc (.cells #[.int .u8 ((n':Int)%256)] 5)):=(Below.refl _ _).alloc (Nat.le_refl _) _
   have HKA:=hid (HKB.out.new hup HSZ.out)
   have HOA:=hid (aI HOW.out hup)
   have HRA:=hid (show Reads (wr.alloc (.cells #[.int .u8 ((n':Int)%256)] 5)) (wr.heap.size+1) 1 (some ⟨wr.heap.size,0,none⟩) ([q]:List UInt8).length (aX [q])from by rw[HQ.out];exact Yd wr [q])
   have HLL:=hid (show B'.length+([q]:List UInt8).length≤140737488355327 from by simp only[List.length_cons,List.length_nil];omega)
   have HSA:=hid (Nat.le_trans HSZ.out hup.size)
   clear hup
   go_wp2_with(at_builtin;refine kY (.tmp 13) (.tmp 17) rfl rfl base _ B' rfl HOA.out (wr.heap.size+1) _ 1 [q] rfl HRA.out HLL.out HSA.out ?_;intro v2 w2 hown hgr hor;have HO2:=hid hown;have HK2:=hid (HKA.out.grown HOA.out HSA.out hgr);clear hown hgr hor)
   go_roundw
   case rel=>
    exact⟨j+1,n'/256,r',B'++[q],by go_num,by go_num,by omega,by omega,by rw[List.length_append];simp only[List.length_cons,List.length_nil];omega,HO2.out,HK2.out,HNX⟩
   case measure=>first|(simp[intOf];done)|(simp[intOf];omega)
  ·have hr0:r=0:=by omega
   have HXE:=hid (show X=B' from by rw[HXX.out,hr0];exact List.append_nil _)
   clear hr0
   go_wp2_with fail
   refine bodyPost_ret (v:= .slice A0 B'.length cap) (by simp[results,Tryz.results192]) rfl ⟨⟨_,rfl, ?_⟩,HKB.out⟩
   rw[HXE.out]
   exact HOW.out
theorem aaT{w:World}{base:Nat}{v:Value}{B:List UInt8}(s:ByteArray)(hs:s.size<65536)(hb:base≤w.heap.size)(hv:w.ownsRow base 5 1 v B.length (aX B))(hB:B.length≤100000000):
  Calls Tryz.prog 120 #[v,.string s] w (abg base (B++fP s) w):=by
 have HB:=hid hb
 have HN:=hid (Ad (k:=2) (n:=s.size) hb hv (by omega) (by decide) (by omega))
 have hw:IntKind.u64.wrap (s.size:Int)=(s.size:Int):=by rw[IntKind.wrap_u64];omega
 clear hb hv
 go_enter Tryz.func120,Tryz.ntmps120
 go_wp2_with fail
 refine HN.out.mono ?_
 rintro e w1 ⟨⟨v1,rfl,ho⟩,hk⟩
 have HO:=hid ho
 have HK:=hid hk
 have HSZ:=hid (Nat.le_trans HB.out hk.1.size)
 have HBL:=hid (show(B++le 2 s.size).length≤100000002 from by rw[List.length_append,bK];omega)
 obtain⟨i0,hi0,hz0,hz1,hz2⟩:=info_parts mF
 have HI:=hid (And.intro hi0 (And.intro hz0 (And.intro hz1 hz2)))
 obtain⟨A1,c1,rfl, -⟩:=aJ ho
 clear ho hk hi0 hz0 hz1 hz2 HN
 have HE:=hid (show(B++le 2 s.size)++s.data.toList=B++fP s from by rw[List.append_assoc];rfl)
 generalize B++le 2 s.size=B1 at HO HBL HE⊢
 have hbl:=HBL.out
 go_wp2_with(at_builtin;refine Lib.wpList_append_own_string _ rfl _ _ 22 9 rfl base 5 i0 Tryz.underlying22 Tryz.underlying9 HI.out.1 HI.out.2.1 HI.out.2.2.1 HI.out.2.2.2 _ B1.length (aX B1) rfl HO.out s rfl (by unfold maxLen;omega) (by omega) HSZ.out ?_;intro v2 w2 hown hgr hor;have HO2:=hid hown;have HK2:=hid (HK.out.grown HO.out HSZ.out hgr);clear hown hgr hor)
 refine bodyPost_ret (v:=v2) (by simp[results,Tryz.results120]) rfl ⟨⟨_,rfl, ?_⟩,HK2.out⟩
 rw[←HE.out,List.length_append,Array.length_toList,gy]
 exact HO2.out
theorem aaU{w:World}{base:Nat}{v:Value}{B:List UInt8}(q:Qd)(hq:q.ok)(hb:base≤w.heap.size)(hv:w.ownsRow base 5 1 v B.length (aX B))(hB:B.length≤100000000):
  Calls Tryz.prog 121 #[v,qdV q] w (abg base (B++kR q) w):=by
 obtain⟨q1,q2,q3⟩:=hq
 have hup:Below w.heap.size w (w.alloc (.cells (nU q).toArray 37)):=(Below.refl _ _).alloc (Nat.le_refl _) _
 have HKU:=hid ((oq.refl base w).new hup hb)
 have HZ:=hid (Blk.new w 37 (nU q).toArray)
 have HV:=hid (aI hv hup)
 have HSZ:=hid (Nat.le_trans hb hup.size)
 have HE:=hid (show B++le 1 q.kind++le 4 q.vers++le 8 q.path=B++kR q from by unfold kR;simp only[List.append_assoc])
 clear hb hv hup
 go_enter Tryz.func121,Tryz.ntmps121
 go_upto_region 1 with(fail)
 change Code.wp _ _ _ _ (w.alloc (.cells (nU q).toArray 37))
 generalize w.alloc (.cells (nU q).toArray 37)=w1 at HKU HZ HV HSZ⊢
 generalize w.heap.size=z at HZ⊢
 have k0:w1.cell? ⟨z,0,none⟩=some (.int .u8 (q.kind:Int)):=Blk.cell HZ.out 0
 have hw1:IntKind.u64.wrap (q.kind:Int)=(q.kind:Int):=by rw[IntKind.wrap_u64];omega
 have hw2:IntKind.u64.wrap (q.vers:Int)=(q.vers:Int):=by rw[IntKind.wrap_u64];omega
 go_wp2_with fail
 refine(Ad (k:=1) (n:=q.kind) HSZ.out HV.out (by omega) (by decide) (by omega)).mono ?_
 rintro e w2 ⟨⟨v1,rfl,ho⟩,hk⟩
 have HZ2:=hid (hk.2 _ _ _ (by decide) HZ.out)
 have HS2:=hid (Nat.le_trans HSZ.out hk.1.size)
 have HK2:=hid (HKU.out.trans hk)
 have HO2:=hid ho
 have hl2:(B++le 1 q.kind).length=B.length+1:=by rw[List.length_append,bK]
 clear hk ho HZ HSZ HKU HV k0
 have k1:w2.cell? ⟨z,1,none⟩=some (.int .u32 (q.vers:Int)):=Blk.cell HZ2.out 1
 have HL2:=hid hl2
 clear hl2
 go_wp2_with fail
 refine(Ad (k:=4) (n:=q.vers) HS2.out HO2.out (by omega) (by decide) (by rw[HL2.out];omega)).mono ?_
 rintro e w3 ⟨⟨v2,rfl,ho⟩,hk⟩
 have HZ3:=hid (hk.2 _ _ _ (by decide) HZ2.out)
 have HS3:=hid (Nat.le_trans HS2.out hk.1.size)
 have HK3:=hid (HK2.out.trans hk)
 have HO3:=hid ho
 have HL3:=hid (show(B++le 1 q.kind++le 4 q.vers).length=B.length+1+4 from by rw[List.length_append,HL2.out,bK])
 clear hk ho HZ2 HS2 HK2 HO2 k1
 have k2:w3.cell? ⟨z,2,none⟩=some (.int .u64 (q.path:Int)):=Blk.cell HZ3.out 2
 go_wp2_with fail
 refine(Ad (k:=8) (n:=q.path) HS3.out HO3.out (by omega) (by decide) (by rw[HL3.out];omega)).mono ?_
 rintro e w4 ⟨⟨v3,rfl,ho⟩,hk⟩
 have HK4:=hid (HK3.out.trans hk)
 rw[HE.out]at ho
 have HO4:=hid ho
 clear hk ho
 go_wp2_with fail
 exact bodyPost_ret (v:=v3) (by simp[results,Tryz.results121]) rfl ⟨⟨_,rfl,HO4.out⟩,HK4.out⟩
theorem aaW(f:Fld)(hf:0<f.width)(m:Mg)(hm:m.ok)(vn vq vd:Value)(w:World):Calls Tryz.prog 119 #[iM m vn vq vd,.int .u8 (f.rX.toNat:Int)] w fun e w'=>e= .returned (.int .u64 (m.num f:Int))∧Below w.heap.size w w':=by
 have hup:Below w.heap.size w (al w (aF m vn vq vd) 41):=(Below.refl _ _).alloc (Nat.le_refl _) _
 have HU:=hid hup
 have HM:=hid (show aK (al w (aF m vn vq vd) 41) w.heap.size m vn vq vd from Blk.new w _ _)
 clear hup
 cases f<;>try exact absurd hf (by decide)
 ·as_aux_lemma=>
  change Calls Tryz.prog 119 #[iM m vn vq vd,.int .u8 109] w _
  have hx:=hm.bI
  have hw:IntKind.u64.wrap (m.bI:Int)=(m.bI:Int):=by rw[IntKind.wrap_u64];omega
  go_enter Tryz.func119,Tryz.ntmps119
  go_upto_region 1 with(fail)
  change Code.wp _ _ _ _ (al w (aF m vn vq vd) 41)
  generalize(al w (aF m vn vq vd) 41)=w1 at HU HM⊢
  generalize hz:w.heap.size=z at HM⊢
  have HZZ:=hid hz;clear hz
  have k1:w1.cell? ⟨z,2,none⟩=some (.int .u32 (m.bI:Int)):=Blk.cell HM.out 2
  go_wp2_with fail
  exact bodyPost_ret (v:= .int .u64 (m.bI:Int)) (by simp[results,Tryz.results119]) rfl ⟨rfl,HU.out⟩
 ·as_aux_lemma=>
  change Calls Tryz.prog 119 #[iM m vn vq vd,.int .u8 97] w _
  have hx:=hm.dB
  have hw:IntKind.u64.wrap (m.dB:Int)=(m.dB:Int):=by rw[IntKind.wrap_u64];omega
  go_enter Tryz.func119,Tryz.ntmps119
  go_upto_region 1 with(fail)
  change Code.wp _ _ _ _ (al w (aF m vn vq vd) 41)
  generalize(al w (aF m vn vq vd) 41)=w1 at HU HM⊢
  generalize hz:w.heap.size=z at HM⊢
  have HZZ:=hid hz;clear hz
  have k1:w1.cell? ⟨z,4,none⟩=some (.int .u32 (m.dB:Int)):=Blk.cell HM.out 4
  go_wp2_with fail
  exact bodyPost_ret (v:= .int .u64 (m.dB:Int)) (by simp[results,Tryz.results119]) rfl ⟨rfl,HU.out⟩
 ·as_aux_lemma=>
  change Calls Tryz.prog 119 #[iM m vn vq vd,.int .u8 111] w _
  have hx:=hm.aT
  have hw:IntKind.u64.wrap (m.aT:Int)=(m.aT:Int):=by rw[IntKind.wrap_u64];omega
  go_enter Tryz.func119,Tryz.ntmps119
  go_upto_region 1 with(fail)
  change Code.wp _ _ _ _ (al w (aF m vn vq vd) 41)
  generalize(al w (aF m vn vq vd) 41)=w1 at HU HM⊢
  generalize hz:w.heap.size=z at HM⊢
  have HZZ:=hid hz;clear hz
  have k1:w1.cell? ⟨z,8,none⟩=some (.int .u16 (m.aT:Int)):=Blk.cell HM.out 8
  go_wp2_with fail
  exact bodyPost_ret (v:= .int .u64 (m.aT:Int)) (by simp[results,Tryz.results119]) rfl ⟨rfl,HU.out⟩
 ·as_aux_lemma=>
  change Calls Tryz.prog 119 #[iM m vn vq vd,.int .u8 102] w _
  have hx:=hm.fid
  have hw:IntKind.u64.wrap (m.fid:Int)=(m.fid:Int):=by rw[IntKind.wrap_u64];omega
  go_enter Tryz.func119,Tryz.ntmps119
  go_upto_region 1 with(fail)
  change Code.wp _ _ _ _ (al w (aF m vn vq vd) 41)
  generalize(al w (aF m vn vq vd) 41)=w1 at HU HM⊢
  generalize hz:w.heap.size=z at HM⊢
  have HZZ:=hid hz;clear hz
  have k1:w1.cell? ⟨z,9,none⟩=some (.int .u32 (m.fid:Int)):=Blk.cell HM.out 9
  go_wp2_with fail
  exact bodyPost_ret (v:= .int .u64 (m.fid:Int)) (by simp[results,Tryz.results119]) rfl ⟨rfl,HU.out⟩
 ·as_aux_lemma=>
  change Calls Tryz.prog 119 #[iM m vn vq vd,.int .u8 119] w _
  have hx:=hm.aU
  have hw:IntKind.u64.wrap (m.aU:Int)=(m.aU:Int):=by rw[IntKind.wrap_u64];omega
  go_enter Tryz.func119,Tryz.ntmps119
  go_upto_region 1 with(fail)
  change Code.wp _ _ _ _ (al w (aF m vn vq vd) 41)
  generalize(al w (aF m vn vq vd) 41)=w1 at HU HM⊢
  generalize hz:w.heap.size=z at HM⊢
  have HZZ:=hid hz;clear hz
  have k1:w1.cell? ⟨z,10,none⟩=some (.int .u32 (m.aU:Int)):=Blk.cell HM.out 10
  go_wp2_with fail
  exact bodyPost_ret (v:= .int .u64 (m.aU:Int)) (by simp[results,Tryz.results119]) rfl ⟨rfl,HU.out⟩
 ·as_aux_lemma=>
  change Calls Tryz.prog 119 #[iM m vn vq vd,.int .u8 100] w _
  have hx:=hm.mode
  have hw:IntKind.u64.wrap (m.mode:Int)=(m.mode:Int):=by rw[IntKind.wrap_u64];omega
  go_enter Tryz.func119,Tryz.ntmps119
  go_upto_region 1 with(fail)
  change Code.wp _ _ _ _ (al w (aF m vn vq vd) 41)
  generalize(al w (aF m vn vq vd) 41)=w1 at HU HM⊢
  generalize hz:w.heap.size=z at HM⊢
  have HZZ:=hid hz;clear hz
  have k1:w1.cell? ⟨z,16,none⟩=some (.int .u8 (m.mode:Int)):=Blk.cell HM.out 16
  go_wp2_with fail
  exact bodyPost_ret (v:= .int .u64 (m.mode:Int)) (by simp[results,Tryz.results119]) rfl ⟨rfl,HU.out⟩
 ·as_aux_lemma=>
  change Calls Tryz.prog 119 #[iM m vn vq vd,.int .u8 105] w _
  have hx:=hm.aQ
  have hw:IntKind.u64.wrap (m.aQ:Int)=(m.aQ:Int):=by rw[IntKind.wrap_u64];omega
  go_enter Tryz.func119,Tryz.ntmps119
  go_upto_region 1 with(fail)
  change Code.wp _ _ _ _ (al w (aF m vn vq vd) 41)
  generalize(al w (aF m vn vq vd) 41)=w1 at HU HM⊢
  generalize hz:w.heap.size=z at HM⊢
  have HZZ:=hid hz;clear hz
  have k1:w1.cell? ⟨z,17,none⟩=some (.int .u32 (m.aQ:Int)):=Blk.cell HM.out 17
  go_wp2_with fail
  exact bodyPost_ret (v:= .int .u64 (m.aQ:Int)) (by simp[results,Tryz.results119]) rfl ⟨rfl,HU.out⟩
 ·as_aux_lemma=>
  change Calls Tryz.prog 119 #[iM m vn vq vd,.int .u8 112] w _
  have hx:=hm.perm
  have hw:IntKind.u64.wrap (m.perm:Int)=(m.perm:Int):=by rw[IntKind.wrap_u64];omega
  go_enter Tryz.func119,Tryz.ntmps119
  go_upto_region 1 with(fail)
  change Code.wp _ _ _ _ (al w (aF m vn vq vd) 41)
  generalize(al w (aF m vn vq vd) 41)=w1 at HU HM⊢
  generalize hz:w.heap.size=z at HM⊢
  have HZZ:=hid hz;clear hz
  have k1:w1.cell? ⟨z,19,none⟩=some (.int .u32 (m.perm:Int)):=Blk.cell HM.out 19
  go_wp2_with fail
  exact bodyPost_ret (v:= .int .u64 (m.perm:Int)) (by simp[results,Tryz.results119]) rfl ⟨rfl,HU.out⟩
 ·as_aux_lemma=>
  change Calls Tryz.prog 119 #[iM m vn vq vd,.int .u8 79] w _
  have hx:=hm.offset
  have hw:IntKind.u64.wrap (m.offset:Int)=(m.offset:Int):=by rw[IntKind.wrap_u64];omega
  go_enter Tryz.func119,Tryz.ntmps119
  go_upto_region 1 with(fail)
  change Code.wp _ _ _ _ (al w (aF m vn vq vd) 41)
  generalize(al w (aF m vn vq vd) 41)=w1 at HU HM⊢
  generalize hz:w.heap.size=z at HM⊢
  have HZZ:=hid hz;clear hz
  have k1:w1.cell? ⟨z,20,none⟩=some (.int .u64 (m.offset:Int)):=Blk.cell HM.out 20
  go_wp2_with fail
  exact bodyPost_ret (v:= .int .u64 (m.offset:Int)) (by simp[results,Tryz.results119]) rfl ⟨rfl,HU.out⟩
 ·as_aux_lemma=>
  change Calls Tryz.prog 119 #[iM m vn vq vd,.int .u8 67] w _
  have hx:=hm.count
  have hw:IntKind.u64.wrap (m.count:Int)=(m.count:Int):=by rw[IntKind.wrap_u64];omega
  go_enter Tryz.func119,Tryz.ntmps119
  go_upto_region 1 with(fail)
  change Code.wp _ _ _ _ (al w (aF m vn vq vd) 41)
  generalize(al w (aF m vn vq vd) 41)=w1 at HU HM⊢
  generalize hz:w.heap.size=z at HM⊢
  have HZZ:=hid hz;clear hz
  have k1:w1.cell? ⟨z,21,none⟩=some (.int .u32 (m.count:Int)):=Blk.cell HM.out 21
  go_wp2_with fail
  exact bodyPost_ret (v:= .int .u64 (m.count:Int)) (by simp[results,Tryz.results119]) rfl ⟨rfl,HU.out⟩
end Go.Proofs.YtkblmloobkiloaaGreatDoor
