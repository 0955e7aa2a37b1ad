/-
  MT3 MX: what the laws of package msg need of them.
-/
import Derived.Test.YtkblmloobkiloaaGreatDoorT00
import Derived.Test.YtkblmloobkiloaaGreatDoorT05
import Derived.Test.YtkblmloobkiloaaGreatDoorT06
import Derived.Lib.MapLaws
import Derived.Deep.MidRow
import Derived.Laws.ResultCell
set_option maxRecDepth 100000
set_option maxHeartbeats 6400000
namespace Go.Proofs.YtkblmloobkiloaaGreatDoor
open Go.Lib (hid)
open Go.RowKit
theorem SB.new(w:World):SB (w.alloc (.cells #[.pointer none,.slice none 0 0] 197)) w.heap.size w.heap.size []:=
 .inl ⟨Nat.le_refl _,.slice none 0 0,Blk.new w _ _,⟨rfl,.inl ⟨rfl,rfl⟩⟩,by simp[Value.ownBlock]⟩
theorem SB.size{w:World}{B b:Nat}{l:List Value}(h:SB w B b l):b<w.heap.size:=by
 rcases h with⟨_,v,hb,_⟩|⟨_,v,hb,_⟩<;>exact dP hb
theorem Bys.at_{w:World}{B:Nat}{A:Option Addr}{n c:Nat}{l:List UInt8}(h:Bys w B (.slice A n c) l){k:Nat}{u:UInt8}(hx:l[k]? =some u):∃ad,A=some ad∧ad.block<B∧w.cell? (ad.add k)=some (.int .u8 (u.toNat:Int)):=by
 obtain⟨A',c',e, -, -,hr⟩:=h
 injection e with e1 e2 e3
 subst e1
 have hk:k<l.length:=(List.getElem?_eq_some_iff.1 hx).1
 obtain⟨ad,v,h1,h2,h3,h4⟩:=hr.at_ hk
 refine⟨ad,h1,h2,h4.trans ?_⟩
 rw[List.getElem?_map,hx]at h3
 exact h3.symm▸rfl
theorem vX(i:Nat)(h:i<(ByteArray.mk #[48,49,50,51,52,53,54,55,56,57,97,98,99,100,101,102]).size):(ByteArray.mk #[48,49,50,51,52,53,54,55,56,57,97,98,99,100,101,102])[i]=hexD i:=by
 have h':i<16:=h
 match i,h' with
 |0,_=>rfl
 |1,_=>rfl
 |2,_=>rfl
 |3,_=>rfl
 |4,_=>rfl
 |5,_=>rfl
 |6,_=>rfl
 |7,_=>rfl
 |8,_=>rfl
 |9,_=>rfl
 |10,_=>rfl
 |11,_=>rfl
 |12,_=>rfl
 |13,_=>rfl
 |14,_=>rfl
 |15,_=>rfl
 |i+16,h'=>exact absurd h' (by omega)
theorem GI(l:List UInt8):(l.flatMap jW).length=2*l.length:=by
 induction l with
 |nil=>rfl
 |cons c l ih=>
  rw[List.flatMap_cons,List.length_append,ih]
  simp only[jW,List.length_cons,List.length_nil]
  omega
theorem sJ(hv:Value)(x:List UInt8)(w:World)(hx:Bys w w.heap.size hv x)(hl:x.length≤16777216):
  Calls Tryz.prog 167 #[hv] w fun e w'=>e= .returned (.string (ofL (x.flatMap jW)))∧Below w.heap.size w w':=by
 have hup:Below w.heap.size w (w.alloc (.cells #[.pointer none,.slice none 0 0] 197)):=(Below.refl _ _).alloc (Nat.le_refl _) _
 have HS:=hid (SB.new w)
 have HB:=hid hup
 have HX:=hid hx
 obtain⟨A,c,rfl,hc,hm, -⟩:=hx
 clear hup
 go_enter Tryz.func167,Tryz.ntmps167
 go_upto_region 2 with(fail)
 generalize w.alloc (.cells #[.pointer none,.slice none 0 0] 197)=w0 at HS HB⊢
 generalize hz:w.heap.size=z at HS HB HX⊢
 have HZ:=hid hz;clear hz
 go_upto_region 3 with(fail)
 go_loopw [5,8] (fun _ i wr=>∃k:Nat,k≤x.length∧i= .int .i64 k∧SB wr z z (aX ((x.take k).flatMap jW))∧Below z w wr) (fun _ i _=>x.length-(intOf i).toNat)
 case atStart=>exact⟨0,by omega,rfl,HS.out,HB.out⟩
 case round=>
  obtain⟨k,hk,rfl,hs,hb⟩:=hrel
  have HSR:=hid hs;clear hs
  have HBR:=hid hb;clear hb
  by_cases hlt:k<x.length
  ·obtain⟨u,hu⟩:∃u,x[k]? =some u:=⟨x[k],List.getElem?_eq_getElem _⟩
   obtain⟨ad,rfl,hab,kx⟩:=(HX.out.below HBR.out).at_ hu
   have HU:=hid hu
   have hul:=u.toNat_lt
   have HH:=hid (show jW u=[hexD (u.toNat/16),hexD (u.toNat%16)]from rfl)
   clear hu hab
   generalize u.toNat=n at*
   have HLN:=hid (show(aX ((x.take k).flatMap jW)).length≤33554432 from by rw[jQ,GI,List.length_take];omega)
   go_wp2_with fail
   rw[vX]
   refine(jR z z _ ((hexD (n/16)).toNat:Int) wr HSR.out (by have:=HLN.out;omega) (by have:=SB.size HSR.out;omega)).mono ?_
   rintro e w1 ⟨rfl,hs,hb, -⟩
   have HS1:=hid hs
   have HB1:=hid (HBR.out.trans hb)
   clear hs hb kx
   generalize hd1:((hexD (n/16)).toNat:Int)=d1 at HS1⊢
   have HD1:=hid hd1;clear hd1
   go_wp2_with fail
   rw[vX]
   refine(jR z z _ ((hexD (n%16)).toNat:Int) w1 HS1.out (by rw[List.length_append];have:=HLN.out;simp only[List.length_cons,List.length_nil];omega) (by have:=SB.size HS1.out;omega)).mono ?_
   rintro e w2 ⟨rfl,hs,hb, -⟩
   have HS2:=hid hs
   have HB2:=hid (HB1.out.trans hb)
   clear hs hb
   generalize hd2:((hexD (n%16)).toNat:Int)=d2 at HS2⊢
   have HD2:=hid hd2;clear hd2
   go_wp2_with fail
   go_roundw
   case rel=>
    refine⟨k+1,by omega,by go_num, ?_,HB2.out⟩
    have h:=HS2.out
    rw[List.append_assoc]at h
    rw[List.take_add_one,HU.out,Option.toList_some,List.flatMap_append,List.flatMap_singleton,gy,HH.out]
    rw[←HD1.out,←HD2.out]at h
    exact h
   case measure=>simp[intOf];omega
  ·have hkl:k=x.length:=by omega
   subst hkl
   rw[List.take_length]at HSR
   go_wp2_with fail
   refine(Tryz.Builder_String_any_k z z (x.flatMap jW) wr HSR.out (by have:=SB.size HSR.out;omega)).mono ?_
   rintro e w4 ⟨rfl, -,hb, -⟩
   have HB4:=hid (HBR.out.trans hb)
   clear hb
   go_wp2_with fail
   go_ret
   exact⟨rfl,by have hz:=HZ.out;rw[hz];exact HB4.out⟩
theorem SB.below{w w':World}{B b:Nat}{l:List Value}(h:SB w B b l)(hb:Below w.heap.size w w'):SB w' B b l:=by
 have key:∀pv,Lib.BuilderAtF 197 5 B b pv l w→Lib.BuilderAtF 197 5 B b pv l w':=by
  rintro pv ⟨hB,v,hbk,hown,hne⟩
  refine⟨hB,v,(hb.block b (dP hbk)).trans hbk,⟨hown.1, ?_⟩,hne⟩
  rcases hown.2 with h0|⟨g,cap,cur,fz,hv,h1,hg,r⟩
  ·exact .inl h0
  ·exact .inr ⟨g,cap,cur,fz,hv,h1,(hb.block g (dP hg)).trans hg,r⟩
 rcases h with h|h
 ·exact .inl (key _ h)
 ·exact .inr (key _ h)
theorem iL(c:UInt8)(h:128≤c.toNat):dw c=[c]:=by
 have h1:esc c=false:=by unfold esc;rw[decide_eq_false (by omega),decide_eq_false (by omega)];rfl
 have h2:ctl c=false:=by unfold ctl;rw[decide_eq_false (by omega),decide_eq_false (by omega)];rfl
 unfold dw
 rw[h1,h2]
 rfl
theorem Eu(l:List UInt8)(hne:l≠ [])(hv:¬((Lib.decodeL l).1=65533∧(Lib.decodeL l).2=1)):
  (Lib.decodeL l).2≤l.length∧(Lib.decodeL l).1≤1114111∧aX (l.take (Lib.decodeL l).2)=Lib.runeCells ((Lib.decodeL l).1:Int)∧
  ((Lib.decodeL l).1<128→∃c:UInt8,l.take (Lib.decodeL l).2=[c]∧c.toNat=(Lib.decodeL l).1)∧
  (128≤(Lib.decodeL l).1→(l.take (Lib.decodeL l).2).flatMap dw=l.take (Lib.decodeL l).2):=by
 refine⟨Lib.decodeL_le l hne,Lib.decodeL_rune l, ?_, ?_⟩
 ·rw[←Lib.encode_decode l hne hv,←Lib.byteCells_encodeRune]
  rfl
 ·have hl:0<l.length:=List.length_pos_iff.2 hne
  rw[Lib.decodeL_N]at hv⊢
  rcases Lib.decodeN_shape l.length (l.getD 0 0).toNat (l.getD 1 0).toNat (l.getD 2 0).toNat (l.getD 3 0).toNat with⟨c,e⟩|⟨c1,c2,c3,cv,e⟩|⟨c1,c2,c3,c4,cv,cs,e⟩|⟨c1,c2,c3,c4,c5,cv,cw,e⟩|e
  ·rw[e]
   dsimp only
   exact⟨fun _=>⟨l.getD 0 0,Lib.takeA l hl,rfl⟩,fun h=>by omega⟩
  ·rw[e]
   dsimp only
   refine⟨fun h=>by omega,fun _=> ?_⟩
   rw[Lib.takeB l c2]
   simp only[List.flatMap_cons,List.flatMap_nil,iL (l.getD 0 0) (by omega),iL (l.getD 1 0) (by omega)]
   rfl
  ·rw[e]
   dsimp only
   refine⟨fun h=>by omega,fun _=> ?_⟩
   rw[Lib.takeC l c2]
   simp only[List.flatMap_cons,List.flatMap_nil,iL (l.getD 0 0) (by omega),iL (l.getD 1 0) (by omega),iL (l.getD 2 0) (by omega)]
   rfl
  ·rw[e]
   dsimp only
   refine⟨fun h=>by omega,fun _=> ?_⟩
   rw[Lib.takeD l c2]
   simp only[List.flatMap_cons,List.flatMap_nil,iL (l.getD 0 0) (by omega),iL (l.getD 1 0) (by omega),iL (l.getD 2 0) (by omega),iL (l.getD 3 0) (by omega)]
   rfl
  ·rw[e]at hv
   exact absurd ⟨rfl,rfl⟩ hv
theorem sK(l:List UInt8):(l.flatMap dw).length≤4*l.length:=by
 induction l with
 |nil=>exact Nat.le_refl _
 |cons c l ih=>
  rw[List.flatMap_cons,List.length_append,List.length_cons]
  have:(dw c).length≤4:=by
   unfold dw jW
   split
   ·simp only[List.length_cons,List.length_nil];omega
   ·split
    ·simp only[List.length_cons,List.length_nil];omega
    ·simp only[List.length_cons,List.length_nil];omega
  omega
theorem Az{s:ByteArray}{f pos:Nat}(h:pos<s.size)(hf:s.size≤pos+f)(hg:gq s f pos=true):¬((Utf8.decode s pos).1=0∨((Utf8.decode s pos).1=65533∧(Utf8.decode s pos).2=1)):=by
 intro hb
 rw[nS h hf hb]at hg
 cases hg
theorem qC(s:ByteArray):Lib.strCells s=aX s.data.toList:=by
 simp[Lib.strCells,aX]
theorem qE{r:Int}(h0:0≤r)(h1:r≤127):Lib.runeCells r=[.int .u8 r]:=by
 unfold Lib.runeCells
 rw[Lib.encodeRuneZ_one h0 h1]
 rfl
theorem jS(s:ByteArray)(hg:good s=true)(hz:s.size≤16777216)(w:World):
  Calls Tryz.prog 140 #[.string s] w fun e w'=>e= .returned (.string (ofL (bD s)))∧Below w.heap.size w w':=by
 have hup:Below w.heap.size w (w.alloc (.cells #[.pointer none,.slice none 0 0] 197)):=(Below.refl _ _).alloc (Nat.le_refl _) _
 have HS:=hid (SB.new w)
 have HB:=hid hup
 have HG:=hid hg
 have HZZ:=hid hz
 have WX:s.size+s.size≤9223372036854775807:=by omega
 clear hup hg
 go_enter Tryz.func140,Tryz.ntmps140
 go_upto_region 2 with(fail)
 generalize w.alloc (.cells #[.pointer none,.slice none 0 0] 197)=w0 at HS HB⊢
 generalize hzz:w.heap.size=z at HS HB⊢
 have HZ:=hid hzz;clear hzz
 go_wp2_with fail
 refine(jR z z _ 34 w0 HS.out (by decide) (by have:=SB.size HS.out;omega)).mono ?_
 rintro e w1 ⟨rfl,hs,hb, -⟩
 have HS1:=hid hs
 have HB1:=hid (HB.out.trans hb)
 have uF:=hid (SB.size hs)
 clear hs hb HS HB
 have UW:=hid (World.iter_heap w1 s 0)
 go_wp2_with fail
 go_loopw [5] (fun _ wr=>∃(pos f:Nat),wr.heap[w1.heap.size]? =some (.stringIter s pos)∧SB wr z z (aX (34::(s.data.toList.take pos).flatMap dw))∧Below z w wr∧gq s f pos=true∧s.size≤pos+f∧pos≤s.size) (fun _ wr=>s.size-wr.iterPos w1.heap.size)
 case atStart=>
  refine⟨0,s.size,UW.out, ?_,HB1.out.alloc (by have:=uF.out;omega) _,HG.out,by omega,by omega⟩
  rw[List.take_zero,List.flatMap_nil]
  exact HS1.out.alloc _
 case round=>
  obtain⟨pos,f,hit,hs,hb,hgf,hf,hps⟩:=hrel
  generalize Sm:w1.heap.size=it at*
  have WY:=hid Sm;clear Sm
  have HSR:=hid hs;clear hs
  have HBR:=hid hb;clear hb
  have HGF:=hid hgf;clear hgf
  have HZI:=hid (show z<it from by have:=uF.out;omega)
  by_cases hp:pos<s.size
  ·have hnx:∀ty,(Instr.next (.pointer (some ⟨it,0,none⟩)) true ty).run Tryz.prog wr=_:=fun ty=>Lib.run_next_any_at wr it s pos ty hit hp
   have HWD:=hid (width_pos s pos hp)
   have nT:=hid (Lib.iterAt_heap wr it s pos (pos+(Utf8.decode s pos).2) hit)
   have HB2:=hid (Lib.below_iterAt HBR.out (k:=it) (Nat.le_of_lt HZI.out) s (pos+(Utf8.decode s pos).2))
   have HS2:=hid (Lib.IsBuilderF.iterAt HSR.out hit (pos+(Utf8.decode s pos).2))
   have yu:=hid (show wr.iterPos it=pos from by simp[World.iterPos,hit])
   clear hit
   have hok:=Az hp hf HGF.out
   have hdl:=Lib.decodeL_drop s pos
   have hne:s.data.toList.drop pos≠ []:=by
    intro h0
    have:=congrArg List.length h0
    rw[List.length_drop,Array.length_toList]at this
    have h2:s.data.size=s.size:=rfl
    simp at this
    omega
   have hsq:=Eu _ hne (by rw[hdl];exact fun h=>hok (.inr h))
   have HGN:=hid ((mY hp hf hok).symm.trans HGF.out)
   rw[hdl]at hsq
   have HQ:=hid (show∀k,k=(Utf8.decode s pos).2→(s.data.toList.take (pos+k)).flatMap dw=(s.data.toList.take pos).flatMap dw++((s.data.toList.drop pos).take k).flatMap dw from fun k _=>by
    rw[List.take_add,List.flatMap_append])
   have HLN:=hid (show(aX (34::(s.data.toList.take pos).flatMap dw)).length≤67108865 from by
    rw[jQ,List.length_cons]
    have h1:=sK (s.data.toList.take pos)
    have h2:(s.data.toList.take pos).length≤pos:=by rw[List.length_take];omega
    have:=HZZ.out
    omega)
   generalize hdec:Utf8.decode s pos=d at hsq hok HWD nT HB2 HS2 HGN HQ hnx
   clear hdec hdl hne
   obtain⟨r,k⟩:=d
   dsimp only at hnx HWD nT HB2 HS2 hsq hok HGN
   obtain⟨hk1,hr,hrc,hlo,hhi⟩:=hsq
   have HK1:=hid (show pos+k≤s.size from by
    clear hrc hlo hhi hnx hok HQ
    rw[List.length_drop,Array.length_toList]at hk1
    have h2:s.data.size=s.size:=rfl
    omega)
   have HRB:=hid (show-2147483648≤(r:Int)∧(r:Int)≤2147483647 from by clear hrc hlo hhi hnx hok HQ;omega)
   have HQ2:=hid (HQ.out k rfl)
   generalize(s.data.toList.drop pos).take k=B at hrc hlo hhi HQ2
   have HRC:=hid hrc
   have HHI:=hid hhi
   have HLO:=hid hlo
   clear hk1 hrc hlo hhi HSR HBR HGF HQ hok
   generalize hLE:aX (34::(s.data.toList.take pos).flatMap dw)=L at*
   have HLE:=hid hLE
   clear hLE
   by_cases h34:r=34
   ·have b34:((r:Int)==34)=true:=by rw[beq_iff_eq];omega
    have HC:=hid (show r=34∨r=92 from .inl h34)
    clear h34
    go_wp2_with fail
    generalize wr.iterAt it s (pos+k)=w2 at nT HB2 HS2⊢
    have HL2:=hid (show L.length+1≤140737488355328 from by have:=HLN.out;omega)
    have HZ2:=hid (Nat.le_of_lt (SB.size HS2.out))
    refine(jR z z L 92 w2 HS2.out HL2.out HZ2.out).mono ?_
    rintro e w3 ⟨rfl,hs,hb,hok⟩
    have HS3:=hid hs
    have HB3:=hid (HB2.out.trans hb)
    have HO3:=hid hok
    clear hs hb hok
    go_wp2_with fail
    have HL3:=hid (show(L++[Value.int .u8 92]).length+4≤140737488355328 from by rw[List.length_append];have:=HLN.out;simp only[List.length_cons,List.length_nil];omega)
    have HZ3:=hid (Nat.le_of_lt (SB.size HS3.out))
    refine(nY z z _ (r:Int) HRB.out.1 HRB.out.2 w3 HS3.out HL3.out HZ3.out).mono ?_
    rintro e w4 ⟨⟨u,v,rfl⟩,hs,hb,hok⟩
    have HS9:=hid hs
    have HB9:=hid (HB3.out.trans hb)
    have HOK:=hid (HO3.out.trans hok)
    clear hs hb hok
    have rJ:=hid (Lib.OthersKept.iter HOK.out nT.out (by have:=HZI.out;omega))
    go_wp2_with fail
    go_roundw
    case rel=>
     refine⟨pos+k,f-1,rJ.out, ?_,HB9.out,HGN.out,by have:=HWD.out;omega,HK1.out⟩
     rw[HQ2.out]
     have hcc:=HC.out
     obtain⟨c,hc,hcn⟩:=HLO.out (by omega)
     have h:=HS9.out
     rw[qE (by omega) (by omega),←HLE.out]at h
     rw[hc,List.flatMap_cons,List.flatMap_nil,List.append_nil,show dw c=[92,c]from by
      unfold dw
      rw[show esc c=true from by unfold esc;rw[hcn];simp;omega]
      rfl,←List.cons_append,gy]
     rw[←hcn,List.append_assoc]at h
     exact h
    case measure=>have:=HWD.out;rw[yu.out];simp only[World.iterPos,rJ.out];omega
   ·have b34:((r:Int)==34)=false:=by rw[beq_eq_false_iff_ne];omega
    have H34:=hid h34
    clear h34
    by_cases h92:r=92
    ·have b92:((r:Int)==92)=true:=by rw[beq_iff_eq];omega
     have HC:=hid (show r=34∨r=92 from .inr h92)
     clear h92
     go_wp2_with fail
     generalize wr.iterAt it s (pos+k)=w2 at nT HB2 HS2⊢
     have HL2:=hid (show L.length+1≤140737488355328 from by have:=HLN.out;omega)
     have HZ2:=hid (Nat.le_of_lt (SB.size HS2.out))
     refine(jR z z L 92 w2 HS2.out HL2.out HZ2.out).mono ?_
     rintro e w3 ⟨rfl,hs,hb,hok⟩
     have HS3:=hid hs
     have HB3:=hid (HB2.out.trans hb)
     have HO3:=hid hok
     clear hs hb hok
     go_wp2_with fail
     have HL3:=hid (show(L++[Value.int .u8 92]).length+4≤140737488355328 from by rw[List.length_append];have:=HLN.out;simp only[List.length_cons,List.length_nil];omega)
     have HZ3:=hid (Nat.le_of_lt (SB.size HS3.out))
     refine(nY z z _ (r:Int) HRB.out.1 HRB.out.2 w3 HS3.out HL3.out HZ3.out).mono ?_
     rintro e w4 ⟨⟨u,v,rfl⟩,hs,hb,hok⟩
     have HS9:=hid hs
     have HB9:=hid (HB3.out.trans hb)
     have HOK:=hid (HO3.out.trans hok)
     clear hs hb hok
     have rJ:=hid (Lib.OthersKept.iter HOK.out nT.out (by have:=HZI.out;omega))
     go_wp2_with fail
     go_roundw
     case rel=>
      refine⟨pos+k,f-1,rJ.out, ?_,HB9.out,HGN.out,by have:=HWD.out;omega,HK1.out⟩
      rw[HQ2.out]
      have hcc:=HC.out
      obtain⟨c,hc,hcn⟩:=HLO.out (by omega)
      have h:=HS9.out
      rw[qE (by omega) (by omega),←HLE.out]at h
      rw[hc,List.flatMap_cons,List.flatMap_nil,List.append_nil,show dw c=[92,c]from by
       unfold dw
       rw[show esc c=true from by unfold esc;rw[hcn];simp;omega]
       rfl,←List.cons_append,gy]
      rw[←hcn,List.append_assoc]at h
      exact h
     case measure=>have:=HWD.out;rw[yu.out];simp only[World.iterPos,rJ.out];omega
    ·have b92:((r:Int)==92)=false:=by rw[beq_eq_false_iff_ne];omega
     have H92:=hid h92
     clear h92
     by_cases h32:r<32
     ·have UY:(r:Int)<32:=by omega
      have HC:=hid (show r<32∨r=127 from .inl h32)
      clear h32
      go_wp2_with fail
      generalize wr.iterAt it s (pos+k)=w2 at nT HB2 HS2⊢
      try rw[show(r:Int)%256=(r:Int)from by have:=HC.out;omega]
      have HR8:=hid (show Bys (w2.alloc (.cells #[.int .u8 (r:Int)] 5)) (w2.alloc (.cells #[.int .u8 (r:Int)] 5)).heap.size (.slice (some ⟨w2.heap.size,0,none⟩) 1 1) [UInt8.ofNat r]from by
       have h:=dI w2 5 [.int .u8 (r:Int)] 1 1 rfl
       refine⟨_,_,rfl,Nat.le_refl _,by decide, ?_⟩
       rw[World.size_alloc]
       rw[show aX [UInt8.ofNat r]=[.int .u8 (r:Int)]from by
        show [Value.int .u8 ((UInt8.ofNat r).toNat:Int)]=_
        rw[iK r (by have:=HC.out;omega)]]
       exact h)
      have qR:Below w2.heap.size w2 (w2.alloc (.cells #[.int .u8 (r:Int)] 5)):=(Below.refl _ _).alloc (Nat.le_refl _) _
      have HSA:=hid (SB.below HS2.out qR)
      have HUP:=hid qR
      clear qR
      refine(sJ _ [UInt8.ofNat r] _ HR8.out (show 1≤16777216 by decide)).mono ?_
      rintro e w3 ⟨rfl,hb⟩
      have HS3:=hid (SB.below HSA.out hb)
      have HU3:=hid (HUP.out.trans (hb.mono HUP.out.size))
      clear hb HR8
      have HB3:=hid (HB2.out.trans (HU3.out.mono (Nat.le_of_lt (SB.size HS2.out))))
      have HO3:=hid (show Lib.OthersKept 5 (some z) w2 w3 from fun k o hk _ _=>(HU3.out.block k (dP hk)).trans hk)
      generalize hhx:ofL ([UInt8.ofNat r].flatMap jW)=hx
      have HHX:=hid (show hx.data.toList=jW (UInt8.ofNat r)from by rw[←hhx];simp[ofL])
      have hxs:hx.size=2:=by rw[←hhx];rfl
      clear hhx
      go_wp2_with fail
      generalize Ew:(ByteArray.mk #[92,120])++hx=cat
      have HCL:=hid (show cat.data.toList=92::120::jW (UInt8.ofNat r)from by rw[←Ew,ByteArray.data_append,Array.toList_append,HHX.out];rfl)
      have hcs:cat.size=4:=by rw[←Ew,ByteArray.size_append,hxs];rfl
      have HCS:=hid hcs
      clear Ew hcs hxs
      have HL3:=hid (show L.length+cat.size≤140737488355328 from by rw[HCS.out];have:=HLN.out;omega)
      have HZ3:=hid (Nat.le_of_lt (SB.size HS3.out))
      refine(oV z z L cat w3 HS3.out HL3.out HZ3.out).mono ?_
      rintro e w4 ⟨rfl,hs,hb,hok⟩
      have HS9:=hid hs
      have HB9:=hid (HB3.out.trans hb)
      have HOK:=hid (HO3.out.trans hok)
      clear hs hb hok
      have rJ:=hid (Lib.OthersKept.iter HOK.out nT.out (by have:=HZI.out;omega))
      go_wp2_with fail
      go_roundw
      case rel=>
       refine⟨pos+k,f-1,rJ.out, ?_,HB9.out,HGN.out,by have:=HWD.out;omega,HK1.out⟩
       rw[HQ2.out]
       have hcc:=HC.out
       obtain⟨c,hc,hcn⟩:=HLO.out (by omega)
       have h:=HS9.out
       have hcr:UInt8.ofNat r=c:=by rw[←hcn];simp
       rw[qC,HCL.out,hcr,←HLE.out,←gy]at h
       have h34:=H34.out
       have h92:=H92.out
       rw[hc,List.flatMap_cons,List.flatMap_nil,List.append_nil,show dw c=92::120::jW c from by
        unfold dw
        rw[show esc c=false from by unfold esc;rw[hcn,decide_eq_false (by omega),decide_eq_false (by omega)];rfl,show ctl c=true from by unfold ctl;rw[hcn];simp;omega]
        rfl,←List.cons_append]
       exact h
      case measure=>have:=HWD.out;rw[yu.out];simp only[World.iterPos,rJ.out];omega
     ·have UY:¬(r:Int)<32:=by omega
      have H32:=hid h32
      clear h32
      by_cases h127:r=127
      ·have UZ:((r:Int)==127)=true:=by rw[beq_iff_eq];omega
       have HC:=hid (show r<32∨r=127 from .inr h127)
       clear h127
       go_wp2_with fail
       generalize wr.iterAt it s (pos+k)=w2 at nT HB2 HS2⊢
       try rw[show(r:Int)%256=(r:Int)from by have:=HC.out;omega]
       have HR8:=hid (show Bys (w2.alloc (.cells #[.int .u8 (r:Int)] 5)) (w2.alloc (.cells #[.int .u8 (r:Int)] 5)).heap.size (.slice (some ⟨w2.heap.size,0,none⟩) 1 1) [UInt8.ofNat r]from by
        have h:=dI w2 5 [.int .u8 (r:Int)] 1 1 rfl
        refine⟨_,_,rfl,Nat.le_refl _,by decide, ?_⟩
        rw[World.size_alloc]
        rw[show aX [UInt8.ofNat r]=[.int .u8 (r:Int)]from by
         show [Value.int .u8 ((UInt8.ofNat r).toNat:Int)]=_
         rw[iK r (by have:=HC.out;omega)]]
        exact h)
       have qR:Below w2.heap.size w2 (w2.alloc (.cells #[.int .u8 (r:Int)] 5)):=(Below.refl _ _).alloc (Nat.le_refl _) _
       have HSA:=hid (SB.below HS2.out qR)
       have HUP:=hid qR
       clear qR
       refine(sJ _ [UInt8.ofNat r] _ HR8.out (show 1≤16777216 by decide)).mono ?_
       rintro e w3 ⟨rfl,hb⟩
       have HS3:=hid (SB.below HSA.out hb)
       have HU3:=hid (HUP.out.trans (hb.mono HUP.out.size))
       clear hb HR8
       have HB3:=hid (HB2.out.trans (HU3.out.mono (Nat.le_of_lt (SB.size HS2.out))))
       have HO3:=hid (show Lib.OthersKept 5 (some z) w2 w3 from fun k o hk _ _=>(HU3.out.block k (dP hk)).trans hk)
       generalize hhx:ofL ([UInt8.ofNat r].flatMap jW)=hx
       have HHX:=hid (show hx.data.toList=jW (UInt8.ofNat r)from by rw[←hhx];simp[ofL])
       have hxs:hx.size=2:=by rw[←hhx];rfl
       clear hhx
       go_wp2_with fail
       generalize Ew:(ByteArray.mk #[92,120])++hx=cat
       have HCL:=hid (show cat.data.toList=92::120::jW (UInt8.ofNat r)from by rw[←Ew,ByteArray.data_append,Array.toList_append,HHX.out];rfl)
       have hcs:cat.size=4:=by rw[←Ew,ByteArray.size_append,hxs];rfl
       have HCS:=hid hcs
       clear Ew hcs hxs
       have HL3:=hid (show L.length+cat.size≤140737488355328 from by rw[HCS.out];have:=HLN.out;omega)
       have HZ3:=hid (Nat.le_of_lt (SB.size HS3.out))
       refine(oV z z L cat w3 HS3.out HL3.out HZ3.out).mono ?_
       rintro e w4 ⟨rfl,hs,hb,hok⟩
       have HS9:=hid hs
       have HB9:=hid (HB3.out.trans hb)
       have HOK:=hid (HO3.out.trans hok)
       clear hs hb hok
       have rJ:=hid (Lib.OthersKept.iter HOK.out nT.out (by have:=HZI.out;omega))
       go_wp2_with fail
       go_roundw
       case rel=>
        refine⟨pos+k,f-1,rJ.out, ?_,HB9.out,HGN.out,by have:=HWD.out;omega,HK1.out⟩
        rw[HQ2.out]
        have hcc:=HC.out
        obtain⟨c,hc,hcn⟩:=HLO.out (by omega)
        have h:=HS9.out
        have hcr:UInt8.ofNat r=c:=by rw[←hcn];simp
        rw[qC,HCL.out,hcr,←HLE.out,←gy]at h
        have h34:=H34.out
        have h92:=H92.out
        rw[hc,List.flatMap_cons,List.flatMap_nil,List.append_nil,show dw c=92::120::jW c from by
         unfold dw
         rw[show esc c=false from by unfold esc;rw[hcn,decide_eq_false (by omega),decide_eq_false (by omega)];rfl,show ctl c=true from by unfold ctl;rw[hcn];simp;omega]
         rfl,←List.cons_append]
        exact h
       case measure=>have:=HWD.out;rw[yu.out];simp only[World.iterPos,rJ.out];omega
      ·have UZ:((r:Int)==127)=false:=by rw[beq_eq_false_iff_ne];omega
       have U0:=hid h127
       clear h127
       go_wp2_with fail
       generalize wr.iterAt it s (pos+k)=w2 at nT HB2 HS2⊢
       have HL3:=hid (show L.length+4≤140737488355328 from by have:=HLN.out;omega)
       have HZ3:=hid (Nat.le_of_lt (SB.size HS2.out))
       refine(nY z z L (r:Int) HRB.out.1 HRB.out.2 w2 HS2.out HL3.out HZ3.out).mono ?_
       rintro e w4 ⟨⟨u,v,rfl⟩,hs,hb,hok⟩
       have HS9:=hid hs
       have HB9:=hid (HB2.out.trans hb)
       have HOK:=hid hok
       clear hs hb hok
       have rJ:=hid (Lib.OthersKept.iter HOK.out nT.out (by have:=HZI.out;omega))
       go_wp2_with fail
       go_roundw
       case rel=>
        refine⟨pos+k,f-1,rJ.out, ?_,HB9.out,HGN.out,by have:=HWD.out;omega,HK1.out⟩
        rw[HQ2.out]
        have h:=HS9.out
        rw[←HRC.out,←HLE.out,←gy]at h
        have e:B.flatMap dw=B:=by
         have h34:=H34.out
         have h92:=H92.out
         have h32:=H32.out
         have h127:=U0.out
         by_cases h8:r<128
         ·obtain⟨c,hc,hcn⟩:=HLO.out h8
          rw[hc,List.flatMap_cons,List.flatMap_nil,List.append_nil]
          have e1:esc c=false:=by unfold esc;rw[hcn,decide_eq_false (by omega),decide_eq_false (by omega)];rfl
          have e2:ctl c=false:=by unfold ctl;rw[hcn,decide_eq_false (by omega),decide_eq_false (by omega)];rfl
          unfold dw
          rw[e1,e2]
          rfl
         ·exact HHI.out (by omega)
        rw[e,←List.cons_append]
        exact h
       case measure=>have:=HWD.out;rw[yu.out];simp only[World.iterPos,rJ.out];omega
  ·have hnx:∀ty,(Instr.next (.pointer (some ⟨it,0,none⟩)) true ty).run Tryz.prog wr=_:=fun ty=>Lib.run_next_end_at wr it s pos ty hit hp
   have hpe:pos=s.size:=by omega
   subst hpe
   have HSE:=hid (show SB wr z z (aX (34::s.data.toList.flatMap dw))from by
    have h:=HSR.out
    rw[List.take_of_length_le (show s.data.toList.length≤s.size from Nat.le_of_eq (Array.length_toList ..))]at h
    exact h)
   clear HSR hit
   have HLN:=hid (show(aX (34::s.data.toList.flatMap dw)).length≤67108865 from by
    rw[jQ,List.length_cons]
    have h1:=sK s.data.toList
    have h2:s.data.toList.length=s.size:=Array.length_toList ..
    have:=HZZ.out
    omega)
   go_wp2_with fail
   refine(jR z z _ 34 wr HSE.out (by have:=HLN.out;omega) (by have:=SB.size HSE.out;omega)).mono ?_
   rintro e w3 ⟨rfl,hs,hb, -⟩
   have HS3:=hid (show SB w3 z z (Lib.byteCells (bD s))from by
    have e:Lib.byteCells (bD s)=aX (34::s.data.toList.flatMap dw)++[.int .u8 34]:=by
     show aX (34::(s.data.toList.flatMap dw++[34]))=_
     rw[←List.cons_append,gy]
     rfl
    rw[e]
    exact hs)
   have HB3:=hid (HBR.out.trans hb)
   clear hs hb
   go_wp2_with fail
   refine(Tryz.Builder_String_any_k z z (bD s) w3 HS3.out (by have:=SB.size HS3.out;omega)).mono ?_
   rintro e w4 ⟨rfl, -,hb, -⟩
   have HB4:=hid (HB3.out.trans hb)
   clear hb
   go_wp2_with fail
   go_ret
   exact⟨rfl,by have hz:=HZ.out;rw[hz];exact HB4.out⟩
theorem og{S:Nat→Prop}{w0 w:World}(h:Off S w0 w){b:Nat}(hb:S b):∀(vs:List Value) (o:Nat),Off S w0 (w.setCells b o vs):=by
 intro vs
 induction vs generalizing w with
 |nil=>intro o;exact h
 |cons v r ih=>intro o;exact ih (h.setCell (p:=⟨b,o,none⟩) hb v) (o+1)
theorem Blk.range{w:World}{q:Nat}{t:TypeId}{cs:Array Value}(h:Blk w q t cs)(o:Nat)(l:List Value)(hl:(cs.toList.drop o).take l.length=l):w.rangeAt q o l:=fun j v hv=>by
 refine(Blk.cell h (o+j)).trans ?_
 rw[←hl]at hv
 rw[List.getElem?_take]at hv
 split at hv
 ·rw[List.getElem?_drop]at hv
  rw[←Array.getElem?_toList]
  exact hv
 ·cases hv
def over(cs:Array Value)(o:Nat):List Value→Array Value
 | []=>cs
 |v::r=>over (cs.setIfInBounds o v) (o+1) r
theorem Blk.sN{q:Nat}{t:TypeId}:∀(l:List Value) (o:Nat) {w:World} {cs:Array Value},Blk w q t cs→Blk (w.setCells q o l) q t (over cs o l)
 | [],_,_,_,h=>h
 |v::r,o,_,_,h=>Blk.sN r (o+1) (h.aW o v)
section
variable {w w':World} {q:Nat} {t:TypeId} {cs:Array Value} {ops:Array Oper} {rest:List Oper} {op:Oper} {a:Act} {Q:Exit→Act→World→Prop}
theorem wlw(hk:Blk w q t cs)(o:Nat)(l:List Value)(hl:(cs.toList.drop o).take l.length=l)(hgd:Region.wanted op (yielded ops a.tmps)=true)(ty:TypeId)(x:Operand)(ho:op.op= .load ty x)(hx:a.eval x= .pointer (some ⟨q,o,none⟩))(d:TypeDesc)
  (hu:Tryz.prog.underlying ty=some d) (hd:d.isRow=true) (hi:(Tryz.prog.info? ty).map (·.size)=some l.length)
  (h:wpList Tryz.prog ops Q rest (a.put op.dst (.agg l.toArray)) w):wpList Tryz.prog ops Q (op::rest) a w:=
 wpList_step fun K hK=>by
  rw[if_pos hgd]
  exact wp_load_mid ty x ho q o hx l d (hk.range o l hl) hu hd hi (hK _ _ h)
theorem dA(hk:Blk w q t cs)(o:Nat)(l:List Value)(cs':Array Value)(hcs:over cs o l=cs')(hb:o+l.length≤cs.size)(h1:l.toArray.all (·.oneCell')=true)(hgd:op.guard=none)(ty:TypeId)(x y:Operand)(ho:op.op= .store ty x y)(hx:a.eval x= .pointer (some ⟨q,o,none⟩))(hy:a.eval y= .agg l.toArray)
  (hi:(Tryz.prog.info? ty).map (·.size)=some l.length)
  (h:∀w':World,Blk w' q t cs'→(∀S:Nat→Prop,S q→∀v,Off S v w→Off S v w')→wpList Tryz.prog ops Q rest (a.put op.dst undef) w'):wpList Tryz.prog ops Q (op::rest) a w:=
 wpList_store_mid hgd ty x y ho q o l.toArray hx hy (fun j hj=>by
  have hj':j<l.length:=by simpa using hj
  refine⟨?_,Blk.frozen hk _⟩
  rw[Blk.cell hk,Array.getElem?_eq_getElem (by omega)]
  rfl) (by simpa using hi) h1 (h _ (by rw[←hcs];exact Blk.sN _ _ hk) (fun S hS v hv=>og hv hS _ o))
end
theorem bP:(Tryz.prog.info? 39).map (·.size)=some 13:=by kernel_rfl
theorem aB:(Tryz.prog.info? 41).map (·.size)=some 36:=by kernel_rfl
abbrev aF(m:Mg)(vn vq vd:Value):List Value:=[.int .u8 (m.kind:Int),.int .u16 (m.tag:Int),.int .u32 (m.bI:Int),.string m.version,.int .u32 (m.dB:Int),.string m.uname,.string m.bF,.string m.bH,.int .u16 (m.aT:Int),.int .u32 (m.fid:Int),.int .u32 (m.aU:Int),vn,vq,.int .u8 (m.qid.kind:Int),.int .u32 (m.qid.vers:Int),.int .u64 (m.qid.path:Int),.int .u8 (m.mode:Int),.int .u32 (m.aQ:Int),.string m.name,.int .u32 (m.perm:Int),.int .u64 (m.offset:Int),.int .u32 (m.count:Int),vd,.int .u16 (m.stat.type:Int),.int .u32 (m.stat.dev:Int),.int .u8 (m.stat.qid.kind:Int),.int .u32 (m.stat.qid.vers:Int),.int .u64 (m.stat.qid.path:Int),.int .u32 (m.stat.mode:Int),.int .u32 (m.stat.atime:Int),.int .u32 (m.stat.mtime:Int),.int .u64 (m.stat.length:Int),.string m.stat.name,.string m.stat.uid,.string m.stat.gid,.string m.stat.fE]
abbrev iM(m:Mg)(vn vq vd:Value):Value:= .agg (aF m vn vq vd).toArray
def aK(w:World)(q:Nat)(m:Mg)(vn vq vd:Value):Prop:=Blk w q 41 (aF m vn vq vd).toArray
def lX(w:World)(B:Nat)(v:Value)(l:List Qd):Prop:=∃A c,v= .slice A l.length c∧l.length≤c∧c≤maxLen∧Reads w B 3 A l.length (ng l)
def iW(w:World)(B:Nat)(v:Value)(l:List ByteArray):Prop:=∃A c,v= .slice A l.length c∧l.length≤c∧c≤maxLen∧Reads w B 1 A l.length (h_ l)
theorem lX.nil_(w:World)(B:Nat):lX w B (.slice none 0 0) []:=⟨none,0,rfl,Nat.le_refl _,Nat.zero_le _,Reads.none_⟩
theorem iW.nil_(w:World)(B:Nat):iW w B (.slice none 0 0) []:=⟨none,0,rfl,Nat.le_refl _,Nat.zero_le _,Reads.none_⟩
section
variable {w w':World} {B B':Nat} {v:Value}
theorem lX.below{l:List Qd}(h:lX w B v l)(hb:Below B w w'):lX w' B v l:=by
 obtain⟨A,c,e,h1,h2,h3⟩:=h
 exact⟨A,c,e,h1,h2,h3.below hb⟩
theorem iW.below{l:List ByteArray}(h:iW w B v l)(hb:Below B w w'):iW w' B v l:=by
 obtain⟨A,c,e,h1,h2,h3⟩:=h
 exact⟨A,c,e,h1,h2,h3.below hb⟩
theorem lX.more{l:List Qd}(h:lX w B v l)(hB:B≤B'):lX w B' v l:=by
 obtain⟨A,c,e,h1,h2,h3⟩:=h
 exact⟨A,c,e,h1,h2,h3.more hB⟩
theorem iW.more{l:List ByteArray}(h:iW w B v l)(hB:B≤B'):iW w B' v l:=by
 obtain⟨A,c,e,h1,h2,h3⟩:=h
 exact⟨A,c,e,h1,h2,h3.more hB⟩
theorem iW.iH{base n:Nat}{l:List ByteArray}(h:w.ownsRow base 9 1 v n (h_ l)):iW w w.heap.size v l:=by
 have hn:n=l.length:=by
  have:=h.1
  simp at this
  exact this.symm
 subst hn
 obtain⟨A,c,rfl,h1,h2⟩:=aJ h
 exact⟨A,c,rfl,h1,h2,Reads.iH h⟩
theorem lX.iH{base:Nat}{l:List Qd}(h:w.ownsRow base 37 3 v l.length (ng l)):lX w w.heap.size v l:=by
 obtain⟨A,c,rfl,h1,h2⟩:=aJ h
 exact⟨A,c,rfl,h1,h2,Reads.iH h⟩
theorem lX.one{l:List Qd}(h:lX w B v l):v.oneCell'=true:=by
 obtain⟨A,c,rfl, -⟩:=h
 rfl
theorem iW.one{l:List ByteArray}(h:iW w B v l):v.oneCell'=true:=by
 obtain⟨A,c,rfl, -⟩:=h
 rfl
theorem Bys.one{l:List UInt8}(h:Bys w B v l):v.oneCell'=true:=by
 obtain⟨A,c,rfl, -⟩:=h
 rfl
end
structure Lists(w:World)(B:Nat)(m:Mg)(vn vq vd:Value):Prop where
 n:iW w B vn m.names
 q:lX w B vq m.aV
 d:Bys w B vd m.data
theorem Lists.below{w w':World}{B:Nat}{m:Mg}{vn vq vd:Value}(h:Lists w B m vn vq vd)(hb:Below B w w'):Lists w' B m vn vq vd:=⟨h.n.below hb,h.q.below hb,h.d.below hb⟩
theorem Lists.more{w:World}{B B':Nat}{m:Mg}{vn vq vd:Value}(h:Lists w B m vn vq vd)(hB:B≤B'):Lists w B' m vn vq vd:=⟨h.n.more hB,h.q.more hB,h.d.more hB⟩
end Go.Proofs.YtkblmloobkiloaaGreatDoor
