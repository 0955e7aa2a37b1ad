/-
  MT3 MT4 MT5: what the laws of package msg need of them.
-/
import Derived.Test.YtkblmloobkiloaaGreatDoorK00
import Derived.Test.YtkblmloobkiloaaGreatDoorK08
import Derived.Lib.MapLaws
import Derived.Test.YtkblmloobkiloaaGreatDoorK07
set_option maxRecDepth 100000
set_option maxHeartbeats 6400000
namespace Go.Proofs.YtkblmloobkiloaaGreatDoor
open Go.Lib (hid)
open Go.RowKit
theorem SB.new(w:World):SB (w.alloc (.cells #[.pointer none,.slice none 0 0] 197)) w.heap.size w.heap.size []:=
 .inl ⟨Nat.le_refl _,.slice none 0 0,Blk.new w _ _,⟨rfl,.inl ⟨rfl,rfl⟩⟩,by simp[Value.ownBlock]⟩
theorem SB.size{w:World}{B b:Nat}{l:List Value}(h:SB w B b l):b<w.heap.size:=by
 rcases h with⟨_,v,hb,_⟩|⟨_,v,hb,_⟩<;>exact dP hb
theorem Bys.at_{w:World}{B:Nat}{A:Option Addr}{n c:Nat}{l:List UInt8}(h:Bys w B (.slice A n c) l){k:Nat}{u:UInt8}(hx:l[k]? =some u):∃ad,A=some ad∧ad.block<B∧w.cell? (ad.add k)=some (.int .u8 (u.toNat:Int)):=by
 obtain⟨A',c',e, -, -,hr⟩:=h
 injection e with e1 e2 e3
 subst e1
 have hk:k<l.length:=(List.getElem?_eq_some_iff.1 hx).1
 obtain⟨ad,v,h1,h2,h3,h4⟩:=hr.at_ hk
 refine⟨ad,h1,h2,h4.trans ?_⟩
 rw[List.getElem?_map,hx]at h3
 exact h3.symm▸rfl
theorem vX(i:Nat)(h:i<(ByteArray.mk #[48,49,50,51,52,53,54,55,56,57,97,98,99,100,101,102]).size):(ByteArray.mk #[48,49,50,51,52,53,54,55,56,57,97,98,99,100,101,102])[i]=hexD i:=by
 have h':i<16:=h
 match i,h' with
 |0,_=>rfl
 |1,_=>rfl
 |2,_=>rfl
 |3,_=>rfl
 |4,_=>rfl
 |5,_=>rfl
 |6,_=>rfl
 |7,_=>rfl
 |8,_=>rfl
 |9,_=>rfl
 |10,_=>rfl
 |11,_=>rfl
 |12,_=>rfl
 |13,_=>rfl
 |14,_=>rfl
 |15,_=>rfl
 |i+16,h'=>exact absurd h' (by omega)
theorem GI(l:List UInt8):(l.flatMap jW).length=2*l.length:=by
 induction l with
 |nil=>rfl
 |cons c l ih=>
  rw[List.flatMap_cons,List.length_append,ih]
  simp only[jW,List.length_cons,List.length_nil]
  omega
theorem sJ(hv:Value)(x:List UInt8)(w:World)(hx:Bys w w.heap.size hv x)(hl:x.length≤16777216):
  Calls Tryz.prog 167 #[hv] w fun e w'=>e= .returned (.string (ofL (x.flatMap jW)))∧Below w.heap.size w w':=by
 have hup:Below w.heap.size w (w.alloc (.cells #[.pointer none,.slice none 0 0] 197)):=(Below.refl _ _).alloc (Nat.le_refl _) _
 have HS:=hid (SB.new w)
 have HB:=hid hup
 have HX:=hid hx
 obtain⟨A,c,rfl,hc,hm, -⟩:=hx
 clear hup
 go_enter Tryz.func167,Tryz.ntmps167
 go_upto_region 2 with(fail)
 generalize w.alloc (.cells #[.pointer none,.slice none 0 0] 197)=w0 at HS HB⊢
 generalize hz:w.heap.size=z at HS HB HX⊢
 have HZ:=hid hz;clear hz
 go_upto_region 3 with(fail)
 go_loopw [5,8] (fun _ i wr=>∃k:Nat,k≤x.length∧i= .int .i64 k∧SB wr z z (aX ((x.take k).flatMap jW))∧Below z w wr) (fun _ i _=>x.length-(intOf i).toNat)
 case atStart=>exact⟨0,by omega,rfl,HS.out,HB.out⟩
 case round=>
  obtain⟨k,hk,rfl,hs,hb⟩:=hrel
  have HSR:=hid hs;clear hs
  have HBR:=hid hb;clear hb
  by_cases hlt:k<x.length
  ·obtain⟨u,hu⟩:∃u,x[k]? =some u:=⟨x[k],List.getElem?_eq_getElem _⟩
   obtain⟨ad,rfl,hab,kx⟩:=(HX.out.below HBR.out).at_ hu
   have HU:=hid hu
   have hul:=u.toNat_lt
   have HH:=hid (show jW u=[hexD (u.toNat/16),hexD (u.toNat%16)]from rfl)
   clear hu hab
   generalize u.toNat=n at*
   have HLN:=hid (show(aX ((x.take k).flatMap jW)).length≤33554432 from by rw[jQ,GI,List.length_take];omega)
   go_wp2_with fail
   rw[vX]
   refine(jR z z _ ((hexD (n/16)).toNat:Int) wr HSR.out (by have:=HLN.out;omega) (by have:=SB.size HSR.out;omega)).mono ?_
   rintro e w1 ⟨rfl,hs,hb, -⟩
   have HS1:=hid hs
   have HB1:=hid (HBR.out.trans hb)
   clear hs hb kx
   generalize hd1:((hexD (n/16)).toNat:Int)=d1 at HS1⊢
   have HD1:=hid hd1;clear hd1
   go_wp2_with fail
   rw[vX]
   refine(jR z z _ ((hexD (n%16)).toNat:Int) w1 HS1.out (by rw[List.length_append];have:=HLN.out;simp only[List.length_cons,List.length_nil];omega) (by have:=SB.size HS1.out;omega)).mono ?_
   rintro e w2 ⟨rfl,hs,hb, -⟩
   have HS2:=hid hs
   have HB2:=hid (HB1.out.trans hb)
   clear hs hb
   generalize hd2:((hexD (n%16)).toNat:Int)=d2 at HS2⊢
   have HD2:=hid hd2;clear hd2
   go_wp2_with fail
   go_roundw
   case rel=>
    refine⟨k+1,by omega,by go_num, ?_,HB2.out⟩
    have h:=HS2.out
    rw[List.append_assoc]at h
    rw[List.take_add_one,HU.out,Option.toList_some,List.flatMap_append,List.flatMap_singleton,gy,HH.out]
    rw[←HD1.out,←HD2.out]at h
    exact h
   case measure=>simp[intOf];omega
  ·have hkl:k=x.length:=by omega
   subst hkl
   rw[List.take_length]at HSR
   go_wp2_with fail
   refine(Tryz.Builder_String_any_k z z (x.flatMap jW) wr HSR.out (by have:=SB.size HSR.out;omega)).mono ?_
   rintro e w4 ⟨rfl, -,hb, -⟩
   have HB4:=hid (HBR.out.trans hb)
   clear hb
   go_wp2_with fail
   go_ret
   exact⟨rfl,by have hz:=HZ.out;rw[hz];exact HB4.out⟩
theorem SB.below{w w':World}{B b:Nat}{l:List Value}(h:SB w B b l)(hb:Below w.heap.size w w'):SB w' B b l:=by
 have key:∀pv,Lib.BuilderAtF 197 5 B b pv l w→Lib.BuilderAtF 197 5 B b pv l w':=by
  rintro pv ⟨hB,v,hbk,hown,hne⟩
  refine⟨hB,v,(hb.block b (dP hbk)).trans hbk,⟨hown.1, ?_⟩,hne⟩
  rcases hown.2 with h0|⟨g,cap,cur,fz,hv,h1,hg,r⟩
  ·exact .inl h0
  ·exact .inr ⟨g,cap,cur,fz,hv,h1,(hb.block g (dP hg)).trans hg,r⟩
 rcases h with h|h
 ·exact .inl (key _ h)
 ·exact .inr (key _ h)
theorem iL(c:UInt8)(h:128≤c.toNat):dw c=[c]:=by
 have h1:esc c=false:=by unfold esc;rw[decide_eq_false (by omega),decide_eq_false (by omega)];rfl
 have h2:ctl c=false:=by unfold ctl;rw[decide_eq_false (by omega),decide_eq_false (by omega)];rfl
 unfold dw
 rw[h1,h2]
 rfl
theorem Eu(l:List UInt8)(hne:l≠ [])(hv:¬((Lib.decodeL l).1=65533∧(Lib.decodeL l).2=1)):
  (Lib.decodeL l).2≤l.length∧(Lib.decodeL l).1≤1114111∧aX (l.take (Lib.decodeL l).2)=Lib.runeCells ((Lib.decodeL l).1:Int)∧
  ((Lib.decodeL l).1<128→∃c:UInt8,l.take (Lib.decodeL l).2=[c]∧c.toNat=(Lib.decodeL l).1)∧
  (128≤(Lib.decodeL l).1→(l.take (Lib.decodeL l).2).flatMap dw=l.take (Lib.decodeL l).2):=by
 refine⟨Lib.decodeL_le l hne,Lib.decodeL_rune l, ?_, ?_⟩
 ·rw[←Lib.encode_decode l hne hv,←Lib.byteCells_encodeRune]
  rfl
 ·have hl:0<l.length:=List.length_pos_iff.2 hne
  rw[Lib.decodeL_N]at hv⊢
  rcases Lib.decodeN_shape l.length (l.getD 0 0).toNat (l.getD 1 0).toNat (l.getD 2 0).toNat (l.getD 3 0).toNat with⟨c,e⟩|⟨c1,c2,c3,cv,e⟩|⟨c1,c2,c3,c4,cv,cs,e⟩|⟨c1,c2,c3,c4,c5,cv,cw,e⟩|e
  ·rw[e]
   dsimp only
   exact⟨fun _=>⟨l.getD 0 0,Lib.takeA l hl,rfl⟩,fun h=>by omega⟩
  ·rw[e]
   dsimp only
   refine⟨fun h=>by omega,fun _=> ?_⟩
   rw[Lib.takeB l c2]
   simp only[List.flatMap_cons,List.flatMap_nil,iL (l.getD 0 0) (by omega),iL (l.getD 1 0) (by omega)]
   rfl
  ·rw[e]
   dsimp only
   refine⟨fun h=>by omega,fun _=> ?_⟩
   rw[Lib.takeC l c2]
   simp only[List.flatMap_cons,List.flatMap_nil,iL (l.getD 0 0) (by omega),iL (l.getD 1 0) (by omega),iL (l.getD 2 0) (by omega)]
   rfl
  ·rw[e]
   dsimp only
   refine⟨fun h=>by omega,fun _=> ?_⟩
   rw[Lib.takeD l c2]
   simp only[List.flatMap_cons,List.flatMap_nil,iL (l.getD 0 0) (by omega),iL (l.getD 1 0) (by omega),iL (l.getD 2 0) (by omega),iL (l.getD 3 0) (by omega)]
   rfl
  ·rw[e]at hv
   exact absurd ⟨rfl,rfl⟩ hv
theorem sK(l:List UInt8):(l.flatMap dw).length≤4*l.length:=by
 induction l with
 |nil=>exact Nat.le_refl _
 |cons c l ih=>
  rw[List.flatMap_cons,List.length_append,List.length_cons]
  have:(dw c).length≤4:=by
   unfold dw jW
   split
   ·simp only[List.length_cons,List.length_nil];omega
   ·split
    ·simp only[List.length_cons,List.length_nil];omega
    ·simp only[List.length_cons,List.length_nil];omega
  omega
theorem Az{s:ByteArray}{f pos:Nat}(h:pos<s.size)(hf:s.size≤pos+f)(hg:gq s f pos=true):¬((Utf8.decode s pos).1=0∨((Utf8.decode s pos).1=65533∧(Utf8.decode s pos).2=1)):=by
 intro hb
 rw[nS h hf hb]at hg
 cases hg
theorem qC(s:ByteArray):Lib.strCells s=aX s.data.toList:=by
 simp[Lib.strCells,aX]
theorem qE{r:Int}(h0:0≤r)(h1:r≤127):Lib.runeCells r=[.int .u8 r]:=by
 unfold Lib.runeCells
 rw[Lib.encodeRuneZ_one h0 h1]
 rfl
theorem jS(s:ByteArray)(hg:good s=true)(hz:s.size≤16777216)(w:World):
  Calls Tryz.prog 140 #[.string s] w fun e w'=>e= .returned (.string (ofL (bD s)))∧Below w.heap.size w w':=by
 have hup:Below w.heap.size w (w.alloc (.cells #[.pointer none,.slice none 0 0] 197)):=(Below.refl _ _).alloc (Nat.le_refl _) _
 have HS:=hid (SB.new w)
 have HB:=hid hup
 have HG:=hid hg
 have HZZ:=hid hz
 have WX:s.size+s.size≤9223372036854775807:=by omega
 clear hup hg
 go_enter Tryz.func140,Tryz.ntmps140
 go_upto_region 2 with(fail)
 generalize w.alloc (.cells #[.pointer none,.slice none 0 0] 197)=w0 at HS HB⊢
 generalize hzz:w.heap.size=z at HS HB⊢
 have HZ:=hid hzz;clear hzz
 go_wp2_with fail
 refine(jR z z _ 34 w0 HS.out (by decide) (by have:=SB.size HS.out;omega)).mono ?_
 rintro e w1 ⟨rfl,hs,hb, -⟩
 have HS1:=hid hs
 have HB1:=hid (HB.out.trans hb)
 have uF:=hid (SB.size hs)
 clear hs hb HS HB
 have UW:=hid (World.iter_heap w1 s 0)
 go_wp2_with fail
 go_loopw [5] (fun _ wr=>∃(pos f:Nat),wr.heap[w1.heap.size]? =some (.stringIter s pos)∧SB wr z z (aX (34::(s.data.toList.take pos).flatMap dw))∧Below z w wr∧gq s f pos=true∧s.size≤pos+f∧pos≤s.size) (fun _ wr=>s.size-wr.iterPos w1.heap.size)
 case atStart=>
  refine⟨0,s.size,UW.out, ?_,HB1.out.alloc (by have:=uF.out;omega) _,HG.out,by omega,by omega⟩
  rw[List.take_zero,List.flatMap_nil]
  exact HS1.out.alloc _
 case round=>
  obtain⟨pos,f,hit,hs,hb,hgf,hf,hps⟩:=hrel
  generalize Sm:w1.heap.size=it at*
  have WY:=hid Sm;clear Sm
  have HSR:=hid hs;clear hs
  have HBR:=hid hb;clear hb
  have HGF:=hid hgf;clear hgf
  have HZI:=hid (show z<it from by have:=uF.out;omega)
  by_cases hp:pos<s.size
  ·have hnx:∀ty,(Instr.next (.pointer (some ⟨it,0,none⟩)) true ty).run Tryz.prog wr=_:=fun ty=>Lib.run_next_any_at wr it s pos ty hit hp
   have HWD:=hid (width_pos s pos hp)
   have nT:=hid (Lib.iterAt_heap wr it s pos (pos+(Utf8.decode s pos).2) hit)
   have HB2:=hid (Lib.below_iterAt HBR.out (k:=it) (Nat.le_of_lt HZI.out) s (pos+(Utf8.decode s pos).2))
   have HS2:=hid (Lib.IsBuilderF.iterAt HSR.out hit (pos+(Utf8.decode s pos).2))
   have yu:=hid (show wr.iterPos it=pos from by simp[World.iterPos,hit])
   clear hit
   have hok:=Az hp hf HGF.out
   have hdl:=Lib.decodeL_drop s pos
   have hne:s.data.toList.drop pos≠ []:=by
    intro h0
    have:=congrArg List.length h0
    rw[List.length_drop,Array.length_toList]at this
    have h2:s.data.size=s.size:=rfl
    simp at this
    omega
   have hsq:=Eu _ hne (by rw[hdl];exact fun h=>hok (.inr h))
   have HGN:=hid ((mY hp hf hok).symm.trans HGF.out)
   rw[hdl]at hsq
   have HQ:=hid (show∀k,k=(Utf8.decode s pos).2→(s.data.toList.take (pos+k)).flatMap dw=(s.data.toList.take pos).flatMap dw++((s.data.toList.drop pos).take k).flatMap dw from fun k _=>by
    rw[List.take_add,List.flatMap_append])
   have HLN:=hid (show(aX (34::(s.data.toList.take pos).flatMap dw)).length≤67108865 from by
    rw[jQ,List.length_cons]
    have h1:=sK (s.data.toList.take pos)
    have h2:(s.data.toList.take pos).length≤pos:=by rw[List.length_take];omega
    have:=HZZ.out
    omega)
   generalize hdec:Utf8.decode s pos=d at hsq hok HWD nT HB2 HS2 HGN HQ hnx
   clear hdec hdl hne
   obtain⟨r,k⟩:=d
   dsimp only at hnx HWD nT HB2 HS2 hsq hok HGN
   obtain⟨hk1,hr,hrc,hlo,hhi⟩:=hsq
   have HK1:=hid (show pos+k≤s.size from by
    clear hrc hlo hhi hnx hok HQ
    rw[List.length_drop,Array.length_toList]at hk1
    have h2:s.data.size=s.size:=rfl
    omega)
   have HRB:=hid (show-2147483648≤(r:Int)∧(r:Int)≤2147483647 from by clear hrc hlo hhi hnx hok HQ;omega)
   have HQ2:=hid (HQ.out k rfl)
   generalize(s.data.toList.drop pos).take k=B at hrc hlo hhi HQ2
   have HRC:=hid hrc
   have HHI:=hid hhi
   have HLO:=hid hlo
   clear hk1 hrc hlo hhi HSR HBR HGF HQ hok
   generalize hLE:aX (34::(s.data.toList.take pos).flatMap dw)=L at*
   have HLE:=hid hLE
   clear hLE
   by_cases h34:r=34
   ·have b34:((r:Int)==34)=true:=by rw[beq_iff_eq];omega
    have HC:=hid (show r=34∨r=92 from .inl h34)
    clear h34
    go_wp2_with fail
    generalize wr.iterAt it s (pos+k)=w2 at nT HB2 HS2⊢
    have HL2:=hid (show L.length+1≤140737488355328 from by have:=HLN.out;omega)
    have HZ2:=hid (Nat.le_of_lt (SB.size HS2.out))
    refine(jR z z L 92 w2 HS2.out HL2.out HZ2.out).mono ?_
    rintro e w3 ⟨rfl,hs,hb,hok⟩
    have HS3:=hid hs
    have HB3:=hid (HB2.out.trans hb)
    have HO3:=hid hok
    clear hs hb hok
    go_wp2_with fail
    have HL3:=hid (show(L++[Value.int .u8 92]).length+4≤140737488355328 from by rw[List.length_append];have:=HLN.out;simp only[List.length_cons,List.length_nil];omega)
    have HZ3:=hid (Nat.le_of_lt (SB.size HS3.out))
    refine(nY z z _ (r:Int) HRB.out.1 HRB.out.2 w3 HS3.out HL3.out HZ3.out).mono ?_
    rintro e w4 ⟨⟨u,v,rfl⟩,hs,hb,hok⟩
    have HS9:=hid hs
    have HB9:=hid (HB3.out.trans hb)
    have HOK:=hid (HO3.out.trans hok)
    clear hs hb hok
    have rJ:=hid (Lib.OthersKept.iter HOK.out nT.out (by have:=HZI.out;omega))
    go_wp2_with fail
    go_roundw
    case rel=>
     refine⟨pos+k,f-1,rJ.out, ?_,HB9.out,HGN.out,by have:=HWD.out;omega,HK1.out⟩
     rw[HQ2.out]
     have hcc:=HC.out
     obtain⟨c,hc,hcn⟩:=HLO.out (by omega)
     have h:=HS9.out
     rw[qE (by omega) (by omega),←HLE.out]at h
     rw[hc,List.flatMap_cons,List.flatMap_nil,List.append_nil,show dw c=[92,c]from by
      unfold dw
      rw[show esc c=true from by unfold esc;rw[hcn];simp;omega]
      rfl,←List.cons_append,gy]
     rw[←hcn,List.append_assoc]at h
     exact h
    case measure=>have:=HWD.out;rw[yu.out];simp only[World.iterPos,rJ.out];omega
   ·have b34:((r:Int)==34)=false:=by rw[beq_eq_false_iff_ne];omega
    have H34:=hid h34
    clear h34
    by_cases h92:r=92
    ·have b92:((r:Int)==92)=true:=by rw[beq_iff_eq];omega
     have HC:=hid (show r=34∨r=92 from .inr h92)
     clear h92
     go_wp2_with fail
     generalize wr.iterAt it s (pos+k)=w2 at nT HB2 HS2⊢
     have HL2:=hid (show L.length+1≤140737488355328 from by have:=HLN.out;omega)
     have HZ2:=hid (Nat.le_of_lt (SB.size HS2.out))
     refine(jR z z L 92 w2 HS2.out HL2.out HZ2.out).mono ?_
     rintro e w3 ⟨rfl,hs,hb,hok⟩
     have HS3:=hid hs
     have HB3:=hid (HB2.out.trans hb)
     have HO3:=hid hok
     clear hs hb hok
     go_wp2_with fail
     have HL3:=hid (show(L++[Value.int .u8 92]).length+4≤140737488355328 from by rw[List.length_append];have:=HLN.out;simp only[List.length_cons,List.length_nil];omega)
     have HZ3:=hid (Nat.le_of_lt (SB.size HS3.out))
     refine(nY z z _ (r:Int) HRB.out.1 HRB.out.2 w3 HS3.out HL3.out HZ3.out).mono ?_
     rintro e w4 ⟨⟨u,v,rfl⟩,hs,hb,hok⟩
     have HS9:=hid hs
     have HB9:=hid (HB3.out.trans hb)
     have HOK:=hid (HO3.out.trans hok)
     clear hs hb hok
     have rJ:=hid (Lib.OthersKept.iter HOK.out nT.out (by have:=HZI.out;omega))
     go_wp2_with fail
     go_roundw
     case rel=>
      refine⟨pos+k,f-1,rJ.out, ?_,HB9.out,HGN.out,by have:=HWD.out;omega,HK1.out⟩
      rw[HQ2.out]
      have hcc:=HC.out
      obtain⟨c,hc,hcn⟩:=HLO.out (by omega)
      have h:=HS9.out
      rw[qE (by omega) (by omega),←HLE.out]at h
      rw[hc,List.flatMap_cons,List.flatMap_nil,List.append_nil,show dw c=[92,c]from by
       unfold dw
       rw[show esc c=true from by unfold esc;rw[hcn];simp;omega]
       rfl,←List.cons_append,gy]
      rw[←hcn,List.append_assoc]at h
      exact h
     case measure=>have:=HWD.out;rw[yu.out];simp only[World.iterPos,rJ.out];omega
    ·have b92:((r:Int)==92)=false:=by rw[beq_eq_false_iff_ne];omega
     have H92:=hid h92
     clear h92
     by_cases h32:r<32
     ·have UY:(r:Int)<32:=by omega
      have HC:=hid (show r<32∨r=127 from .inl h32)
      clear h32
      go_wp2_with fail
      generalize wr.iterAt it s (pos+k)=w2 at nT HB2 HS2⊢
      try rw[show(r:Int)%256=(r:Int)from by have:=HC.out;omega]
      have HR8:=hid (show Bys (w2.alloc (.cells #[.int .u8 (r:Int)] 5)) (w2.alloc (.cells #[.int .u8 (r:Int)] 5)).heap.size (.slice (some ⟨w2.heap.size,0,none⟩) 1 1) [UInt8.ofNat r]from by
       have h:=dI w2 5 [.int .u8 (r:Int)] 1 1 rfl
       refine⟨_,_,rfl,Nat.le_refl _,by decide, ?_⟩
       rw[World.size_alloc]
       rw[show aX [UInt8.ofNat r]=[.int .u8 (r:Int)]from by
        show [Value.int .u8 ((UInt8.ofNat r).toNat:Int)]=_
        rw[iK r (by have:=HC.out;omega)]]
       exact h)
      have qR:Below w2.heap.size w2 (w2.alloc (.cells #[.int .u8 (r:Int)] 5)):=(Below.refl _ _).alloc (Nat.le_refl _) _
      have HSA:=hid (SB.below HS2.out qR)
      have HUP:=hid qR
      clear qR
      refine(sJ _ [UInt8.ofNat r] _ HR8.out (show 1≤16777216 by decide)).mono ?_
      rintro e w3 ⟨rfl,hb⟩
      have HS3:=hid (SB.below HSA.out hb)
      have HU3:=hid (HUP.out.trans (hb.mono HUP.out.size))
      clear hb HR8
      have HB3:=hid (HB2.out.trans (HU3.out.mono (Nat.le_of_lt (SB.size HS2.out))))
      have HO3:=hid (show Lib.OthersKept 5 (some z) w2 w3 from fun k o hk _ _=>(HU3.out.block k (dP hk)).trans hk)
      generalize hhx:ofL ([UInt8.ofNat r].flatMap jW)=hx
      have HHX:=hid (show hx.data.toList=jW (UInt8.ofNat r)from by rw[←hhx];simp[ofL])
      have hxs:hx.size=2:=by rw[←hhx];rfl
      clear hhx
      go_wp2_with fail
      generalize Ew:(ByteArray.mk #[92,120])++hx=cat
      have HCL:=hid (show cat.data.toList=92::120::jW (UInt8.ofNat r)from by rw[←Ew,ByteArray.data_append,Array.toList_append,HHX.out];rfl)
      have hcs:cat.size=4:=by rw[←Ew,ByteArray.size_append,hxs];rfl
      have HCS:=hid hcs
      clear Ew hcs hxs
      have HL3:=hid (show L.length+cat.size≤140737488355328 from by rw[HCS.out];have:=HLN.out;omega)
      have HZ3:=hid (Nat.le_of_lt (SB.size HS3.out))
      refine(oV z z L cat w3 HS3.out HL3.out HZ3.out).mono ?_
      rintro e w4 ⟨rfl,hs,hb,hok⟩
      have HS9:=hid hs
      have HB9:=hid (HB3.out.trans hb)
      have HOK:=hid (HO3.out.trans hok)
      clear hs hb hok
      have rJ:=hid (Lib.OthersKept.iter HOK.out nT.out (by have:=HZI.out;omega))
      go_wp2_with fail
      go_roundw
      case rel=>
       refine⟨pos+k,f-1,rJ.out, ?_,HB9.out,HGN.out,by have:=HWD.out;omega,HK1.out⟩
       rw[HQ2.out]
       have hcc:=HC.out
       obtain⟨c,hc,hcn⟩:=HLO.out (by omega)
       have h:=HS9.out
       have hcr:UInt8.ofNat r=c:=by rw[←hcn];simp
       rw[qC,HCL.out,hcr,←HLE.out,←gy]at h
       have h34:=H34.out
       have h92:=H92.out
       rw[hc,List.flatMap_cons,List.flatMap_nil,List.append_nil,show dw c=92::120::jW c from by
        unfold dw
        rw[show esc c=false from by unfold esc;rw[hcn,decide_eq_false (by omega),decide_eq_false (by omega)];rfl,show ctl c=true from by unfold ctl;rw[hcn];simp;omega]
        rfl,←List.cons_append]
       exact h
      case measure=>have:=HWD.out;rw[yu.out];simp only[World.iterPos,rJ.out];omega
     ·have UY:¬(r:Int)<32:=by omega
      have H32:=hid h32
      clear h32
      by_cases h127:r=127
      ·have UZ:((r:Int)==127)=true:=by rw[beq_iff_eq];omega
       have HC:=hid (show r<32∨r=127 from .inr h127)
       clear h127
       go_wp2_with fail
       generalize wr.iterAt it s (pos+k)=w2 at nT HB2 HS2⊢
       try rw[show(r:Int)%256=(r:Int)from by have:=HC.out;omega]
       have HR8:=hid (show Bys (w2.alloc (.cells #[.int .u8 (r:Int)] 5)) (w2.alloc (.cells #[.int .u8 (r:Int)] 5)).heap.size (.slice (some ⟨w2.heap.size,0,none⟩) 1 1) [UInt8.ofNat r]from by
        have h:=dI w2 5 [.int .u8 (r:Int)] 1 1 rfl
        refine⟨_,_,rfl,Nat.le_refl _,by decide, ?_⟩
        rw[World.size_alloc]
        rw[show aX [UInt8.ofNat r]=[.int .u8 (r:Int)]from by
         show [Value.int .u8 ((UInt8.ofNat r).toNat:Int)]=_
         rw[iK r (by have:=HC.out;omega)]]
        exact h)
       have qR:Below w2.heap.size w2 (w2.alloc (.cells #[.int .u8 (r:Int)] 5)):=(Below.refl _ _).alloc (Nat.le_refl _) _
       have HSA:=hid (SB.below HS2.out qR)
       have HUP:=hid qR
       clear qR
       refine(sJ _ [UInt8.ofNat r] _ HR8.out (show 1≤16777216 by decide)).mono ?_
       rintro e w3 ⟨rfl,hb⟩
       have HS3:=hid (SB.below HSA.out hb)
       have HU3:=hid (HUP.out.trans (hb.mono HUP.out.size))
       clear hb HR8
       have HB3:=hid (HB2.out.trans (HU3.out.mono (Nat.le_of_lt (SB.size HS2.out))))
       have HO3:=hid (show Lib.OthersKept 5 (some z) w2 w3 from fun k o hk _ _=>(HU3.out.block k (dP hk)).trans hk)
       generalize hhx:ofL ([UInt8.ofNat r].flatMap jW)=hx
       have HHX:=hid (show hx.data.toList=jW (UInt8.ofNat r)from by rw[←hhx];simp[ofL])
       have hxs:hx.size=2:=by rw[←hhx];rfl
       clear hhx
       go_wp2_with fail
       generalize Ew:(ByteArray.mk #[92,120])++hx=cat
       have HCL:=hid (show cat.data.toList=92::120::jW (UInt8.ofNat r)from by rw[←Ew,ByteArray.data_append,Array.toList_append,HHX.out];rfl)
       have hcs:cat.size=4:=by rw[←Ew,ByteArray.size_append,hxs];rfl
       have HCS:=hid hcs
       clear Ew hcs hxs
       have HL3:=hid (show L.length+cat.size≤140737488355328 from by rw[HCS.out];have:=HLN.out;omega)
       have HZ3:=hid (Nat.le_of_lt (SB.size HS3.out))
       refine(oV z z L cat w3 HS3.out HL3.out HZ3.out).mono ?_
       rintro e w4 ⟨rfl,hs,hb,hok⟩
       have HS9:=hid hs
       have HB9:=hid (HB3.out.trans hb)
       have HOK:=hid (HO3.out.trans hok)
       clear hs hb hok
       have rJ:=hid (Lib.OthersKept.iter HOK.out nT.out (by have:=HZI.out;omega))
       go_wp2_with fail
       go_roundw
       case rel=>
        refine⟨pos+k,f-1,rJ.out, ?_,HB9.out,HGN.out,by have:=HWD.out;omega,HK1.out⟩
        rw[HQ2.out]
        have hcc:=HC.out
        obtain⟨c,hc,hcn⟩:=HLO.out (by omega)
        have h:=HS9.out
        have hcr:UInt8.ofNat r=c:=by rw[←hcn];simp
        rw[qC,HCL.out,hcr,←HLE.out,←gy]at h
        have h34:=H34.out
        have h92:=H92.out
        rw[hc,List.flatMap_cons,List.flatMap_nil,List.append_nil,show dw c=92::120::jW c from by
         unfold dw
         rw[show esc c=false from by unfold esc;rw[hcn,decide_eq_false (by omega),decide_eq_false (by omega)];rfl,show ctl c=true from by unfold ctl;rw[hcn];simp;omega]
         rfl,←List.cons_append]
        exact h
       case measure=>have:=HWD.out;rw[yu.out];simp only[World.iterPos,rJ.out];omega
      ·have UZ:((r:Int)==127)=false:=by rw[beq_eq_false_iff_ne];omega
       have U0:=hid h127
       clear h127
       go_wp2_with fail
       generalize wr.iterAt it s (pos+k)=w2 at nT HB2 HS2⊢
       have HL3:=hid (show L.length+4≤140737488355328 from by have:=HLN.out;omega)
       have HZ3:=hid (Nat.le_of_lt (SB.size HS2.out))
       refine(nY z z L (r:Int) HRB.out.1 HRB.out.2 w2 HS2.out HL3.out HZ3.out).mono ?_
       rintro e w4 ⟨⟨u,v,rfl⟩,hs,hb,hok⟩
       have HS9:=hid hs
       have HB9:=hid (HB2.out.trans hb)
       have HOK:=hid hok
       clear hs hb hok
       have rJ:=hid (Lib.OthersKept.iter HOK.out nT.out (by have:=HZI.out;omega))
       go_wp2_with fail
       go_roundw
       case rel=>
        refine⟨pos+k,f-1,rJ.out, ?_,HB9.out,HGN.out,by have:=HWD.out;omega,HK1.out⟩
        rw[HQ2.out]
        have h:=HS9.out
        rw[←HRC.out,←HLE.out,←gy]at h
        have e:B.flatMap dw=B:=by
         have h34:=H34.out
         have h92:=H92.out
         have h32:=H32.out
         have h127:=U0.out
         by_cases h8:r<128
         ·obtain⟨c,hc,hcn⟩:=HLO.out h8
          rw[hc,List.flatMap_cons,List.flatMap_nil,List.append_nil]
          have e1:esc c=false:=by unfold esc;rw[hcn,decide_eq_false (by omega),decide_eq_false (by omega)];rfl
          have e2:ctl c=false:=by unfold ctl;rw[hcn,decide_eq_false (by omega),decide_eq_false (by omega)];rfl
          unfold dw
          rw[e1,e2]
          rfl
         ·exact HHI.out (by omega)
        rw[e,←List.cons_append]
        exact h
       case measure=>have:=HWD.out;rw[yu.out];simp only[World.iterPos,rJ.out];omega
  ·have hnx:∀ty,(Instr.next (.pointer (some ⟨it,0,none⟩)) true ty).run Tryz.prog wr=_:=fun ty=>Lib.run_next_end_at wr it s pos ty hit hp
   have hpe:pos=s.size:=by omega
   subst hpe
   have HSE:=hid (show SB wr z z (aX (34::s.data.toList.flatMap dw))from by
    have h:=HSR.out
    rw[List.take_of_length_le (show s.data.toList.length≤s.size from Nat.le_of_eq (Array.length_toList ..))]at h
    exact h)
   clear HSR hit
   have HLN:=hid (show(aX (34::s.data.toList.flatMap dw)).length≤67108865 from by
    rw[jQ,List.length_cons]
    have h1:=sK s.data.toList
    have h2:s.data.toList.length=s.size:=Array.length_toList ..
    have:=HZZ.out
    omega)
   go_wp2_with fail
   refine(jR z z _ 34 wr HSE.out (by have:=HLN.out;omega) (by have:=SB.size HSE.out;omega)).mono ?_
   rintro e w3 ⟨rfl,hs,hb, -⟩
   have HS3:=hid (show SB w3 z z (Lib.byteCells (bD s))from by
    have e:Lib.byteCells (bD s)=aX (34::s.data.toList.flatMap dw)++[.int .u8 34]:=by
     show aX (34::(s.data.toList.flatMap dw++[34]))=_
     rw[←List.cons_append,gy]
     rfl
    rw[e]
    exact hs)
   have HB3:=hid (HBR.out.trans hb)
   clear hs hb
   go_wp2_with fail
   refine(Tryz.Builder_String_any_k z z (bD s) w3 HS3.out (by have:=SB.size HS3.out;omega)).mono ?_
   rintro e w4 ⟨rfl, -,hb, -⟩
   have HB4:=hid (HB3.out.trans hb)
   clear hb
   go_wp2_with fail
   go_ret
   exact⟨rfl,by have hz:=HZ.out;rw[hz];exact HB4.out⟩
open Go.Lib (decDigits)
theorem eH{n:Nat}(h:n<18446744073709551616):IntKind.u64.wrap (n:Int)=(n:Int):=by
 rw[IntKind.wrap_u64]
 omega
theorem jD(n:Nat)(h:n<18446744073709551616):(ofL (decDigits n)).size≤20:=by
 rw[dU,Lib.decDigits_length]
 by_cases h0:n=0
 ·subst h0
  have:=Lib.decDigits_length 0
  have h1:(Lib.decDigits 0).length=1:=by simp[Lib.decDigits]
  omega
 ·have:=Lib.numDigits_eq n (by omega) h
  split at this<;>omega
theorem sW(q:Qd)(hq:q.kind<18446744073709551616∧q.vers<18446744073709551616∧q.path<18446744073709551616)(w:World)(ht:TP w)(h8:8≤w.heap.size):
  Calls Tryz.prog 176 #[qdV q] w fun e w'=>e= .returned (.string (ofL (iG q)))∧Below w.heap.size w w':=by
 have hup:Below w.heap.size w (w.alloc (.cells #[.int .u8 (q.kind:Int),.int .u32 (q.vers:Int),.int .u64 (q.path:Int)] 37)):=(Below.refl _ _).alloc (Nat.le_refl _) _
 have HN:=hid (Blk.new w 37 #[.int .u8 (q.kind:Int),.int .u32 (q.vers:Int),.int .u64 (q.path:Int)])
 have HT0:=hid (ht.low hup h8)
 have HB:=hid hup
 have HQ:=hid hq
 have h1:=jD q.kind hq.1
 have h2:=jD q.vers hq.2.1
 have h3:=jD q.path hq.2.2
 have H8:=hid h8
 clear hup ht hq h8
 unfold qdV
 go_enter Tryz.func176,Tryz.ntmps176
 go_upto_region 1 with(fail)
 generalize w.alloc (.cells #[.int .u8 (q.kind:Int),.int .u32 (q.vers:Int),.int .u64 (q.path:Int)] 37)=w0 at HN HB HT0⊢
 generalize hb:w.heap.size=b at HN H8 HB⊢
 have HBB:=hid hb;clear hb
 have HL:=hid (Blk.lt HN.out)
 have HTP:=hid (show∀wx,Below w0.heap.size w0 wx→TP wx from fun wx h=>HT0.out.low h (by have:=HL.out;have:=H8.out;omega))
 have k0:w0.cell? ⟨b,0,none⟩=some (.int .u8 (q.kind:Int)):=HN.out.cell 0
 have k1:w0.cell? ⟨b,1,none⟩=some (.int .u32 (q.vers:Int)):=HN.out.cell 1
 have k2:w0.cell? ⟨b,2,none⟩=some (.int .u64 (q.path:Int)):=HN.out.cell 2
 have qm:=hid (show ofL (decDigits q.kind)++⟨#[46]⟩++ofL (decDigits q.vers)++⟨#[46]⟩++ofL (decDigits q.path)=ofL (iG q)from by
  apply ByteArray.ext
  rw[←Array.toList_inj]
  simp[ofL,iG,ByteArray.data_append])
 generalize hx1:ofL (decDigits q.kind)=X1 at h1 qm
 have HX1:=hid hx1;clear hx1
 generalize hx2:ofL (decDigits q.vers)=X2 at h2 qm
 have HX2:=hid hx2;clear hx2
 generalize hx3:ofL (decDigits q.path)=X3 at h3 qm
 have HX3:=hid hx3;clear hx3
 have hw1:IntKind.u64.wrap (q.kind:Int)=(q.kind:Int):=eH HQ.out.1
 have hw2:IntKind.u64.wrap (q.vers:Int)=(q.vers:Int):=eH HQ.out.2.1
 refine wp_region_held_drew (S:=fun wx=>Below w0.heap.size w0 wx) (by kernel_rfl) (aC w0) (fun hHeld=> ?_)
 generalize w0.drew=wd at hHeld⊢
 refine tk 3 0 (.pointer (some ⟨b,0,none⟩)) ?_
 refine tk2 4 1 (.int .u8 (q.kind:Int)) rfl (fun wq hSw=>by have k0:=(hSw.cell (p:=⟨b,0,none⟩) HL.out).trans k0;go_simp) ?_
 refine tk 5 2 (.int .u64 (q.kind:Int)) ?_
 refine tk 8 5 (.pointer (some ⟨b,1,none⟩)) ?_
 refine tk2 9 6 (.int .u32 (q.vers:Int)) rfl (fun wq hSw=>by have k1:=(hSw.cell (p:=⟨b,1,none⟩) HL.out).trans k1;go_simp) ?_
 refine tk 10 7 (.int .u64 (q.vers:Int)) ?_
 refine tk 14 11 (.pointer (some ⟨b,2,none⟩)) ?_
 refine tk2 15 12 (.int .u64 (q.path:Int)) rfl (fun wq hSw=>by have k2:=(hSw.cell (p:=⟨b,2,none⟩) HL.out).trans k2;go_simp) ?_
 refine wpAnyH_ready (rs:=[3]) (by kernel_rfl) (by simp) ?_
 refine AllReadyH.cons rfl (fun K hK=> ?_) AllReadyH.nil
 rw[if_pos (by rfl)]
 go_simp
 (with_reducible refine(dN q.kind HQ.out.1 wd (HTP.out _ hHeld)).mono ?_)
 rintro e wy ⟨rfl,hb⟩
 rw[HX1.out]
 dsimp only
 have cO:=hHeld.trans (hb.mono hHeld.size)
 clear hb hHeld
 refine hK.out _ _ cO (fun hHeld=> ?_)
 clear hK cO
 refine tk2 7 4 (.string (X1++⟨#[46]⟩)) rfl (fun wq hSw=>by go_simp<;>(first|omega|(simp only[ByteArray.size_append];omega)|skip)) ?_
 refine wpAnyH_ready (rs:=[8]) (by kernel_rfl) (by simp) ?_
 refine AllReadyH.cons rfl (fun K hK=> ?_) AllReadyH.nil
 rw[if_pos (by rfl)]
 go_simp
 (with_reducible refine(dN q.vers HQ.out.2.1 wy (HTP.out _ hHeld)).mono ?_)
 rintro e wy ⟨rfl,hb⟩
 rw[HX2.out]
 dsimp only
 have cO:=hHeld.trans (hb.mono hHeld.size)
 clear hb hHeld
 refine hK.out _ _ cO (fun hHeld=> ?_)
 clear hK cO
 refine tk2 12 9 (.string ((X1++⟨#[46]⟩)++X2)) rfl (fun wq hSw=>by go_simp<;>(first|omega|(simp only[ByteArray.size_append];omega)|skip)) ?_
 refine tk2 13 10 (.string (((X1++⟨#[46]⟩)++X2)++⟨#[46]⟩)) rfl (fun wq hSw=>by go_simp<;>(first|omega|(simp only[ByteArray.size_append];omega)|skip)) ?_
 refine wpAnyH_ready (rs:=[13]) (by kernel_rfl) (by simp) ?_
 refine AllReadyH.cons rfl (fun K hK=> ?_) AllReadyH.nil
 rw[if_pos (by rfl)]
 go_simp
 (with_reducible refine(dN q.path HQ.out.2.2 wy (HTP.out _ hHeld)).mono ?_)
 rintro e wy ⟨rfl,hb⟩
 rw[HX3.out]
 dsimp only
 have cO:=hHeld.trans (hb.mono hHeld.size)
 clear hb hHeld
 refine hK.out _ _ cO (fun hHeld=> ?_)
 clear hK cO
 refine tk2 17 14 (.string ((((X1++⟨#[46]⟩)++X2)++⟨#[46]⟩)++X3)) rfl (fun wq hSw=>by go_simp<;>(first|omega|(simp only[ByteArray.size_append];omega)|skip)) ?_
 refine tk 2 15 (.string ((((X1++⟨#[46]⟩)++X2)++⟨#[46]⟩)++X3)) ?_
 refine wpAnyH_done (by kernel_rfl) ?_ _
 have HBF:=hid (HB.out.trans (hHeld.mono (by have:=HL.out;omega)))
 clear hHeld
 go_wp2_with fail
 go_ret
 rw[qm.out]
 exact⟨rfl,by have hb:=HBB.out;rw[hb];exact HBF.out⟩
theorem join_eq(ws:List (List UInt8)):Lib.join ws [32]=iJ ws:=by
 cases ws with
 |nil=>rfl
 |cons x r=>
  rw[Lib.join_cons]
  show x++(r.map ([32]++ ·)).flatten=x++r.flatMap fun y=>32::y
  rw[List.flatMap_def]
  rfl
theorem nN(ws:List (List UInt8))(M:Nat)(h:∀x∈ws,x.length≤M):(iJ ws).length≤ws.length*(M+1):=by
 cases ws with
 |nil=>exact Nat.zero_le _
 |cons x r=>
  have h1:=h x (List.mem_cons_self ..)
  have h2:∀r:List (List UInt8),(∀y∈r,y.length≤M)→(r.flatMap fun y=>32::y).length≤r.length*(M+1):=by
   intro r
   induction r with
   |nil=>intro _;exact Nat.zero_le _
   |cons y r ih=>
    intro hy
    have:=hy y (List.mem_cons_self ..)
    have:=ih (fun z hz=>hy z (List.mem_cons_of_mem _ hz))
    rw[List.flatMap_cons,List.length_append,List.length_cons,List.length_cons,Nat.succ_mul]
    omega
  have h3:=h2 r (fun y hy=>h y (List.mem_cons_of_mem _ hy))
  show(x++r.flatMap fun y=>32::y).length≤_
  rw[List.length_append,List.length_cons,Nat.succ_mul]
  omega
theorem kT(s:ByteArray):(bD s).length≤4*s.size+2:=by
 show(34::(s.data.toList.flatMap dw++[34])).length≤_
 have h1:=sK s.data.toList
 have h2:s.data.toList.length=s.size:=Array.length_toList ..
 rw[List.length_cons,List.length_append,List.length_cons,List.length_nil]
 omega
theorem pI(q:Qd)(h:q.kind<18446744073709551616∧q.vers<18446744073709551616∧q.path<18446744073709551616):(iG q).length≤62:=by
 have h1:=jD _ h.1
 have h2:=jD _ h.2.1
 have h3:=jD _ h.2.2
 rw[dU]at h1 h2 h3
 unfold iG
 simp only[List.length_append,List.length_cons]
 omega
theorem qI(v:Value)(ws:List ByteArray)(base:Nat)(w:World)(ho:w.ownsRow base 9 1 v ws.length (h_ ws))(h16:ws.length≤16)(hl:∀x∈ws,x.size≤67108866):
  Calls Tryz.prog 257 #[v,.string ⟨#[32]⟩] w fun e w'=>e= .returned (.string (ofL (iJ (ws.map (·.data.toList)))))∧Below w.heap.size w w':=by
 rcases ho.2 with⟨rfl,h0⟩|⟨g,cap,cur,rfl,hb,hg,hc,hm,hs,ht⟩
 ·have:ws=[]:=List.eq_nil_of_length_eq_zero h0
  subst this
  refine(Tryz.strings_Join_none none 0 ⟨#[32]⟩ w).mono ?_
  rintro e w' ⟨rfl,rfl⟩
  exact⟨rfl,Below.refl _ _⟩
 ·have hle:(iJ (ws.map (·.data.toList))).length≤140737488355328:=by
   have h:=nN (ws.map (·.data.toList)) 67108866 (by
    intro x hx
    obtain⟨y,hy,rfl⟩:=List.mem_map.1 hx
    have h1:=hl y hy
    have h2:y.data.toList.length=y.size:=Array.length_toList ..
    omega)
   rw[List.length_map]at h
   have:ws.length*(67108866+1)≤16*(67108866+1):=Nat.mul_le_mul_right _ h16
   omega
  refine(Tryz.strings_Join g 0 cap ws ⟨#[32]⟩ w (fun j x hx=> ?_) (dP hg) (by omega) hc (by rw[show(⟨#[32]⟩:ByteArray).data.toList=[32]from rfl,join_eq];exact hle)).mono ?_
  ·have h:=ho.cellAt j (by have:=(List.getElem?_eq_some_iff.1 hx).1;omega)
   rw[Nat.zero_add]
   rw[h]
   rw[List.getElem?_map,hx]
   rfl
  ·rintro e w' ⟨rfl,hb⟩
   rw[show(⟨#[32]⟩:ByteArray).data.toList=[32]from rfl,join_eq]
   exact⟨rfl,hb⟩
abbrev abZ(s:ByteArray):Prop:=∀w:World,Calls Tryz.prog 140 #[.string s] w fun e w'=>e= .returned (.string (ofL (bD s)))∧Below w.heap.size w w'
theorem abV(v:Value)(l:List ByteArray)(w:World)(hl:iW w w.heap.size v l)(h16:l.length≤16)(hok:∀x∈l,x.size≤16777216∧abZ x):
  Calls Tryz.prog 217 #[v,.func (.func 140) #[] #[]] w fun e w'=>e= .returned (.string (ofL (91::(iJ (l.map bD)++[93]))))∧Below w.heap.size w w':=by
 have HL:=hid hl
 have HOK:=hid hok
 have HWL:=hid (show∀x∈l,(ofL (bD x)).size≤67108866 from fun x hx=>by
  rw[dU]
  have:=kT x;have:=(hok x hx).1;omega)
 obtain⟨A,c,rfl,hc,hm, -⟩:=hl
 clear hok
 go_enter Tryz.func217,Tryz.ntmps217
 go_upto_region 3 with(fail)
 go_loopw [5,7,10] (fun v _ i wr=>∃k:Nat,k≤l.length∧i= .int .i64 k∧wr.ownsRow w.heap.size 9 1 v ((l.take k).map (fun s=>ofL (bD s))).length (h_ ((l.take k).map (fun s=>ofL (bD s))))∧Below w.heap.size w wr) (fun _ _ i _=>l.length-(intOf i).toNat)
 case atStart=>exact⟨0,by omega,rfl,dS _ _ _ _,Below.refl _ _⟩
 case round=>
  obtain⟨k,hk,rfl,hv,hb⟩:=hrel
  have HV:=hid hv;clear hv
  have HBR:=hid hb;clear hb
  by_cases hlt:k<l.length
  ·obtain⟨x,hx⟩:∃x,l[k]? =some x:=⟨l[k],List.getElem?_eq_getElem _⟩
   obtain⟨ad,rfl,hab,kx⟩:=(HL.out.below HBR.out).at_ hx
   have HNX:=hid (show(l.take (k+1)).map (fun s=>ofL (bD s))=(l.take k).map (fun s=>ofL (bD s))++[ofL (bD x)]from by
    rw[List.take_add_one,hx,Option.toList_some,List.map_append]
    rfl)
   have HKL:=hid (show((l.take k).map (fun s=>ofL (bD s))).length≤16 from by rw[List.length_map,List.length_take];omega)
   have HXO:=hid (HOK.out x (List.mem_of_getElem? hx))
   generalize(l.take k).map (fun s=>ofL (bD s))=M at*
   have hv:=HV.out
   obtain⟨A0,cap,rfl,hc0,hm0⟩:=aJ hv
   clear hv hx hab
   go_wp2_with fail
   refine(HXO.out.2 wr).mono ?_
   rintro e w2 ⟨rfl,hb⟩
   have HB2:=hid (HBR.out.trans (hb.mono HBR.out.size))
   have HV2:=hid (aI HV.out hb)
   clear hb kx
   generalize ofL (bD x)=X at*
   have E8:Below w2.heap.size w2 (w2.alloc (.cells #[.string X] 9)):=(Below.refl _ _).alloc (Nat.le_refl _) _
   have HB3:=hid (HB2.out.trans (E8.mono HB2.out.size))
   have HV3:=hid (aI HV2.out E8)
   have w_:=hid (show Reads (w2.alloc (.cells #[.string X] 9)) (w2.heap.size+1) 1 (some ⟨w2.heap.size,0,none⟩) ([X]:List ByteArray).length (h_ [X])from dI w2 9 [.string X] 1 1 rfl)
   have HLN:=hid (show M.length+([X]:List ByteArray).length≤8796093022207 from by have:=HKL.out;simp only[List.length_cons,List.length_nil];omega)
   clear E8
   go_wp2_with(at_builtin;refine oQ (.tmp 14) (.tmp 18) rfl rfl w.heap.size _ _ rfl HV3.out (w2.heap.size+1) _ 1 [X] rfl w_.out HLN.out HB3.out.size ?_;intro v4 w4 hown hgr hor;have HV4:=hid hown;have HB4:=hid (HB3.out.grown hgr HB3.out.size (fun g hg=>dH HV3.out g hg));clear hown hgr hor)
   go_roundw
   case rel=>
    refine⟨k+1,by omega,by go_num, ?_,HB4.out⟩
    rw[HNX.out]
    exact HV4.out
   case measure=>simp[intOf];omega
  ·have hkl:k=l.length:=by omega
   subst hkl
   rw[List.take_length]at HV
   have HV0:=hid (show wr.ownsRow w.heap.size 9 1 _ l.length (h_ (l.map (fun s=>ofL (bD s))))from by have h:=HV.out;rw[List.length_map]at h;exact h)
   clear HV
   have HMM:=hid (show ofL (91::(iJ (l.map bD)++[93]))=⟨#[91]⟩++ofL (iJ ((l.map (fun s=>ofL (bD s))).map (·.data.toList)))++⟨#[93]⟩from by
    rw[List.map_map,show((fun x:ByteArray=>x.data.toList)∘(fun s=>ofL (bD s)))=bD from by funext y;simp[ofL]]
    apply ByteArray.ext
    rw[←Array.toList_inj]
    simp[ofL,ByteArray.data_append])
   have HJS:=hid (show((l.map (fun s=>ofL (bD s))).length≤16)from by rw[List.length_map];exact h16)
   have HJL:=hid (show∀y∈l.map (fun s=>ofL (bD s)),y.size≤67108866 from fun y hy=>by
    obtain⟨x,hx,rfl⟩:=List.mem_map.1 hy
    exact HWL.out x hx)
   have HJC:=hid (qI _ _ _ wr (show wr.ownsRow w.heap.size 9 1 _ (l.map (fun s=>ofL (bD s))).length (h_ (l.map (fun s=>ofL (bD s))))from by rw[List.length_map];exact HV0.out) HJS.out HJL.out)
   have hjs:(ofL (iJ ((l.map (fun s=>ofL (bD s))).map (·.data.toList)))).size≤1073741872:=by
    rw[dU]
    have h:=nN ((l.map (fun s=>ofL (bD s))).map (·.data.toList)) 67108866 (by
     intro x hx
     obtain⟨y,hy,rfl⟩:=List.mem_map.1 hx
     have h1:=HJL.out y hy
     have h2:y.data.toList.length=y.size:=Array.length_toList ..
     omega)
    rw[List.length_map]at h
    have h3:(l.map (fun s=>ofL (bD s))).length*(67108866+1)≤16*(67108866+1):=Nat.mul_le_mul_right _ HJS.out
    omega
   generalize ofL (iJ ((l.map (fun s=>ofL (bD s))).map (·.data.toList)))=J at*
   obtain⟨K1,hK1⟩:∃K1,K1=⟨#[91]⟩++J:=⟨_,rfl⟩
   obtain⟨K2,hK2⟩:∃K2,K2=K1++⟨#[93]⟩:=⟨_,rfl⟩
   have ha1:∀w,(Op.stringOp .add ⟨#[91]⟩ J).run Tryz.prog w= .ok (.string K1) w:=fun w=>by
    rw[hK1]
    exact run_string_add_sum w _ _ (by show 1+J.size≤_;omega)
   have ha2:∀w,(Op.stringOp .add K1 ⟨#[93]⟩).run Tryz.prog w= .ok (.string K2) w:=fun w=>by
    rw[hK2]
    exact run_string_add_sum w _ _ (by rw[hK1,ByteArray.size_append];show 1+J.size+1≤_;omega)
   have HKK:=hid (show ofL (91::(iJ (l.map bD)++[93]))=K2 from by rw[HMM.out,hK2,hK1])
   clear hjs hK1 hK2 HMM
   have hv:=HV0.out
   obtain⟨A0,cap,rfl,hc0,hm0⟩:=aJ hv
   clear hv
   go_wp2_with fail
   refine HJC.out.mono ?_
   rintro e w3 ⟨rfl,hb⟩
   have HB3:=hid (HBR.out.trans (hb.mono HBR.out.size))
   clear hb
   go_wp2_with fail
   go_ret
   rw[HKK.out]
   exact⟨rfl,HB3.out⟩
theorem Dl(v:Value)(l:List Qd)(w:World)(hl:lX w w.heap.size v l)(h16:l.length≤16)(hok:∀x∈l,x.kind<18446744073709551616∧x.vers<18446744073709551616∧x.path<18446744073709551616)(ht:TP w)(h8:8≤w.heap.size):
  Calls Tryz.prog 230 #[v,.func (.func 176) #[] #[]] w fun e w'=>e= .returned (.string (ofL (91::(iJ (l.map iG)++[93]))))∧Below w.heap.size w w':=by
 have HL:=hid hl
 have HOK:=hid hok
 have HWL:=hid (show∀x∈l,(ofL (iG x)).size≤67108866 from fun x hx=>by
  rw[dU]
  have:=pI x (hok x hx);omega)
 have HT:=hid (And.intro ht h8)
 clear ht h8
 obtain⟨A,c,rfl,hc,hm, -⟩:=hl
 clear hok
 go_enter Tryz.func230,Tryz.ntmps230
 go_upto_region 3 with(fail)
 go_loopw [5,7,10] (fun v _ i wr=>∃k:Nat,k≤l.length∧i= .int .i64 k∧wr.ownsRow w.heap.size 9 1 v ((l.take k).map (fun s=>ofL (iG s))).length (h_ ((l.take k).map (fun s=>ofL (iG s))))∧Below w.heap.size w wr) (fun _ _ i _=>l.length-(intOf i).toNat)
 case atStart=>exact⟨0,by omega,rfl,dS _ _ _ _,Below.refl _ _⟩
 case round=>
  obtain⟨k,hk,rfl,hv,hb⟩:=hrel
  have HV:=hid hv;clear hv
  have HBR:=hid hb;clear hb
  by_cases hlt:k<l.length
  ·obtain⟨x,hx⟩:∃x,l[k]? =some x:=⟨l[k],List.getElem?_eq_getElem _⟩
   obtain⟨ad,rfl,hab,kx0,kx1,kx2⟩:=(HL.out.below HBR.out).at_ hx
   have HNX:=hid (show(l.take (k+1)).map (fun s=>ofL (iG s))=(l.take k).map (fun s=>ofL (iG s))++[ofL (iG x)]from by
    rw[List.take_add_one,hx,Option.toList_some,List.map_append]
    rfl)
   have HKL:=hid (show((l.take k).map (fun s=>ofL (iG s))).length≤16 from by rw[List.length_map,List.length_take];omega)
   have HXO:=hid (HOK.out x (List.mem_of_getElem? hx))
   generalize(l.take k).map (fun s=>ofL (iG s))=M at*
   have hv:=HV.out
   obtain⟨A0,cap,rfl,hc0,hm0⟩:=aJ hv
   clear hv hx hab
   have hwz:w.heap.size≤wr.heap.size:=HBR.out.size
   have qR:Below wr.heap.size wr (wr.alloc (.cells #[.int .u8 (x.kind:Int),.int .u32 (x.vers:Int),.int .u64 (x.path:Int)] 37)):=(Below.refl _ _).alloc (Nat.le_refl _) _
   have HBA:=hid (HBR.out.trans (qR.mono hwz))
   have HVA:=hid (aI HV.out qR)
   have HN:=hid (Blk.new wr 37 #[.int .u8 (x.kind:Int),.int .u32 (x.vers:Int),.int .u64 (x.path:Int)])
   clear qR hwz
   go_upto_region 5 with(fail)
   generalize wr.alloc (.cells #[.int .u8 (x.kind:Int),.int .u32 (x.vers:Int),.int .u64 (x.path:Int)] 37)=wa at HBA HVA HN⊢
   clear kx0 kx1 kx2
   generalize wr.heap.size=z at HN⊢
   have k0:wa.cell? ⟨z,0,none⟩=_:=HN.out.cell 0
   have k1:wa.cell? ⟨z,1,none⟩=_:=HN.out.cell 1
   have k2:wa.cell? ⟨z,2,none⟩=_:=HN.out.cell 2
   go_wp2_with fail
   refine(sW x HXO.out wa (HT.out.1.low (HBA.out.mono HT.out.2) (Nat.le_refl 8)) (Nat.le_trans HT.out.2 HBA.out.size)).mono ?_
   rintro e w2 ⟨rfl,hb⟩
   have HB2:=hid (HBA.out.trans (hb.mono HBA.out.size))
   have HV2:=hid (aI HVA.out hb)
   clear hb k0 k1 k2
   generalize ofL (iG x)=X at*
   have E8:Below w2.heap.size w2 (w2.alloc (.cells #[.string X] 9)):=(Below.refl _ _).alloc (Nat.le_refl _) _
   have HB3:=hid (HB2.out.trans (E8.mono HB2.out.size))
   have HV3:=hid (aI HV2.out E8)
   have w_:=hid (show Reads (w2.alloc (.cells #[.string X] 9)) (w2.heap.size+1) 1 (some ⟨w2.heap.size,0,none⟩) ([X]:List ByteArray).length (h_ [X])from dI w2 9 [.string X] 1 1 rfl)
   have HLN:=hid (show M.length+([X]:List ByteArray).length≤8796093022207 from by have:=HKL.out;simp only[List.length_cons,List.length_nil];omega)
   clear E8
   go_wp2_with(at_builtin;refine oQ (.tmp 14) (.tmp 18) rfl rfl w.heap.size _ _ rfl HV3.out (w2.heap.size+1) _ 1 [X] rfl w_.out HLN.out HB3.out.size ?_;intro v4 w4 hown hgr hor;have HV4:=hid hown;have HB4:=hid (HB3.out.grown hgr HB3.out.size (fun g hg=>dH HV3.out g hg));clear hown hgr hor)
   go_roundw
   case rel=>
    refine⟨k+1,by omega,by go_num, ?_,HB4.out⟩
    rw[HNX.out]
    exact HV4.out
   case measure=>simp[intOf];omega
  ·have hkl:k=l.length:=by omega
   subst hkl
   rw[List.take_length]at HV
   have HV0:=hid (show wr.ownsRow w.heap.size 9 1 _ l.length (h_ (l.map (fun s=>ofL (iG s))))from by have h:=HV.out;rw[List.length_map]at h;exact h)
   clear HV
   have HMM:=hid (show ofL (91::(iJ (l.map iG)++[93]))=⟨#[91]⟩++ofL (iJ ((l.map (fun s=>ofL (iG s))).map (·.data.toList)))++⟨#[93]⟩from by
    rw[List.map_map,show((fun x:ByteArray=>x.data.toList)∘(fun s=>ofL (iG s)))=iG from by funext y;simp[ofL]]
    apply ByteArray.ext
    rw[←Array.toList_inj]
    simp[ofL,ByteArray.data_append])
   have HJS:=hid (show((l.map (fun s=>ofL (iG s))).length≤16)from by rw[List.length_map];exact h16)
   have HJL:=hid (show∀y∈l.map (fun s=>ofL (iG s)),y.size≤67108866 from fun y hy=>by
    obtain⟨x,hx,rfl⟩:=List.mem_map.1 hy
    exact HWL.out x hx)
   have HJC:=hid (qI _ _ _ wr (show wr.ownsRow w.heap.size 9 1 _ (l.map (fun s=>ofL (iG s))).length (h_ (l.map (fun s=>ofL (iG s))))from by rw[List.length_map];exact HV0.out) HJS.out HJL.out)
   have hjs:(ofL (iJ ((l.map (fun s=>ofL (iG s))).map (·.data.toList)))).size≤1073741872:=by
    rw[dU]
    have h:=nN ((l.map (fun s=>ofL (iG s))).map (·.data.toList)) 67108866 (by
     intro x hx
     obtain⟨y,hy,rfl⟩:=List.mem_map.1 hx
     have h1:=HJL.out y hy
     have h2:y.data.toList.length=y.size:=Array.length_toList ..
     omega)
    rw[List.length_map]at h
    have h3:(l.map (fun s=>ofL (iG s))).length*(67108866+1)≤16*(67108866+1):=Nat.mul_le_mul_right _ HJS.out
    omega
   generalize ofL (iJ ((l.map (fun s=>ofL (iG s))).map (·.data.toList)))=J at*
   obtain⟨K1,hK1⟩:∃K1,K1=⟨#[91]⟩++J:=⟨_,rfl⟩
   obtain⟨K2,hK2⟩:∃K2,K2=K1++⟨#[93]⟩:=⟨_,rfl⟩
   have ha1:∀w,(Op.stringOp .add ⟨#[91]⟩ J).run Tryz.prog w= .ok (.string K1) w:=fun w=>by
    rw[hK1]
    exact run_string_add_sum w _ _ (by show 1+J.size≤_;omega)
   have ha2:∀w,(Op.stringOp .add K1 ⟨#[93]⟩).run Tryz.prog w= .ok (.string K2) w:=fun w=>by
    rw[hK2]
    exact run_string_add_sum w _ _ (by rw[hK1,ByteArray.size_append];show 1+J.size+1≤_;omega)
   have HKK:=hid (show ofL (91::(iJ (l.map iG)++[93]))=K2 from by rw[HMM.out,hK2,hK1])
   clear hjs hK1 hK2 HMM
   have hv:=HV0.out
   obtain⟨A0,cap,rfl,hc0,hm0⟩:=aJ hv
   clear hv
   go_wp2_with fail
   refine HJC.out.mono ?_
   rintro e w3 ⟨rfl,hb⟩
   have HB3:=hid (HBR.out.trans (hb.mono HBR.out.size))
   clear hb
   go_wp2_with fail
   go_ret
   rw[HKK.out]
   exact⟨rfl,HB3.out⟩
end Go.Proofs.YtkblmloobkiloaaGreatDoor
