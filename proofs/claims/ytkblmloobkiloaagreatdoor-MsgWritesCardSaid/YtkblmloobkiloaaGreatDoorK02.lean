/-
  G1 G2 M0 MB M1: what the laws of package msg need of them.
-/
import Derived.Test.YtkblmloobkiloaaGreatDoorK00
import Derived.Test.YtkblmloobkiloaaGreatDoorK01
import Derived.WalkKit
import Derived.ProofKit
import Derived.OpenShut
import Derived.BigQuiet
import Derived.Deep.QuietTactic
import Derived.Deep.DeepCutAuto
import Derived.StillTailTactics
import Derived.OwnWalk
import Derived.Lib.OthersKept
import Derived.Lib.RuneCountTail
import Derived.Laws.RangeAny
import Derived.Laws.Runes
import Derived.WalkMore
import Derived.WalkLawsBesides
import Derived.Lib.ItoaNum
import Derived.Maps.AppendAt
import Derived.Deep.Light
namespace Go.Proofs.YtkblmloobkiloaaGreatDoor
open Go.Lib (hid)
open Go.ChangeShapes Go.WideShapes Go.ChangeAt Go.RowKit
def vw(c:UInt8)(s:ByteArray)(done:List ByteArray)(from_ i:Nat):Prop:=
 done++(yt c (s.data.toList.drop from_)).map ofL=cut c s∧(∀(j:Nat) (h:j<s.size),from_≤j→j<i→s[j]≠c)
theorem tN(s:ByteArray)(a b:Nat):s.extract a b=ofL ((s.data.toList.drop a).take (b-a)):=by
 apply ByteArray.ext
 unfold ofL
 rw[ByteArray.data_extract]
 apply Array.ext'
 simp[List.extract_eq_take_drop]
theorem Ph(c:UInt8)(s:ByteArray)(a b:Nat)(h:∀(j:Nat) (h:j<s.size),a≤j→j<b→s[j]≠c):∀x∈(s.data.toList.drop a).take (b-a),x≠c:=by
 intro x hx
 obtain⟨q,hq,rfl⟩:=List.mem_iff_getElem.1 hx
 simp only[List.length_take,List.length_drop,Array.length_toList,ByteArray.size_data]at hq
 rw[List.getElem_take,List.getElem_drop]
 have:=h (a+q) (by omega) (by omega) (by omega)
 exact this
theorem vw.start(c:UInt8)(s:ByteArray):vw c s [] 0 0:=⟨rfl,fun _ _ _ h=>absurd h (Nat.not_lt_zero _)⟩
theorem vw.hit{c:UInt8}{s:ByteArray}{done:List ByteArray}{f i:Nat}(h:vw c s done f i)(hf:f≤i)(hi:i<s.size)(he:s[i]=c):vw c s (done++[s.extract f i]) (i+1) (i+1):=by
 refine⟨?_,fun j _ h1 h2=>absurd h2 (by omega)⟩
 rw[←h.1]
 have e:s.data.toList.drop f=(s.data.toList.drop f).take (i-f)++c::s.data.toList.drop (i+1):=by
  have h1:s.data.toList.drop f=(s.data.toList.drop f).take (i-f)++(s.data.toList.drop f).drop (i-f):=(List.take_append_drop _ _).symm
  rw[List.drop_drop,show f+(i-f)=i from by omega]at h1
  have hl:i<s.data.toList.length:=by simpa using hi
  rw[List.drop_eq_getElem_cons hl]at h1
  have:s.data.toList[i]=c:=he
  rw[this]at h1
  exact h1
 conv=>rhs;rw[e,BP c _ _ (Ph c s f i h.2)]
 rw[List.map_cons,tN,List.append_assoc,List.singleton_append]
theorem vw.done{c:UInt8}{s:ByteArray}{done:List ByteArray}{f i:Nat}(h:vw c s done f i)(hi:s.size≤i):done++[s.extract f s.size]=cut c s:=by
 rw[←h.1]
 have hno:∀x∈s.data.toList.drop f,x≠c:=by
  have:=Ph c s f i h.2
  rwa[List.take_of_length_le (by simp;omega)]at this
 rw[yT c _ hno,tN,List.take_of_length_le (by simp)]
 rfl
theorem vC(s:ByteArray)(i:Nat)(h:i<s.size):s.get! i=s[i]:=by
 have:=get_at s i h
 rwa[Nat.add_zero]at this
theorem Ae(s:ByteArray)(i lo hi:Nat)(w:World):
  Calls Tryz.prog 281 #[.string s,.int .i64 (i:Int),.int .u8 (lo:Int),.int .u8 (hi:Int)] w fun e w'=>e= .returned (.bool (eF s i lo hi))∧w=w':=by
 by_cases hi1:i<s.size
 ·have hb:eF s i lo hi=(decide (lo≤s[i].toNat)&&decide (s[i].toNat≤hi)):=by
   unfold eF;rw[decide_eq_true hi1,Bool.true_and,vC s i hi1]
  have HB:=hid hb;clear hb
  by_cases h1:lo≤s[i].toNat
  ·have d1:decide ((lo:Int)≤(s[i].toNat:Int))=true:=decide_eq_true (by omega)
   by_cases h2:s[i].toNat≤hi
   ·have d2:decide ((s[i].toNat:Int)≤(hi:Int))=true:=decide_eq_true (by omega)
    go_enter Tryz.func281,Tryz.ntmps281
    go_wp2
    go_ret
    refine⟨cZ ?_,rfl⟩
    rw[HB.out,decide_eq_true h1,decide_eq_true h2];rfl
   ·have d2:decide ((s[i].toNat:Int)≤(hi:Int))=false:=decide_eq_false (by omega)
    go_enter Tryz.func281,Tryz.ntmps281
    go_wp2
    go_ret
    refine⟨cZ ?_,rfl⟩
    rw[HB.out,decide_eq_true h1,decide_eq_false h2];rfl
  ·have d1:decide ((lo:Int)≤(s[i].toNat:Int))=false:=decide_eq_false (by omega)
   go_enter Tryz.func281,Tryz.ntmps281
   go_wp2
   go_ret
   refine⟨cZ ?_,rfl⟩
   rw[HB.out,decide_eq_false h1];rfl
 ·have hb:eF s i lo hi=false:=by unfold eF;rw[decide_eq_false hi1];rfl
  have HB:=hid hb;clear hb
  go_enter Tryz.func281,Tryz.ntmps281
  go_wp2
  go_ret
  exact⟨cZ HB.out.symm,rfl⟩
def byteAt(s:ByteArray)(i:Nat):Nat:=(s.get! i).toNat
theorem JQ{s:ByteArray}{i lo hi:Nat}(h:i<s.size∧lo≤byteAt s i∧byteAt s i≤hi):eF s i lo hi=true:=by
 unfold eF;simp only[Bool.and_eq_true,decide_eq_true_eq];exact h
theorem JR{s:ByteArray}{i lo hi:Nat}(h:¬(i<s.size∧lo≤byteAt s i∧byteAt s i≤hi)):eF s i lo hi=false:=by
 rw[←Bool.not_eq_true]
 unfold eF;simp only[Bool.and_eq_true,decide_eq_true_eq];exact h
theorem rC(s:ByteArray)(i k:Nat)(a lo hi:Int)(w:World)(h0:a=(i:Int)+(k:Int))(h1:0≤lo)(h2:0≤hi):
  Calls Tryz.prog 281 #[.string s,.int .i64 a,.int .u8 lo,.int .u8 hi] w fun e w'=>(e= .returned (.bool true)∧w=w'∧(i+k<s.size∧lo≤(byteAt s (i+k):Int)∧(byteAt s (i+k):Int)≤hi))∨(e= .returned (.bool false)∧w=w'∧¬(i+k<s.size∧lo≤(byteAt s (i+k):Int)∧(byteAt s (i+k):Int)≤hi)):=by
 obtain⟨b,rfl⟩:=Int.eq_ofNat_of_zero_le h1
 obtain⟨c,rfl⟩:=Int.eq_ofNat_of_zero_le h2
 have e:a=((i+k:Nat):Int):=by omega
 subst e
 refine(Ae s (i+k) b c w).mono fun e w' ⟨he,hw⟩=> ?_
 by_cases h:i+k<s.size∧b≤byteAt s (i+k)∧byteAt s (i+k)≤c
 ·rw[JQ h]at he
  exact .inl ⟨he,hw,by omega⟩
 ·rw[JR h]at he
  exact .inr ⟨he,hw,by omega⟩
theorem tV(s:ByteArray)(i:Nat):lM s i=
  if i<s.size∧0≤byteAt s i∧byteAt s i≤127 then 1
  else if(i<s.size∧194≤byteAt s i∧byteAt s i≤223)∧(i+1<s.size∧128≤byteAt s (i+1)∧byteAt s (i+1)≤191)then 2
  else if((i<s.size∧224≤byteAt s i∧byteAt s i≤239)∧(i+1<s.size∧(if i<s.size∧224≤byteAt s i∧byteAt s i≤224 then 160 else 128)≤byteAt s (i+1)∧byteAt s (i+1)≤(if i<s.size∧237≤byteAt s i∧byteAt s i≤237 then 159 else 191)))∧(i+2<s.size∧128≤byteAt s (i+2)∧byteAt s (i+2)≤191)then 3
  else if(((i<s.size∧240≤byteAt s i∧byteAt s i≤244)∧(i+1<s.size∧(if i<s.size∧240≤byteAt s i∧byteAt s i≤240 then 144 else if i<s.size∧224≤byteAt s i∧byteAt s i≤224 then 160 else 128)≤byteAt s (i+1)∧byteAt s (i+1)≤(if i<s.size∧244≤byteAt s i∧byteAt s i≤244 then 143 else if i<s.size∧237≤byteAt s i∧byteAt s i≤237 then 159 else 191)))∧(i+2<s.size∧128≤byteAt s (i+2)∧byteAt s (i+2)≤191))∧(i+3<s.size∧128≤byteAt s (i+3)∧byteAt s (i+3)≤191)then 4 else 0:=by
 unfold lM eF byteAt
 simp only[Bool.and_eq_true,decide_eq_true_eq]
set_option maxHeartbeats 8000000 in
theorem qL(s:ByteArray)(i:Nat)(w:World)(hi:i≤16777216):
  Calls Tryz.prog 263 #[.string s,.int .i64 (i:Int)] w fun e w'=>e= .returned (.int .i64 (lM s i:Int))∧w=w':=by
 have hw:∀n:Nat,lM s i=n→(n:Int)=(lM s i:Int):=fun n h=>by rw[h]
 have HW:=hid hw;clear hw
 go_enter Tryz.func263,Tryz.ntmps263
 go_wp2_with(go_at_call 281;(first|refine(rC s i 0 _ _ _ _ (by omega) (by omega) (by omega)).mono ?_|refine(rC s i 1 _ _ _ _ (by omega) (by omega) (by omega)).mono ?_|refine(rC s i 2 _ _ _ _ (by omega) (by omega) (by omega)).mono ?_|refine(rC s i 3 _ _ _ _ (by omega) (by omega) (by omega)).mono ?_);rintro e w' (⟨rfl,rfl,hq⟩|⟨rfl,rfl,hq⟩)<;>first|(exfalso;omega)|skip)
 all_goals
  go_ret
  refine⟨jP (HW.out _ ?_),rfl⟩
  clear HW
  simp only[Nat.add_zero]at*
  rw[tV]
  repeat' split
  all_goals omega
theorem JU(s:ByteArray)(i:Nat):lM s i≤4:=by
 rw[tV]
 repeat' split
 all_goals omega
theorem yY(s:ByteArray)(w:World)(hs:s.size≤16777216):
  Calls Tryz.prog 243 #[.string s] w fun e w'=>e= .returned (.int .i64 (badR s s.size 0:Int))∧w=w':=by
 go_enter Tryz.func243,Tryz.ntmps243
 go_wp2_with fail
 go_loop [3] (fun c=>∃i f:Nat,c= .int .i64 i∧i≤s.size+4∧s.size≤i+f∧badR s f i=badR s s.size 0) (fun c=>s.size-(intOf c).toNat)
 case atStart=>exact⟨0,s.size,rfl,by omega,by omega,rfl⟩
 case round=>
  obtain⟨i,f,rfl,hi,hf,hb⟩:=hrel
  have HB:=hid hb;clear hb
  by_cases hlt:i<s.size
  ·have hcw:=JU s i
   obtain⟨f,rfl⟩:∃f',f=f'+1:=⟨f-1,by omega⟩
   by_cases hz:lM s i=0
   ·have HR:=hid (show badR s s.size 0=i from by rw[←HB.out,badR,if_pos hlt,if_pos (.inl hz)])
    go_wp2_with fail
    refine(qL s i _ (by omega)).mono ?_
    rintro e w' ⟨rfl,rfl⟩
    rw[hz]
    have hzz:(((0:Nat):Int)==0)=true:=rfl
    go_wp2_with fail
    go_ret
    exact⟨jP (by rw[HR.out]),rfl⟩
   ·have hzz:(((lM s i:Nat):Int)==0)=false:=by rw[beq_eq_false_iff_ne];omega
    by_cases h0:s[i].toNat=0
    ·have HR:=hid (show badR s s.size 0=i from by rw[←HB.out,badR,if_pos hlt,if_pos (.inr (by rw[vC s i hlt];exact h0))])
     have h00:((s[i].toNat:Int)==0)=true:=by rw[h0];rfl
     have HZ:=hid hz;clear hz
     have H0:=hid h0;clear h0
     go_wp2_with fail
     refine(qL s i _ (by omega)).mono ?_
     rintro e w' ⟨rfl,rfl⟩
     generalize lM s i=cw at hzz hcw HZ⊢
     go_wp2_with fail
     go_ret
     exact⟨jP (by rw[HR.out]),rfl⟩
    ·have HR:=hid (show badR s f (i+lM s i)=badR s s.size 0 from by rw[←HB.out,badR,if_pos hlt,if_neg (by rintro(h|h);exact hz h;exact h0 (by rwa[vC s i hlt]at h))])
     have h00:((s[i].toNat:Int)==0)=false:=by rw[beq_eq_false_iff_ne];omega
     have HZ:=hid hz;clear hz
     have H0:=hid h0;clear h0
     go_wp2_with fail
     refine(qL s i _ (by omega)).mono ?_
     rintro e w' ⟨rfl,rfl⟩
     generalize lM s i=cw at hzz hcw HZ HR⊢
     go_wp2_with fail
     have hz2:=HZ.out
     go_round
     case rel=>exact⟨i+cw,f,by go_num,by omega,by omega,HR.out⟩
     case measure=>simp[intOf];omega
  ·have HR:=hid (show badR s s.size 0=s.size from by
    rw[←HB.out]
    cases f with
    |zero=>rfl
    |succ f=>rw[badR,if_neg hlt])
   go_wp2_with fail
   go_ret
   exact⟨jP (by rw[HR.out]),rfl⟩
theorem qM(s:ByteArray)(w:World)(hs:s.size≤16777216):
  Calls Tryz.prog 185 #[.string s] w fun e w'=>e= .returned (.bool (good s))∧w=w':=by
 have hg:=yV s s.size 0
 by_cases h:badR s s.size 0=s.size
 ·have HG:=hid (show good s=true from hg.1 h)
  clear hg
  have hz:(((badR s s.size 0:Nat):Int)==(s.size:Int))=true:=by rw[h];exact beq_self_eq_true _
  have HH:=hid h;clear h
  go_enter Tryz.func185,Tryz.ntmps185
  go_wp2_with fail
  refine(yY s _ hs).mono ?_
  rintro e w' ⟨rfl,rfl⟩
  generalize badR s s.size 0=b at hz HH⊢
  go_wp2_with fail
  go_ret
  exact⟨cZ HG.out.symm,rfl⟩
 ·have HG:=hid (show good s=false from by rw[←Bool.not_eq_true];exact fun e=>h (hg.2 e))
  clear hg
  have hz:(((badR s s.size 0:Nat):Int)==(s.size:Int))=false:=by rw[beq_eq_false_iff_ne];omega
  have HH:=hid h;clear h
  go_enter Tryz.func185,Tryz.ntmps185
  go_wp2_with fail
  refine(yY s _ hs).mono ?_
  rintro e w' ⟨rfl,rfl⟩
  generalize badR s s.size 0=b at hz HH⊢
  go_wp2_with fail
  go_ret
  exact⟨cZ HG.out.symm,rfl⟩
def Ready(w:World):Prop:=Lib.Utf8Tabs 3 4 w∧∃m,w.cell? ⟨7,0,none⟩=some (.int .i64 m)
theorem Ready.below{w w':World}{B:Nat}(h:Ready w)(hb:Below B w w')(hB:w.heap.size≤B):Ready w':=by
 obtain⟨⟨h1,h2⟩,m,h3⟩:=h
 have key:∀(a:Addr) u,w.cell? a=some u→w'.cell? a=some u:=fun a u hu=>(hb.cell (Nat.lt_of_lt_of_le (World.block_lt_of_cell? w a hu) hB)).trans hu
 exact⟨⟨fun c hc=>key _ _ (h1 c hc),fun i hi=>⟨key _ _ (h2 i hi).1,key _ _ (h2 i hi).2⟩⟩,m,key _ _ h3⟩
theorem Ready.alloc{w:World}(h:Ready w)(x:Obj):Ready (w.alloc x):=h.below ((Below.refl _ _).alloc (Nat.le_refl _) x) (Nat.le_refl _)
theorem width_pos(s:ByteArray)(pos:Nat)(h:pos<s.size):1≤(Utf8.decode s pos).2:=by
 by_cases ha:(s[pos]'h).toNat<128
 ·rw[decode_ascii s pos h ha]
  exact Nat.le_refl _
 ·exact(decode_high s pos h (by omega)).2
theorem Ag{s:ByteArray}{f pos:Nat}(h:¬pos<s.size):gq s f pos=true:=by
 cases f with
 |zero=>rfl
 |succ f=>rw[gq,if_neg h]
theorem nS{s:ByteArray}{f pos:Nat}(h:pos<s.size)(hf:s.size≤pos+f)(hb:(Utf8.decode s pos).1=0∨((Utf8.decode s pos).1=65533∧(Utf8.decode s pos).2=1)):gq s f pos=false:=by
 cases f with
 |zero=>omega
 |succ f=>rw[gq,if_pos h,if_pos hb]
theorem mY{s:ByteArray}{f pos:Nat}(h:pos<s.size)(hf:s.size≤pos+f)(hb:¬((Utf8.decode s pos).1=0∨((Utf8.decode s pos).1=65533∧(Utf8.decode s pos).2=1))):gq s f pos=gq s (f-1) (pos+(Utf8.decode s pos).2):=by
 cases f with
 |zero=>omega
 |succ f=>rw[gq,if_pos h,if_neg hb];rfl
theorem qy(s:ByteArray)(w:World)(hr:Ready w):
  Calls Tryz.prog 196 #[.string s] w fun e w'=>(∃i:Int,e= .returned (.int .i64 i)∧(decide (i<0))=good s)∧Below w.heap.size w w':=by
 have HR:=hid hr;clear hr
 go_enter Tryz.func196,Tryz.ntmps196
 go_wp2_with fail
 go_loopw [] (fun wr=>∃(pos f:Nat),wr.heap[w.heap.size]? =some (.stringIter s pos)∧Below w.heap.size w wr∧Ready wr∧gq s f pos=good s∧s.size≤pos+f) (fun wr=>s.size-wr.iterPos w.heap.size)
 case atStart=>
  refine⟨0,s.size,World.iter_heap w s 0,(Below.refl _ w).alloc (Nat.le_refl _) _,HR.out.alloc _,rfl,by omega⟩
 case round=>
  obtain⟨pos,f,hit,hb,hr,hg,hf⟩:=hrel
  have hsz:w.heap.size<wr.heap.size:=(Array.getElem?_eq_some_iff.1 hit).1
  have HB:=hid hb;clear hb
  have HRR:=hid hr;clear hr
  have HG:=hid hg;clear hg
  by_cases hp:pos<s.size
  ·have hnx:∀ty,(Instr.next (.pointer (some ⟨w.heap.size,0,none⟩)) true ty).run Tryz.prog wr=_:=fun ty=>Lib.run_next_any_at wr w.heap.size s pos ty hit hp
   have HWD:=hid (width_pos s pos hp)
   have nT:=hid (Lib.iterAt_heap wr w.heap.size s pos (pos+(Utf8.decode s pos).2) hit)
   have HB2:=hid (Lib.below_iterAt HB.out (k:=w.heap.size) (Nat.le_refl _) s (pos+(Utf8.decode s pos).2))
   have yu:=hid (show wr.iterPos w.heap.size=pos from by simp[World.iterPos,hit])
   have HIT:=hid hit
   clear hit
   have HR2:=hid (show Ready (wr.iterAt w.heap.size s (pos+(Utf8.decode s pos).2))from HR.out.below HB2.out (Nat.le_refl _))
   generalize hdec:Utf8.decode s pos=d at HWD nT HB2 HR2 hnx
   obtain⟨r,k⟩:=d
   have HD:=hid hdec;clear hdec
   dsimp only at hnx HWD nT HB2 HR2
   rcases Nat.eq_zero_or_pos r with h0|h0
   ·have HX:=hid (show gq s f pos=false from nS hp hf (.inl (by rw[HD.out];exact h0)))
    have h0i:((r:Int)==0)=true:=by rw[beq_iff_eq];omega
    clear h0
    go_wp2_with fail
    go_ret
    exact⟨⟨pos,rfl,by rw[←HG.out,HX.out];exact decide_eq_false (by omega)⟩,HB2.out⟩
   ·have h0i:((r:Int)==0)=false:=by rw[beq_eq_false_iff_ne];omega
    have HPS:=hid h0;clear h0
    by_cases h6:r=65533
    ·have h6i:((r:Int)==65533)=true:=by rw[beq_iff_eq];omega
     have HDG:=hid (show Lib.decodeGo (s.extract pos s.size)=(r,k)from by
      unfold Lib.decodeGo
      rw[if_neg (by simp;omega),Lib.tail_decode,Nat.add_zero]
      exact HD.out)
     have H6:=hid h6;clear h6
     by_cases hk:k=1
     ·have hki:((k:Int)==1)=true:=by rw[beq_iff_eq];omega
      have HX:=hid (show gq s f pos=false from nS hp hf (.inr (by rw[HD.out];exact⟨H6.out,hk⟩)))
      clear hk
      go_wp2_with fail
      refine(Tryz.utf8_DecodeRuneInString (s.extract pos s.size) _ HR2.out.1).mono ?_
      rintro e w2 ⟨rfl,hb2⟩
      have HB3:=hid (HB2.out.trans (hb2.mono HB2.out.size));clear hb2
      rw[HDG.out]
      go_wp2_with fail
      go_ret
      exact⟨⟨pos,rfl,by rw[←HG.out,HX.out];exact decide_eq_false (by omega)⟩,HB3.out⟩
     ·have hki:((k:Int)==1)=false:=by rw[beq_eq_false_iff_ne];omega
      have HX:=hid (mY hp hf (show¬((Utf8.decode s pos).1=0∨((Utf8.decode s pos).1=65533∧(Utf8.decode s pos).2=1))from by
       rw[HD.out];rintro(h|⟨_,h⟩)
       ·have:=HPS.out;dsimp only at h;omega
       ·exact hk h))
      clear hk
      have hit3:=nT.out
      go_wp2_with fail
      refine(Tryz.utf8_DecodeRuneInString (s.extract pos s.size) _ HR2.out.1).mono ?_
      rintro e w2 ⟨rfl,hb2⟩
      have HB3:=hid (HB2.out.trans (hb2.mono HB2.out.size))
      have RH:=hid ((hb2.block w.heap.size (by rw[Lib.iterAt_size];exact hsz)).trans nT.out)
      have HR3:=hid (HR2.out.below hb2 (Nat.le_refl _))
      clear hb2 hit3
      rw[HDG.out]
      go_wp2_with fail
      go_roundw
      case rel=>exact⟨pos+k,f-1,RH.out,HB3.out,HR3.out,by rw[←HG.out,HX.out,HD.out],by have:=HWD.out;omega⟩
      case measure=>have:=HWD.out;rw[yu.out];simp only[World.iterPos,RH.out];omega
    ·have h6i:((r:Int)==65533)=false:=by rw[beq_eq_false_iff_ne];omega
     have HX:=hid (mY hp hf (show¬((Utf8.decode s pos).1=0∨((Utf8.decode s pos).1=65533∧(Utf8.decode s pos).2=1))from by
       rw[HD.out];rintro(h|⟨h,_⟩)
       ·have:=HPS.out;dsimp only at h;omega
       ·exact h6 h))
     clear h6
     go_wp2_with fail
     go_roundw
     case rel=>exact⟨pos+k,f-1,nT.out,HB2.out,HR2.out,by rw[←HG.out,HX.out,HD.out],by have:=HWD.out;omega⟩
     case measure=>have:=HWD.out;rw[yu.out];simp only[World.iterPos,nT.out];omega
  ·have hnx:∀ty,(Instr.next (.pointer (some ⟨w.heap.size,0,none⟩)) true ty).run Tryz.prog wr=_:=fun ty=>Lib.run_next_end_at wr w.heap.size s pos ty hit hp
   go_wp2_with fail
   go_ret
   exact⟨⟨-1,rfl,by rw[←HG.out,Ag hp];rfl⟩,HB.out⟩
theorem gu(s:ByteArray)(w:World)(hr:Ready w):
  Calls Tryz.prog 133 #[.string s] w fun e w'=>e= .returned (.bool (good s))∧Below w.heap.size w w':=by
 have HR:=hid hr;clear hr
 go_enter Tryz.func133,Tryz.ntmps133
 go_wp2_with fail
 refine(qy s _ HR.out).mono ?_
 rintro e w2 ⟨⟨i,rfl,hi⟩,hb⟩
 have HB:=hid hb;clear hb
 have HI:=hid hi;clear hi
 go_wp2_with fail
 go_ret
 exact⟨cZ HI.out,HB.out⟩
section
variable {a:oO} {mv:Value} {w w' w'':World}
end
end Go.Proofs.YtkblmloobkiloaaGreatDoor
namespace Go.Proofs.YtkblmloobkiloaaGreatDoor
open Go.Lib (hid)
open Go.Lib (decDigits)
structure Qd where
 kind:Nat
 vers:Nat
 path:Nat
structure Sta where
 type:Nat
 dev:Nat
 qid:Qd
 mode:Nat
 atime:Nat
 mtime:Nat
 length:Nat
 name:ByteArray
 uid:ByteArray
 gid:ByteArray
 fE:ByteArray
structure Mg where
 kind:Nat
 tag:Nat
 bI:Nat
 version:ByteArray
 dB:Nat
 uname:ByteArray
 bF:ByteArray
 bH:ByteArray
 aT:Nat
 fid:Nat
 aU:Nat
 names:List ByteArray
 aV:List Qd
 qid:Qd
 mode:Nat
 aQ:Nat
 name:ByteArray
 perm:Nat
 offset:Nat
 count:Nat
 data:List UInt8
 stat:Sta
abbrev e0:ByteArray:=⟨#[]⟩
def zq:Qd:=⟨0,0,0⟩
def zst:Sta:=⟨0,0,zq,0,0,0,0,e0,e0,e0,e0⟩
def head(kind tag:Nat):Mg:=⟨kind,tag,0,e0,0,e0,e0,e0,0,0,0,[],[],zq,0,0,e0,0,0,0,[],zst⟩
def Qd.ok(q:Qd):Prop:=q.kind<256∧q.vers<4294967296∧q.path<18446744073709551616
def Sta.ok(s:Sta):Prop:=s.type<65536∧s.dev<4294967296∧s.qid.ok∧s.mode<4294967296∧s.atime<4294967296∧s.mtime<4294967296∧s.length<18446744073709551616
inductive Fld where
 |bI|version|dB|uname|bF|bH|aT|fid|aU|names|aV|qid|mode|aQ|name|perm|offset|count|data|stat
def Fld.ix:Fld→Nat
 | .bI=>0| .version=>1| .dB=>2| .uname=>3| .bF=>4| .bH=>5| .aT=>6| .fid=>7| .aU=>8| .names=>9| .aV=>10| .qid=>11| .mode=>12| .aQ=>13| .name=>14| .perm=>15| .offset=>16| .count=>17| .data=>18| .stat=>19
def Fld.width:Fld→Nat
 | .bI=>4| .dB=>4| .fid=>4| .aU=>4| .aQ=>4| .perm=>4| .count=>4| .aT=>2| .mode=>1| .offset=>8|_=>0
def Fld.isText:Fld→Bool
 | .version| .uname| .bF| .bH| .name=>true|_=>false
def Mg.num(m:Mg):Fld→Nat
 | .bI=>m.bI| .dB=>m.dB| .fid=>m.fid| .aU=>m.aU| .aQ=>m.aQ| .perm=>m.perm| .count=>m.count| .aT=>m.aT| .mode=>m.mode| .offset=>m.offset|_=>0
def Mg.aG(m:Mg)(n:Nat):Fld→Mg
 | .bI=> {m with bI:=n}
 | .dB=> {m with dB:=n}
 | .fid=> {m with fid:=n}
 | .aU=> {m with aU:=n}
 | .aQ=> {m with aQ:=n}
 | .perm=> {m with perm:=n}
 | .count=> {m with count:=n}
 | .aT=> {m with aT:=n}
 | .mode=> {m with mode:=n}
 | .offset=> {m with offset:=n}
 |_=>m
def Mg.txt(m:Mg):Fld→ByteArray
 | .version=>m.version| .uname=>m.uname| .bF=>m.bF| .bH=>m.bH| .name=>m.name|_=>e0
def Mg.bV(m:Mg)(s:ByteArray):Fld→Mg
 | .version=> {m with version:=s}
 | .uname=> {m with uname:=s}
 | .bF=> {m with bF:=s}
 | .bH=> {m with bH:=s}
 | .name=> {m with name:=s}
 |_=>m
structure Mg.ok(m:Mg):Prop where
 kind:m.kind<256
 tag:m.tag<65536
 bI:m.bI<4294967296
 dB:m.dB<4294967296
 fid:m.fid<4294967296
 aU:m.aU<4294967296
 aQ:m.aQ<4294967296
 perm:m.perm<4294967296
 count:m.count<4294967296
 aT:m.aT<65536
 mode:m.mode<256
 offset:m.offset<18446744073709551616
 aV:∀q∈m.aV,q.ok
 qid:m.qid.ok
 stat:m.stat.ok
def bQ:Nat→Option (List Fld)
 |100=>some [.bI,.version]
 |101=>some [.bI,.version]
 |102=>some [.dB,.uname,.bF]
 |103=>some [.qid]
 |104=>some [.fid,.dB,.uname,.bF]
 |105=>some [.qid]
 |107=>some [.bH]
 |108=>some [.aT]
 |109=>some []
 |110=>some [.fid,.aU,.names]
 |111=>some [.aV]
 |112=>some [.fid,.mode]
 |113=>some [.qid,.aQ]
 |114=>some [.fid,.name,.perm,.mode]
 |115=>some [.qid,.aQ]
 |116=>some [.fid,.offset,.count]
 |117=>some [.data]
 |118=>some [.fid,.offset,.data]
 |119=>some [.count]
 |120=>some [.fid]
 |121=>some []
 |122=>some [.fid]
 |123=>some []
 |124=>some [.fid]
 |125=>some [.stat]
 |126=>some [.fid,.stat]
 |127=>some []
 |_=>none
def fO:Nat→List UInt8
 |100=>[84,118,101,114,115,105,111,110]
 |101=>[82,118,101,114,115,105,111,110]
 |102=>[84,97,117,116,104]
 |103=>[82,97,117,116,104]
 |104=>[84,97,116,116,97,99,104]
 |105=>[82,97,116,116,97,99,104]
 |107=>[82,101,114,114,111,114]
 |108=>[84,102,108,117,115,104]
 |109=>[82,102,108,117,115,104]
 |110=>[84,119,97,108,107]
 |111=>[82,119,97,108,107]
 |112=>[84,111,112,101,110]
 |113=>[82,111,112,101,110]
 |114=>[84,99,114,101,97,116,101]
 |115=>[82,99,114,101,97,116,101]
 |116=>[84,114,101,97,100]
 |117=>[82,114,101,97,100]
 |118=>[84,119,114,105,116,101]
 |119=>[82,119,114,105,116,101]
 |120=>[84,99,108,117,110,107]
 |121=>[82,99,108,117,110,107]
 |122=>[84,114,101,109,111,118,101]
 |123=>[82,114,101,109,111,118,101]
 |124=>[84,115,116,97,116]
 |125=>[82,115,116,97,116]
 |126=>[84,119,115,116,97,116]
 |127=>[82,119,115,116,97,116]
 |_=>[]
def Fld.word:Fld→List UInt8
 | .bI=>[109,115,105,122,101]
 | .version=>[118,101,114,115,105,111,110]
 | .dB=>[97,102,105,100]
 | .uname=>[117,110,97,109,101]
 | .bF=>[97,110,97,109,101]
 | .bH=>[101,110,97,109,101]
 | .aT=>[111,108,100,116,97,103]
 | .fid=>[102,105,100]
 | .aU=>[110,101,119,102,105,100]
 | .names=>[110,97,109,101,115]
 | .aV=>[113,105,100,115]
 | .qid=>[113,105,100]
 | .mode=>[109,111,100,101]
 | .aQ=>[105,111,117,110,105,116]
 | .name=>[110,97,109,101]
 | .perm=>[112,101,114,109]
 | .offset=>[111,102,102,115,101,116]
 | .count=>[99,111,117,110,116]
 | .data=>[100,97,116,97]
 | .stat=>[115,116,97,116]
def le:Nat→Nat→List UInt8
 |0,_=>[]
 |k+1,n=>UInt8.ofNat (n%256)::le k (n/256)
def fP(s:ByteArray):List UInt8:=le 2 s.size++s.data.toList
def kR(q:Qd):List UInt8:=le 1 q.kind++le 4 q.vers++le 8 q.path
def dY(s:Sta):Nat:=49+s.name.size+s.uid.size+s.gid.size+s.fE.size
def kX(s:Sta):List UInt8:=
 le 2 (dY s-2)++le 2 s.type++le 4 s.dev++kR s.qid++le 4 s.mode++le 4 s.atime++le 4 s.mtime++le 8 s.length++fP s.name++fP s.uid++fP s.gid++fP s.fE
def Mg.bytes(m:Mg):Fld→List UInt8
 | .names=>le 2 m.names.length++m.names.flatMap fP
 | .aV=>le 2 m.aV.length++m.aV.flatMap kR
 | .qid=>kR m.qid
 | .data=>le 4 m.data.length++m.data
 | .stat=>le 2 (dY m.stat)++kX m.stat
 |f=>if f.isText then fP (m.txt f)else le f.width (m.num f)
def Mg.long(m:Mg):Fld→Nat
 | .names=>2+(m.names.map fun s=>2+s.size).sum
 | .aV=>2+13*m.aV.length
 | .qid=>13
 | .data=>4+m.data.length
 | .stat=>2+dY m.stat
 |f=>if f.isText then 2+(m.txt f).size else f.width
def Sta.good(s:Sta):Bool:=Go.Proofs.YtkblmloobkiloaaGreatDoor.good s.name&&Go.Proofs.YtkblmloobkiloaaGreatDoor.good s.uid&&Go.Proofs.YtkblmloobkiloaaGreatDoor.good s.gid&&Go.Proofs.YtkblmloobkiloaaGreatDoor.good s.fE
def Mg.good(m:Mg):Fld→Bool
 | .names=>decide (m.names.length≤16)&&m.names.all Go.Proofs.YtkblmloobkiloaaGreatDoor.good
 | .aV=>decide (m.aV.length≤16)
 | .stat=>m.stat.good
 |f=>if f.isText then Go.Proofs.YtkblmloobkiloaaGreatDoor.good (m.txt f)else true
def Mg.size(m:Mg)(fs:List Fld):Nat:=7+(fs.map m.long).sum
def refused(m:Mg):Nat×Nat:=
 match bQ m.kind with
 |none=>(32,0)
 |some fs=>if fs.all m.good then if 65536<m.size fs then(31,0)else(0,m.size fs)else(30,0)
def body(m:Mg)(fs:List Fld):List UInt8:=fs.flatMap m.bytes
def enc(m:Mg):List UInt8×Nat:=
 match bQ m.kind with
 |none=>([],32)
 |some fs=>if(refused m).1=0 then(le 4 (m.size fs)++le 1 m.kind++le 2 m.tag++body m fs,0)else([],(refused m).1)
def Mg.move(c m:Mg):Fld→Mg
 | .names=> {c with names:=m.names}
 | .aV=> {c with aV:=m.aV}
 | .qid=> {c with qid:=m.qid}
 | .data=> {c with data:=m.data}
 | .stat=> {c with stat:=m.stat}
 |f=>if f.isText then c.bV (m.txt f) f else c.aG (m.num f) f
def clean(m:Mg):Mg:=((bQ m.kind).getD []).foldl (fun c f=>c.move m f) (head m.kind m.tag)
/-! Reading a frame. -/
def aH:List UInt8→Nat
 | []=>0
 |b::t=>b.toNat+256*aH t
def gJ(n:Nat)(l:List UInt8):Option (List UInt8×List UInt8):=if n≤l.length then some (l.take n,l.drop n)else none
def bU(k:Nat)(l:List UInt8):Option (Nat×List UInt8):=(gJ k l).map fun p=>(aH p.1,p.2)
def aN(l:List UInt8):Option (ByteArray×List UInt8):=
 match bU 2 l with
 |none=>none
 |some (n,r)=>
  match gJ n r with
  |none=>none
  |some (s,r)=>if Go.Proofs.YtkblmloobkiloaaGreatDoor.good (ofL s)then some (ofL s,r)else none
def dR(l:List UInt8):Option (Qd×List UInt8):=if 13≤l.length then some (⟨aH (l.take 1),aH ((l.drop 1).take 4),aH ((l.drop 5).take 8)⟩,l.drop 13)else none
def getMany{α:Type}(one:List UInt8→Option (α×List UInt8)):Nat→List UInt8→Option (List α×List UInt8)
 |0,l=>some ([],l)
 |n+1,l=>
  match one l with
  |none=>none
  |some (x,r)=>
   match getMany one n r with
   |none=>none
   |some (xs,r)=>some (x::xs,r)
def fF{α:Type}(one:List UInt8→Option (α×List UInt8))(l:List UInt8):Option (List α×List UInt8):=
 match bU 2 l with
 |none=>none
 |some (n,r)=>if 16<n then none else getMany one n r
def iI(l:List UInt8):Option ((ByteArray×ByteArray×ByteArray×ByteArray)×List UInt8):=
 match aN l with
 |none=>none
 |some (a,r)=>
  match aN r with
  |none=>none
  |some (b,r)=>
   match aN r with
   |none=>none
   |some (c,r)=>
    match aN r with
    |none=>none
    |some (d,r)=>some ((a,b,c,d),r)
def fV(l:List UInt8):Option Sta:=
 if l.length<49 then none else
 if aH (l.take 2)+2≠l.length then none else
 match iI (l.drop 41)with
 |some ((a,b,c,d),[])=>some ⟨aH ((l.drop 2).take 2),aH ((l.drop 4).take 4),⟨aH ((l.drop 8).take 1),aH ((l.drop 9).take 4),aH ((l.drop 13).take 8)⟩,aH ((l.drop 21).take 4),aH ((l.drop 25).take 4),aH ((l.drop 29).take 4),aH ((l.drop 33).take 8),a,b,c,d⟩
 |_=>none
def kH(l:List UInt8):Option (Sta×List UInt8):=
 match bU 2 l with
 |none=>none
 |some (n,r)=>if n=r.length then(fV r).map fun s=>(s,[])else none
def nD(m:Mg)(l:List UInt8):Fld→Option (Mg×List UInt8)
 | .names=>(fF aN l).map fun p=>({m with names:=p.1},p.2)
 | .aV=>(fF dR l).map fun p=>({m with aV:=p.1},p.2)
 | .qid=>(dR l).map fun p=>({m with qid:=p.1},p.2)
 | .data=>
  match bU 4 l with
  |none=>none
  |some (n,r)=>(gJ n r).map fun p=>({m with data:=p.1},p.2)
 | .stat=>(kH l).map fun p=>({m with stat:=p.1},p.2)
 |f=>if f.isText then(aN l).map fun p=>(m.bV p.1 f,p.2)else(bU f.width l).map fun p=>(m.aG p.1 f,p.2)
def getAll:List Fld→Mg→List UInt8→Option (Mg×List UInt8)
 | [],m,l=>some (m,l)
 |f::fs,m,l=>
  match nD m l f with
  |none=>none
  |some (m,l)=>getAll fs m l
def dec(l:List UInt8):Mg×Nat:=
 if l.length<7∨65536<l.length then(head 0 0,31)else
 if aH (l.take 4)≠l.length then(head 0 0,31)else
 match bQ (aH ((l.drop 4).take 1))with
 |none=>(head (aH ((l.drop 4).take 1)) (aH ((l.drop 5).take 2)),32)
 |some fs=>
  match getAll fs (head (aH ((l.drop 4).take 1)) (aH ((l.drop 5).take 2))) (l.drop 7)with
  |some (m,[])=>(m,0)
  |_=>(head (aH ((l.drop 4).take 1)) (aH ((l.drop 5).take 2)),33)
/-! Lines. -/
def hexD(n:Nat):UInt8:=UInt8.ofNat (if n<10 then 48+n else 87+n)
def jW(c:UInt8):List UInt8:=[hexD (c.toNat/16),hexD (c.toNat%16)]
def ctl(c:UInt8):Bool:=decide (c.toNat<32)||decide (c.toNat=127)
def esc(c:UInt8):Bool:=decide (c.toNat=34)||decide (c.toNat=92)
def dw(c:UInt8):List UInt8:=if esc c then [92,c]else if ctl c then 92::120::jW c else [c]
def Ah(l:List UInt8):List UInt8:=34::(l.flatMap dw++[34])
def bD(s:ByteArray):List UInt8:=Ah s.data.toList
def iG(q:Qd):List UInt8:=decDigits q.kind++46::(decDigits q.vers++46::decDigits q.path)
def rD(s:Sta):List UInt8:=
 [123,116,121,112,101,61]++decDigits s.type++[32,100,101,118,61]++decDigits s.dev++[32,113,105,100,61]++iG s.qid++[32,109,111,100,101,61]++decDigits s.mode++[32,97,116,105,109,101,61]++decDigits s.atime++[32,109,116,105,109,101,61]++decDigits s.mtime++[32,108,101,110,103,116,104,61]++decDigits s.length++[32,110,97,109,101,61]++bD s.name++[32,117,105,100,61]++bD s.uid++[32,103,105,100,61]++bD s.gid++[32,109,117,105,100,61]++bD s.fE++[125]
def iJ(l:List (List UInt8)):List UInt8:=
 match l with
 | []=>[]
 |x::r=>x++r.flatMap fun y=>32::y
def Mg.val(m:Mg):Fld→List UInt8
 | .names=>91::(iJ (m.names.map bD)++[93])
 | .aV=>91::(iJ (m.aV.map iG)++[93])
 | .qid=>iG m.qid
 | .data=>m.data.flatMap jW
 | .stat=>rD m.stat
 |f=>if f.isText then bD (m.txt f)else decDigits (m.num f)
def Mg.part(m:Mg)(f:Fld):List UInt8:=32::(f.word++61::m.val f)
def qA(m:Mg):List UInt8:=
 match bQ m.kind with
 |none=>[]
 |some fs=>if(refused m).1=0 then fO m.kind++32::(decDigits m.tag++fs.flatMap m.part)else []
/-! Reading a line: the part and what stands behind it, or how many bytes stand from the place on at which it is wrong. -/
def iT(c:UInt8):Bool:=decide (48≤c.toNat)&&decide (c.toNat≤57)
def dG(c:UInt8):Bool:=iT c||(decide (97≤c.toNat)&&decide (c.toNat≤102))
def hexV(c:UInt8):Nat:=if c.toNat<58 then c.toNat-48 else c.toNat-87
def dQ(w l:List UInt8):Except Nat (List UInt8):=if w.isPrefixOf l then .ok (l.drop w.length)else .error l.length
def pairs:List UInt8→List UInt8
 |h::k::r=>UInt8.ofNat (hexV h*16+hexV k)::pairs r
 |_=>[]
def unq:List UInt8→Option (List UInt8×List UInt8)
 | []=>none
 |c::r=>
  if c.toNat=34 then some ([],r)else
  if ctl c then none else
  if c.toNat≠92 then(unq r).map fun p=>(c::p.1,p.2)else
  match r with
  | []=>none
  |d::r1=>
   if esc d then(unq r1).map fun p=>(d::p.1,p.2)else
   if d.toNat≠120 then none else
   match r1 with
   |h::k::r2=>if dG h&&dG k&&ctl (UInt8.ofNat (hexV h*16+hexV k))then(unq r2).map fun p=>(UInt8.ofNat (hexV h*16+hexV k)::p.1,p.2)else none
   |_=>none
def eP{α:Type}(one:List UInt8→Except Nat (α×List UInt8)):Nat→Bool→List UInt8→Except Nat (List α×List UInt8)
 |n,first,l=>
  if l.head?=some 93 then .ok ([],l.drop 1)else
  match n with
  |0=> .error l.length
  |n+1=>do
   let l ←if first then pure l else dQ [32] l
   let(x,l) ←one l
   let(xs,l) ←eP one n false l
   return (x::xs,l)
def eU{α:Type}(one:List UInt8→Except Nat (α×List UInt8))(l:List UInt8):Except Nat (List α×List UInt8):=do
 let l ←dQ [91] l
 eP one 16 true l
def most(k:Nat):Nat:=256^k-1
end Go.Proofs.YtkblmloobkiloaaGreatDoor
namespace Go.Proofs.YtkblmloobkiloaaGreatDoor
open Go.Lib (hid)
open Go.RowKit
abbrev aX(l:List UInt8):List Value:=l.map fun c=> .int .u8 (c.toNat:Int)
theorem gy(a b:List UInt8):aX (a++b)=aX a++aX b:=List.map_append
theorem jQ(l:List UInt8):(aX l).length=l.length:=List.length_map ..
theorem sF(l:List UInt8):∀u∈aX l,u.oneCell'=true:=by
 intro u hu
 obtain⟨c, -,rfl⟩:=List.mem_map.1 hu
 rfl
abbrev h_(l:List ByteArray):List Value:=l.map Value.string
theorem JX(l:List ByteArray):∀u∈h_ l,u.oneCell'=true:=by
 intro u hu
 obtain⟨c, -,rfl⟩:=List.mem_map.1 hu
 rfl
abbrev vF(l:List Nat):List Value:=l.map fun n:Nat=> .int .i64 (n:Int)
abbrev nU(q:Qd):List Value:=[.int .u8 (q.kind:Int),.int .u32 (q.vers:Int),.int .u64 (q.path:Int)]
abbrev ng(l:List Qd):List Value:=l.flatMap nU
theorem aa1(l:List Qd):(ng l).length=l.length*3:=by
 induction l with
 |nil=>rfl
 |cons q l ih=>
  show(nU q++ng l).length=_
  rw[List.length_append,ih]
  simp only[List.length_cons,List.length_nil]
  omega
theorem JY(l:List Qd):∀u∈ng l,u.oneCell'=true:=by
 intro u hu
 obtain⟨q, -,hq⟩:=List.mem_flatMap.1 hu
 simp only[nU,List.mem_cons,List.not_mem_nil,or_false]at hq
 rcases hq with rfl|rfl|rfl<;>rfl
theorem mF:(Tryz.prog.info? 5).map (fun i=>(i.zero,i.size,i.bytes))=some (some (.int .u8 0),1,1):=by kernel_rfl
theorem Gq:(Tryz.prog.info? 9).map (fun i=>(i.zero,i.size,i.bytes))=some (some (.string ⟨#[]⟩),1,16):=by kernel_rfl
theorem NC:(Tryz.prog.info? 3).map (fun i=>(i.zero,i.size,i.bytes))=some (some (.int .i64 0),1,8):=by kernel_rfl
theorem BR:(Tryz.prog.info? 37).map (fun i=>(i.zero,i.size,i.bytes))=some (some (.agg #[.int .u8 0,.int .u32 0,.int .u64 0]),3,16):=by kernel_rfl
theorem aJ{w:World}{base n size:Nat}{e:TypeId}{v:Value}{xs:List Value}(h:w.ownsRow base e size v n xs):∃A cap,v= .slice A n cap∧n≤cap∧cap≤maxLen:=by
 rcases h.2 with⟨rfl,rfl⟩|⟨g,cap,cur,rfl,_,_,hc,hm,_⟩
 ·exact⟨none,0,rfl,Nat.le_refl _,Nat.zero_le _⟩
 ·exact⟨_,cap,rfl,hc,hm⟩
theorem dS(w:World)(base:Nat)(e:TypeId)(size:Nat):w.ownsRow base e size (.slice none 0 0) 0 []:=World.ownsRow_nil _ _ _ _
theorem jl{w w':World}{base q n:Nat}{e:TypeId}{size:Nat}{v:Value}{xs:List Value}(h:w.ownsRow base e size v n xs)(hv:v.ownBlock≠some q)(ho:∀i,i<w.heap.size→i≠q→w'.heap[i]? =w.heap[i]?):w'.ownsRow base e size v n xs:=by
 refine⟨h.1, ?_⟩
 rcases h.2 with h0|⟨g,cap,cur,rfl,hb,hg,r⟩
 ·exact .inl h0
 ·refine .inr ⟨g,cap,cur,rfl,hb,(ho g (dP hg) (fun hq=>hv (by rw[hq];rfl))).trans hg,r⟩
theorem fD(w:World)(q i:Nat)(v:Value):∀(j:Nat),j<w.heap.size→j≠q→(w.setCell ⟨q,i,none⟩ v).heap[j]? =w.heap[j]? :=fun _ _ hj=>Below.heap_setCell _ _ _ _ hj
theorem aC(w:World):Below w.heap.size w w.drew:=(Below.refl _ _).drew
def Bys(w:World)(B:Nat)(hv:Value)(l:List UInt8):Prop:=∃A cap,hv= .slice A l.length cap∧l.length≤cap∧cap≤maxLen∧Reads w B 1 A l.length (aX l)
theorem Bys.nil_(w:World)(B:Nat):Bys w B (.slice none 0 0) []:=⟨none,0,rfl,Nat.le_refl _,Nat.zero_le _,Reads.none_⟩
theorem Bys.keep{w w':World}{B:Nat}{hv:Value}{l:List UInt8}(h:Bys w B hv l)(hk:∀p:Addr,p.block<B→w'.cell? p=w.cell? p):Bys w' B hv l:=by
 obtain⟨A,cap,e,h1,h2,h3⟩:=h
 exact⟨A,cap,e,h1,h2,h3.keep hk⟩
theorem Bys.below{w w':World}{B:Nat}{hv:Value}{l:List UInt8}(h:Bys w B hv l)(hb:Below B w w'):Bys w' B hv l:=h.keep fun _ hp=>hb.cell hp
theorem Bys.more{w:World}{B B':Nat}{hv:Value}{l:List UInt8}(h:Bys w B hv l)(hB:B≤B'):Bys w B' hv l:=by
 obtain⟨A,cap,e,h1,h2,h3⟩:=h
 exact⟨A,cap,e,h1,h2,h3.more hB⟩
theorem Bys.iH{w:World}{base:Nat}{hv:Value}{l:List UInt8}{n:Nat}(h:w.ownsRow base 5 1 hv n (aX l)):Bys w w.heap.size hv l:=by
 have hn:n=l.length:=by
  have:=h.1
  simp at this
  exact this.symm
 subst hn
 rcases h.2 with⟨rfl,h0⟩|⟨g,cap,cur,rfl,_,_,hc,hm,_⟩
 ·have:l=[]:=List.eq_nil_of_length_eq_zero h0
  subst this
  exact Bys.nil_ _ _
 ·exact⟨_,cap,rfl,hc,hm,Reads.iH h⟩
theorem jH{w:World}{B:Nat}{hv:Value}{l:List UInt8}(h:Bys w B hv l):(convert 22 9 hv).run Tryz.prog w= .ok (.string (ofL l)) w:=by
 by_cases hl:l=[]
 ·subst hl
  obtain⟨A,cap,rfl, -⟩:=h
  cases A with
  |none=>exact run_convert_bytes_nil (P:=Tryz.prog) (w:=w) 22 5 Tryz.underlying22 Tryz.underlying5 0 cap 9 Tryz.underlying9
  |some ad=>exact run_convert_bytes_back (P:=Tryz.prog) w 22 9 5 ad cap [] Tryz.underlying22 Tryz.underlying5 Tryz.underlying9 (fun j hj=>absurd hj (Nat.not_lt_zero _))
 ·obtain⟨A,cap,rfl,_,_,hr⟩:=h
  have hp:0<l.length:=List.length_pos_iff.2 hl
  obtain⟨ad,rfl,_,hc⟩:=hr.2 hp
  refine run_convert_bytes_back (P:=Tryz.prog) w 22 9 5 ad cap l Tryz.underlying22 Tryz.underlying5 Tryz.underlying9 (fun j hj=>hc j _ ?_)
  rw[List.getElem?_map,List.getElem?_eq_getElem hj]
  rfl
theorem dI(w:World)(t:TypeId)(xs:List Value)(n size:Nat)(hn:xs.length=n*size):Reads (w.alloc (.cells xs.toArray t)) (w.heap.size+1) size (some ⟨w.heap.size,0,none⟩) n xs:=by
 refine⟨hn,fun _=>⟨_,rfl,Nat.lt_succ_self _,fun j u hj=> ?_⟩⟩
 have h:=(Blk.new w t xs.toArray).cell j
 have e:(Addr.mk w.heap.size 0 none).add j=⟨w.heap.size,j,none⟩:=by
  unfold Addr.add
  by_cases h0:j=0<;>simp[h0]
 rw[e,h]
 simpa using hj
section
variable {w:World}
theorem kY{ops:Array Oper}{rest:List Oper}{o:Oper}{a:Act}{Q:Exit→Act→World→Prop}(s x:Operand)(hgd:o.guard=none)
  (ho:o.op= .call {callee:= .builtin .append,args:= #[s,x],argTypes:= #[22,22]})
  (base:Nat) (v:Value) (l:List UInt8) (hs:a.eval s=v) (hown:w.ownsRow base 5 1 v l.length (aX l))
  (B:Nat) (A:Option Addr) (c:Nat) (news:List UInt8) (hx:a.eval x= .slice A news.length c) (hr:Reads w B 1 A news.length (aX news))
  (hlen:l.length+news.length≤140737488355327) (hbase:base≤w.heap.size)
  (h:∀v' w',w'.ownsRow base 5 1 v' (l++news).length (aX (l++news))→w.grownBy w' v.ownBlock→(v'.ownBlock=v.ownBlock∨v'.ownBlock=some w.heap.size)→wpList Tryz.prog ops Q rest (a.put o.dst v') w'):wpList Tryz.prog ops Q (o::rest) a w:=by
 obtain⟨i0,hi0,hz0,hz1,hz2⟩:=info_parts mF
 refine jA w hgd s x _ ho base 5 i0 _ 1 1 Tryz.underlying22 hi0 hz0 hz1 hz2 rfl (by omega) v l.length (aX l) hs hown B A news.length c (aX news) hx hr (sF news) (by unfold maxLen;omega) (by omega) hbase ?_
 intro v' w' h1 h2 h3
 refine h v' w' ?_ h2 h3
 rw[List.length_append,gy]
 exact h1
theorem oQ{ops:Array Oper}{rest:List Oper}{o:Oper}{a:Act}{Q:Exit→Act→World→Prop}(s x:Operand)(hgd:o.guard=none)
  (ho:o.op= .call {callee:= .builtin .append,args:= #[s,x],argTypes:= #[33,33]})
  (base:Nat) (v:Value) (l:List ByteArray) (hs:a.eval s=v) (hown:w.ownsRow base 9 1 v l.length (h_ l))
  (B:Nat) (A:Option Addr) (c:Nat) (news:List ByteArray) (hx:a.eval x= .slice A news.length c) (hr:Reads w B 1 A news.length (h_ news))
  (hlen:l.length+news.length≤8796093022207) (hbase:base≤w.heap.size)
  (h:∀v' w',w'.ownsRow base 9 1 v' (l++news).length (h_ (l++news))→w.grownBy w' v.ownBlock→(v'.ownBlock=v.ownBlock∨v'.ownBlock=some w.heap.size)→wpList Tryz.prog ops Q rest (a.put o.dst v') w'):wpList Tryz.prog ops Q (o::rest) a w:=by
 obtain⟨i0,hi0,hz0,hz1,hz2⟩:=info_parts Gq
 refine jA w hgd s x _ ho base 9 i0 _ 1 16 Tryz.underlying33 hi0 hz0 hz1 hz2 rfl (by omega) v l.length (h_ l) hs hown B A news.length c (h_ news) hx hr (JX news) (by unfold maxLen;omega) (by omega) hbase ?_
 intro v' w' h1 h2 h3
 refine h v' w' ?_ h2 h3
 rw[List.length_append,h_,List.map_append]
 exact h1
theorem PK{ops:Array Oper}{rest:List Oper}{o:Oper}{a:Act}{Q:Exit→Act→World→Prop}(s x:Operand)(hgd:o.guard=none)
  (ho:o.op= .call {callee:= .builtin .append,args:= #[s,x],argTypes:= #[157,157]})
  (base:Nat) (v:Value) (l:List Nat) (hs:a.eval s=v) (hown:w.ownsRow base 3 1 v l.length (vF l))
  (B:Nat) (A:Option Addr) (c:Nat) (news:List Nat) (hx:a.eval x= .slice A news.length c) (hr:Reads w B 1 A news.length (vF news))
  (hlen:l.length+news.length≤8796093022207) (hbase:base≤w.heap.size)
  (h:∀v' w',w'.ownsRow base 3 1 v' (l++news).length (vF (l++news))→w.grownBy w' v.ownBlock→(v'.ownBlock=v.ownBlock∨v'.ownBlock=some w.heap.size)→wpList Tryz.prog ops Q rest (a.put o.dst v') w'):wpList Tryz.prog ops Q (o::rest) a w:=by
 obtain⟨i0,hi0,hz0,hz1,hz2⟩:=info_parts NC
 refine jA w hgd s x _ ho base 3 i0 _ 1 8 Tryz.underlying157 hi0 hz0 hz1 hz2 rfl (by omega) v l.length (vF l) hs hown B A news.length c (vF news) hx hr (fun u hu=>by obtain⟨n, -,rfl⟩:=List.mem_map.1 hu;rfl) (by unfold maxLen;omega) (by omega) hbase ?_
 intro v' w' h1 h2 h3
 refine h v' w' ?_ h2 h3
 rw[List.length_append,vF,List.map_append]
 exact h1
theorem Ai{ops:Array Oper}{rest:List Oper}{o:Oper}{a:Act}{Q:Exit→Act→World→Prop}(s x:Operand)(hgd:o.guard=none)
  (ho:o.op= .call {callee:= .builtin .append,args:= #[s,x],argTypes:= #[34,34]})
  (base:Nat) (v:Value) (l:List Qd) (hs:a.eval s=v) (hown:w.ownsRow base 37 3 v l.length (ng l))
  (B:Nat) (A:Option Addr) (c:Nat) (news:List Qd) (hx:a.eval x= .slice A news.length c) (hr:Reads w B 3 A news.length (ng news))
  (hlen:l.length+news.length≤8796093022207) (hbase:base≤w.heap.size)
  (h:∀v' w',w'.ownsRow base 37 3 v' (l++news).length (ng (l++news))→w.grownBy w' v.ownBlock→(v'.ownBlock=v.ownBlock∨v'.ownBlock=some w.heap.size)→wpList Tryz.prog ops Q rest (a.put o.dst v') w'):wpList Tryz.prog ops Q (o::rest) a w:=by
 obtain⟨i0,hi0,hz0,hz1,hz2⟩:=info_parts BR
 refine jA w hgd s x _ ho base 37 i0 _ 3 16 Tryz.underlying34 hi0 hz0 hz1 hz2 rfl (by omega) v l.length (ng l) hs hown B A news.length c (ng news) hx hr (JY news) (by unfold maxLen;omega) (by omega) hbase ?_
 intro v' w' h1 h2 h3
 refine h v' w' ?_ h2 h3
 rw[List.length_append,ng,List.flatMap_append]
 exact h1
end
structure Off(S:Nat→Prop)(w w':World):Prop where
 os:w'.os=w.os
 tape:w'.tape=w.tape
 output:w'.output=w.output
 size:w.heap.size≤w'.heap.size
 block:∀k,k<w.heap.size→¬S k→w'.heap[k]? =w.heap[k]?
section
variable {S S':Nat→Prop} {a b c w w':World} {B:Nat}
theorem Off.refl(S:Nat→Prop)(w:World):Off S w w:=⟨rfl,rfl,rfl,Nat.le_refl _,fun _ _ _=>rfl⟩
theorem Off.trans(h:Off S a b)(k:Off S b c):Off S a c:=
 ⟨k.os.trans h.os,k.tape.trans h.tape,k.output.trans h.output,Nat.le_trans h.size k.size,fun i hi hs=>(k.block i (Nat.lt_of_lt_of_le hi h.size) hs).trans (h.block i hi hs)⟩
theorem Off.mono(h:Off S a b)(hs:∀k,k<a.heap.size→S k→S' k):Off S' a b:=⟨h.os,h.tape,h.output,h.size,fun i hi hn=>h.block i hi fun hh=>hn (hs i hi hh)⟩
theorem Off.below(h:Off S a b)(hS:∀k,S k→B≤k)(hB:B≤a.heap.size):Below B a b:=⟨h.os,h.tape,h.output,h.size,fun k hk=>h.block k (Nat.lt_of_lt_of_le hk hB) fun hs=>Nat.lt_irrefl _ (Nat.lt_of_lt_of_le hk (hS k hs))⟩
theorem Off.of_below(h:Below a.heap.size a b):Off S a b:=⟨h.os,h.tape,h.output,h.size,fun k hk _=>h.block k hk⟩
theorem Off.drew(h:Off S a b):Off S a b.drew:=⟨h.os,h.tape,h.output,h.size,h.block⟩
theorem Off.alloc(h:Off S a b)(o:Obj):Off S a (b.alloc o):=h.trans (Off.of_below ((Below.refl _ _).alloc (Nat.le_refl _) o))
theorem Off.setCell(h:Off S a b){p:Addr}(hp:S p.block)(u:Value):Off S a (b.setCell p u):=
 h.trans ⟨rfl,rfl,rfl,by simp[World.setCell],fun _ _ hn=>Below.heap_setCell _ _ _ _ (fun hh=>hn (by rw[hh];exact hp))⟩
theorem Off.blk{g:Nat}{t:TypeId}{cs:Array Value}(h:Off S a b)(hg:Blk a g t cs)(hn:¬S g):Blk b g t cs:=(h.block g hg.lt hn).trans hg
theorem Off.own{base n size:Nat}{e:TypeId}{v:Value}{xs:List Value}(h:Off S a b)(ho:a.ownsRow base e size v n xs)(hn:∀k,v.ownBlock=some k→¬S k):b.ownsRow base e size v n xs:=by
 refine⟨ho.1, ?_⟩
 rcases ho.2 with h0|⟨g,cap,cur,rfl,hb,hg,r⟩
 ·exact .inl h0
 ·exact .inr ⟨g,cap,cur,rfl,hb,(h.block g (dP hg) (hn g rfl)).trans hg,r⟩
end
end Go.Proofs.YtkblmloobkiloaaGreatDoor
namespace Go.Proofs.YtkblmloobkiloaaGreatDoor
open Go.Lib (hid)
open Go.Lib (decDigits)
theorem bK:∀(k n:Nat),(le k n).length=k
 |0,_=>rfl
 |k+1,n=>by rw[le,List.length_cons,bK k]
theorem iK(n:Nat)(h:n<256):(UInt8.ofNat n).toNat=n:=by
 rw[UInt8.toNat_ofNat'];omega
theorem nH(q:Qd):(kR q).length=13:=by simp[kR,bK]
theorem kJ{n:Nat}(a b:List UInt8)(h:a.length=n):(a++b).drop n=b:=by rw[←h,List.drop_left]
section
variable {α:Type} {one:List UInt8→Option (α×List UInt8)} {put:α→List UInt8} {ok:α→Prop}
end
theorem ji(s:ByteArray):(fP s).length=2+s.size:=by unfold fP;rw[List.length_append,bK,Array.length_toList];rfl
theorem pW(s:Sta):(kX s).length=dY s:=by
 simp only[kX,List.length_append,bK,nH,ji,dY];omega
def qN(s:Sta):List UInt8:=le 2 (dY s-2)++(le 2 s.type++(le 4 s.dev++(le 1 s.qid.kind++(le 4 s.qid.vers++(le 8 s.qid.path++(le 4 s.mode++(le 4 s.atime++(le 4 s.mtime++le 8 s.length))))))))
theorem JZ(s:Sta):(qN s).length=41:=by simp[qN,bK]
theorem BX(s:Sta):kX s=qN s++(fP s.name++(fP s.uid++(fP s.gid++fP s.fE))):=by
 simp only[kX,qN,kR,List.append_assoc]
end Go.Proofs.YtkblmloobkiloaaGreatDoor
