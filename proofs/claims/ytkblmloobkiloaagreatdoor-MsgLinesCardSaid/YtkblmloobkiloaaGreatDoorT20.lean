/-
  MP4 MP5: what the laws of package msg need of them.
-/
import Derived.Test.YtkblmloobkiloaaGreatDoorT00
import Derived.Test.YtkblmloobkiloaaGreatDoorT19
import Derived.Test.YtkblmloobkiloaaGreatDoorT15
set_option maxRecDepth 100000
set_option maxHeartbeats 6400000
namespace Go.Proofs.YtkblmloobkiloaaGreatDoor
open Go.Lib (hid)
open Go.RowKit
theorem jU{most v:Nat}{l r:List UInt8}(h:fZ most l= .ok (v,r)):v≤most:=by
 unfold fZ at h
 dsimp only at h
 split at h
 ·cases h
 ·rename_i hn
  injection h with h
  injection h with h1 h2
  rw[←h1]
  rcases Nat.lt_or_ge most (mZ (l.takeWhile iT))with h3|h3
  ·exact absurd (.inr (.inr h3)) hn
  ·exact h3
theorem dW.no{α:Type}{p:Nat}{s:ByteArray}{V:α→Ending→World→Prop}{r:Except Nat (α×List UInt8)}{w w':World}{n:Nat}(hr:r= .error n)(ho:Off (fun i=>i=p) w w'):dW p s V r w (.panicked [{v:= .iface 111 (.int .i64 ((s.size:Int)-(n:Int))),recovered:=false}]) w':=by
 subst hr
 exact⟨ho,rfl⟩
theorem zD(w:World){b o c i:Nat}{v u:Value}(_:Nat)(_:Nat)(h:(w.setCell ⟨c,i,none⟩ v).cell? ⟨b,o,none⟩=some u)(hne:o≠i):w.cell? ⟨b,o,none⟩=some u:=by
 rw[World.cell?_setCell_other _ _ _ _ (by simp[hne])]at h
 exact h
theorem qX(w:World)(b i:Nat)(v:Value){a:Addr}:(w.setCell ⟨b,i,none⟩ v).frozen? a=w.frozen? a:=by simp
abbrev zF:Qd→Ending→World→Prop:=fun q e _=>e= .returned (qdV q)
theorem mV{w:World}{p:Nat}{s:ByteArray}{at_:Nat}(hse:SE w)(h8:8≤p)(h:ScS w p s at_):
  Calls Tryz.prog 178 #[.pointer (some ⟨p,0,none⟩)] w (dW p s zF (gW (s.data.toList.drop at_)) w):=by
 obtain⟨wq,hwq⟩:∃wq,wq=w.alloc (.cells #[.int .u8 0,.int .u32 0,.int .u64 0] 37):=⟨_,rfl⟩
 have oz:Below w.heap.size w wq:=by rw[hwq];exact(Below.refl _ _).alloc (Nat.le_refl _) _
 have LH:wq.heap.size=w.heap.size+1:=by rw[hwq];exact World.size_alloc _ _
 obtain⟨w0,hw0⟩:∃w0,w0=wq.alloc (.cells #[.int .u8 0,.int .u32 0,.int .u64 0] 37):=⟨_,rfl⟩
 have hup0:Below wq.heap.size wq w0:=by rw[hw0];exact(Below.refl _ _).alloc (Nat.le_refl _) _
 have HZ:=hid (show Blk w0 w.heap.size 37 #[.int .u8 0,.int .u32 0,.int .u64 0]from by rw[hw0,hwq];exact(Blk.new w _ _).alloc _)
 have HF:=hid (show Blk w0 (w.heap.size+1) 37 #[.int .u8 0,.int .u32 0,.int .u64 0]from by rw[←LH,hw0];exact Blk.new wq _ _)
 have hb:=oz.trans (hup0.mono (by omega))
 have HS:=hid (h.below hb)
 have HO:=hid (show Off (fun i=>i=p∨w.heap.size≤i) w w0 from Off.of_below hb)
 have HPZ:=hid (show p<w.heap.size∧8≤p from⟨Blk.lt h.1,h8⟩)
 have HSE:=hid hse
 have HSS:=hid h.2.2
 clear h hse h8 oz hup0 LH hb
 go_enter Tryz.func178,Tryz.ntmps178
 go_upto_region 2 with(fail)
 change Code.wp _ _ _ _ ((w.alloc (.cells #[.int .u8 0,.int .u32 0,.int .u64 0] 37)).alloc (.cells #[.int .u8 0,.int .u32 0,.int .u64 0] 37))
 rw[←hwq,←hw0]
 clear hwq hw0
 generalize hz:w.heap.size=z at HZ HF HO HPZ⊢
 have HZZ:=hid hz;clear hz
 obtain⟨L,hL⟩:∃L,L=s.data.toList.drop at_:=⟨_,rfl⟩
 have HL:=hid hL;clear hL
 go_wp2_with fail
 refine(dO 255 (by decide) (HSE.out.low (HO.out.below (B:=8) (fun i hi=>by have:=HPZ.out;omega) (by have:=HPZ.out;have:=HZZ.out;omega)) (Nat.le_refl 8)) HPZ.out.2 (by have:=Blk.lt HZ.out;have:=HPZ.out;omega) HS.out).mono ?_
 rw[show s.data.toList.drop at_=L from HL.out.symm]
 rintro e w1 ⟨ho,hr⟩
 have HO1:=hid (HO.out.trans ho.toN)
 have HZ1:=hid (ho.blk HZ.out (by have:=HPZ.out;omega))
 have HF1:=hid (ho.blk HF.out (by have:=HPZ.out;omega))
 clear ho
 cases hp:fZ 255 L with
 |error n=>
  rw[hp]at hr
  have HR:=hid (show gW L= .error n from by
   unfold gW
   simp only[hp,bC]
   rfl)
  have hr:e=d_ _:=hr
  subst hr
  unfold d_
  clear hp
  go_wp2_with fail
  refine⟨rfl, ?_⟩
  have HN:=dW.no (V:=zF) (s:=s) HR.out (HO1.out.toR (by have:=HZZ.out;omega))
  first|exact HN|(rw[←HL.out];exact HN)
 |ok x=>
  obtain⟨x0,l0⟩:=x
  rw[hp]at hr
  obtain⟨he,a0,hs,hd⟩:=hr
  have he:e= .returned (.int .u64 (x0:Int)):=he
  subst he
  have HE0:=hid hp
  have HV0:=hid (jU hp)
  have HS1:=hid hs
  have HD0:=hid hd
  clear hp hs hd
  have hwv:IntKind.u8.wrap (x0:Int)=(x0:Int):=by have:=HV0.out;rw[IntKind.wrap_u8];omega
  have ks:w1.cell? ⟨z+1,0,none⟩=some (.int .u8 0):=HF1.out.cell 0
  have fs:w1.frozen? ⟨z+1,0,none⟩=false:=HF1.out.frozen 0
  have HF2:=hid (show Blk (w1.setCell ⟨z+1,0,none⟩ (.int .u8 (x0:Int))) (z+1) 37 #[.int .u8 (x0:Int),.int .u32 0,.int .u64 0]from HF1.out.aW 0 (.int .u8 (x0:Int)))
  have hso:=fun(S:Nat→Prop) (hS:S (z+1))=>(Off.refl S w1).setCell (p:=⟨z+1,0,none⟩) hS (.int .u8 (x0:Int))
  have HS2:=hid (HS1.out.off (hso (fun i=>i=z+1) rfl) (by have:=HPZ.out;omega))
  have HZ2:=hid ((hso (fun i=>i=z+1) rfl).blk HZ1.out (by omega))
  have HO2:=hid (HO1.out.trans (hso _ (.inr (Nat.le_succ _))))
  clear hso HF1 HS1 HZ1 HO1
  go_wp2_with fail
  clear ks fs hwv
  generalize w1.setCell ⟨z+1,0,none⟩ (.int .u8 (x0:Int))=w2 at HF2 HS2 HZ2 HO2⊢
  refine(dK ⟨#[46]⟩ HS2.out).mono ?_
  rw[show s.data.toList.drop a0=l0 from HD0.out]
  rintro e w3 ⟨ho,hr⟩
  have HO3:=hid (HO2.out.trans ho.toN)
  have HZ3:=hid (ho.blk HZ2.out (by have:=HPZ.out;omega))
  have HF3:=hid (ho.blk HF2.out (by have:=HPZ.out;omega))
  clear ho
  rw[show(⟨#[46]⟩:ByteArray).data.toList=[46]from rfl]at hr
  cases hp:dQ [46] l0 with
  |error n=>
   rw[hp]at hr
   have HR:=hid (show gW L= .error n from by
    unfold gW
    simp only[HE0.out,hp,bC]
    rfl)
   have hr:e=d_ _:=hr
   subst hr
   unfold d_
   clear hp
   go_wp2_with fail
   refine⟨rfl, ?_⟩
   have HN:=dW.no (V:=zF) (s:=s) HR.out (HO3.out.toR (by have:=HZZ.out;omega))
   first|exact HN|(rw[←HL.out];exact HN)
  |ok x1_=>
   rw[hp]at hr
   obtain⟨he,a1,hs,hd⟩:=hr
   have he:e= .returned (.tuple #[]):=he
   subst he
   have HE1:=hid hp
   have HS3:=hid hs
   have HD1:=hid hd
   clear hp hs hd
   go_wp2_with fail
   refine(dO 4294967295 (by decide) (HSE.out.low (HO3.out.below (B:=8) (fun i hi=>by have:=HPZ.out;omega) (by have:=HPZ.out;have:=HZZ.out;omega)) (Nat.le_refl 8)) HPZ.out.2 (by have:=Blk.lt HZ3.out;have:=HPZ.out;omega) HS3.out).mono ?_
   rw[show s.data.toList.drop a1=x1_ from HD1.out]
   rintro e w4 ⟨ho,hr⟩
   have HO4:=hid (HO3.out.trans ho.toN)
   have HZ4:=hid (ho.blk HZ3.out (by have:=HPZ.out;omega))
   have HF4:=hid (ho.blk HF3.out (by have:=HPZ.out;omega))
   clear ho
   cases hp:fZ 4294967295 x1_ with
   |error n=>
    rw[hp]at hr
    have HR:=hid (show gW L= .error n from by
     unfold gW
     simp only[HE0.out,HE1.out,hp,bC]
     rfl)
    have hr:e=d_ _:=hr
    subst hr
    unfold d_
    clear hp
    go_wp2_with fail
    refine⟨rfl, ?_⟩
    have HN:=dW.no (V:=zF) (s:=s) HR.out (HO4.out.toR (by have:=HZZ.out;omega))
    first|exact HN|(rw[←HL.out];exact HN)
   |ok x=>
    obtain⟨x1,l2⟩:=x
    rw[hp]at hr
    obtain⟨he,a2,hs,hd⟩:=hr
    have he:e= .returned (.int .u64 (x1:Int)):=he
    subst he
    have HE2:=hid hp
    have HV2:=hid (jU hp)
    have HS4:=hid hs
    have HD2:=hid hd
    clear hp hs hd
    have hwv:IntKind.u32.wrap (x1:Int)=(x1:Int):=by have:=HV2.out;rw[IntKind.wrap_u32];omega
    have ks:w4.cell? ⟨z+1,1,none⟩=some (.int .u32 0):=HF4.out.cell 1
    have fs:w4.frozen? ⟨z+1,1,none⟩=false:=HF4.out.frozen 1
    have HF5:=hid (show Blk (w4.setCell ⟨z+1,1,none⟩ (.int .u32 (x1:Int))) (z+1) 37 #[.int .u8 (x0:Int),.int .u32 (x1:Int),.int .u64 0]from HF4.out.aW 1 (.int .u32 (x1:Int)))
    have hso:=fun(S:Nat→Prop) (hS:S (z+1))=>(Off.refl S w4).setCell (p:=⟨z+1,1,none⟩) hS (.int .u32 (x1:Int))
    have HS5:=hid (HS4.out.off (hso (fun i=>i=z+1) rfl) (by have:=HPZ.out;omega))
    have HZ5:=hid ((hso (fun i=>i=z+1) rfl).blk HZ4.out (by omega))
    have HO5:=hid (HO4.out.trans (hso _ (.inr (Nat.le_succ _))))
    clear hso HF4 HS4 HZ4 HO4
    go_wp2_with fail
    clear ks fs hwv
    generalize w4.setCell ⟨z+1,1,none⟩ (.int .u32 (x1:Int))=w5 at HF5 HS5 HZ5 HO5⊢
    refine(dK ⟨#[46]⟩ HS5.out).mono ?_
    rw[show s.data.toList.drop a2=l2 from HD2.out]
    rintro e w6 ⟨ho,hr⟩
    have HO6:=hid (HO5.out.trans ho.toN)
    have HZ6:=hid (ho.blk HZ5.out (by have:=HPZ.out;omega))
    have HF6:=hid (ho.blk HF5.out (by have:=HPZ.out;omega))
    clear ho
    rw[show(⟨#[46]⟩:ByteArray).data.toList=[46]from rfl]at hr
    cases hp:dQ [46] l2 with
    |error n=>
     rw[hp]at hr
     have HR:=hid (show gW L= .error n from by
      unfold gW
      simp only[HE0.out,HE1.out,HE2.out,hp,bC]
      rfl)
     have hr:e=d_ _:=hr
     subst hr
     unfold d_
     clear hp
     go_wp2_with fail
     refine⟨rfl, ?_⟩
     have HN:=dW.no (V:=zF) (s:=s) HR.out (HO6.out.toR (by have:=HZZ.out;omega))
     first|exact HN|(rw[←HL.out];exact HN)
    |ok x3_=>
     rw[hp]at hr
     obtain⟨he,a3,hs,hd⟩:=hr
     have he:e= .returned (.tuple #[]):=he
     subst he
     have HE3:=hid hp
     have HS6:=hid hs
     have HD3:=hid hd
     clear hp hs hd
     go_wp2_with fail
     refine(dO 18446744073709551615 (by decide) (HSE.out.low (HO6.out.below (B:=8) (fun i hi=>by have:=HPZ.out;omega) (by have:=HPZ.out;have:=HZZ.out;omega)) (Nat.le_refl 8)) HPZ.out.2 (by have:=Blk.lt HZ6.out;have:=HPZ.out;omega) HS6.out).mono ?_
     rw[show s.data.toList.drop a3=x3_ from HD3.out]
     rintro e w7 ⟨ho,hr⟩
     have HO7:=hid (HO6.out.trans ho.toN)
     have HZ7:=hid (ho.blk HZ6.out (by have:=HPZ.out;omega))
     have HF7:=hid (ho.blk HF6.out (by have:=HPZ.out;omega))
     clear ho
     cases hp:fZ 18446744073709551615 x3_ with
     |error n=>
      rw[hp]at hr
      have HR:=hid (show gW L= .error n from by
       unfold gW
       simp only[HE0.out,HE1.out,HE2.out,HE3.out,hp,bC]
       rfl)
      have hr:e=d_ _:=hr
      subst hr
      unfold d_
      clear hp
      go_wp2_with fail
      refine⟨rfl, ?_⟩
      have HN:=dW.no (V:=zF) (s:=s) HR.out (HO7.out.toR (by have:=HZZ.out;omega))
      first|exact HN|(rw[←HL.out];exact HN)
     |ok x=>
      obtain⟨x2,l4⟩:=x
      rw[hp]at hr
      obtain⟨he,a4,hs,hd⟩:=hr
      have he:e= .returned (.int .u64 (x2:Int)):=he
      subst he
      have HE4:=hid hp
      have HV4:=hid (jU hp)
      have HS7:=hid hs
      have HD4:=hid hd
      clear hp hs hd
      have hwv:IntKind.u64.wrap (x2:Int)=(x2:Int):=by have:=HV4.out;rw[IntKind.wrap_u64];omega
      have ks:w7.cell? ⟨z+1,2,none⟩=some (.int .u64 0):=HF7.out.cell 2
      have fs:w7.frozen? ⟨z+1,2,none⟩=false:=HF7.out.frozen 2
      have HF8:=hid (show Blk (w7.setCell ⟨z+1,2,none⟩ (.int .u64 (x2:Int))) (z+1) 37 #[.int .u8 (x0:Int),.int .u32 (x1:Int),.int .u64 (x2:Int)]from HF7.out.aW 2 (.int .u64 (x2:Int)))
      have hso:=fun(S:Nat→Prop) (hS:S (z+1))=>(Off.refl S w7).setCell (p:=⟨z+1,2,none⟩) hS (.int .u64 (x2:Int))
      have HS8:=hid (HS7.out.off (hso (fun i=>i=z+1) rfl) (by have:=HPZ.out;omega))
      have HZ8:=hid ((hso (fun i=>i=z+1) rfl).blk HZ7.out (by omega))
      have HO8:=hid (HO7.out.trans (hso _ (.inr (Nat.le_succ _))))
      clear hso HF7 HS7 HZ7 HO7
      have kf0:w7.cell? ⟨z+1,0,none⟩=some (.int .u8 (x0:Int)):=zD w7 0 0 (HF8.out.cell 0) (by decide)
      have kf1:w7.cell? ⟨z+1,1,none⟩=some (.int .u32 (x1:Int)):=zD w7 0 0 (HF8.out.cell 1) (by decide)
      have hzz:z≠z+1:=by omega
      have kz0:w7.cell? ⟨z,0,none⟩=some (.int .u8 0):=(cell_far w7 hzz _).symm.trans (HZ8.out.cell 0)
      have kz1:w7.cell? ⟨z,1,none⟩=some (.int .u32 0):=(cell_far w7 hzz _).symm.trans (HZ8.out.cell 1)
      have kz2:w7.cell? ⟨z,2,none⟩=some (.int .u64 0):=(cell_far w7 hzz _).symm.trans (HZ8.out.cell 2)
      have fz0:w7.frozen? ⟨z,0,none⟩=false:=(qX w7 _ _ _).symm.trans (HZ8.out.frozen 0)
      have fz1:w7.frozen? ⟨z,1,none⟩=false:=(qX w7 _ _ _).symm.trans (HZ8.out.frozen 1)
      have fz2:w7.frozen? ⟨z,2,none⟩=false:=(qX w7 _ _ _).symm.trans (HZ8.out.frozen 2)
      have hso:=fun(S:Nat→Prop) (hS:S z)=>(((Off.refl S (w7.setCell ⟨z+1,2,none⟩ (.int .u64 (x2:Int)))).setCell (p:=⟨z,0,none⟩) hS (.int .u8 (x0:Int))).setCell (p:=⟨z,1,none⟩) hS (.int .u32 (x1:Int))).setCell (p:=⟨z,2,none⟩) hS (.int .u64 (x2:Int))
      have HZX:=hid (show Blk ((((w7.setCell ⟨z+1,2,none⟩ (.int .u64 (x2:Int))).setCell ⟨z,0,none⟩ (.int .u8 (x0:Int))).setCell ⟨z,1,none⟩ (.int .u32 (x1:Int))).setCell ⟨z,2,none⟩ (.int .u64 (x2:Int))) z 37 #[.int .u8 (x0:Int),.int .u32 (x1:Int),.int .u64 (x2:Int)]from((HZ8.out.aW 0 (.int .u8 (x0:Int))).aW 1 (.int .u32 (x1:Int))).aW 2 (.int .u64 (x2:Int)))
      have HOX:=hid (HO8.out.trans (hso _ (.inr (Nat.le_refl _))))
      have HSX:=hid (HS8.out.off (hso (fun i=>i=z) rfl) (by have:=HPZ.out;omega))
      have HR:=hid (show gW L= .ok (⟨x0,x1,x2⟩,l4)from by
       unfold gW
       simp only[HE0.out,HE1.out,HE2.out,HE3.out,HE4.out,bC]
       rfl)
      clear hso hzz
      go_wp2_with fail
      clear ks fs kf0 kf1 kz0 kz1 kz2 fz0 fz1 fz2
      generalize(((w7.setCell ⟨z+1,2,none⟩ (.int .u64 (x2:Int))).setCell ⟨z,0,none⟩ (.int .u8 (x0:Int))).setCell ⟨z,1,none⟩ (.int .u32 (x1:Int))).setCell ⟨z,2,none⟩ (.int .u64 (x2:Int))=wz at HZX HOX HSX⊢
      refine bodyPost_ret (bf (l:=[.int .u8 (x0:Int),.int .u32 (x1:Int),.int .u64 (x2:Int)]) rfl Tryz.underlying37 rfl rU rfl HZX.out) rfl ?_
      rw[←HL.out]
      refine⟨HOX.out.toR (by have:=HZZ.out;omega), ?_⟩
      rw[HR.out]
      exact⟨rfl,_,HSX.out,HD4.out⟩
theorem LJ:∀i:Fin 256,dG (UInt8.ofNat i.val)=true→Lib.indexByte [48,49,50,51,52,53,54,55,56,57,97,98,99,100,101,102] (UInt8.ofNat i.val)=(hexV (UInt8.ofNat i.val):Int)∧hexV (UInt8.ofNat i.val)<16:=by decide
theorem rW(c:UInt8)(h:dG c=true):Lib.indexByte [48,49,50,51,52,53,54,55,56,57,97,98,99,100,101,102] c=(hexV c:Int)∧hexV c<16:=by
 have h1:=LJ ⟨c.toNat,c.toNat_lt⟩
 simp only[UInt8.ofNat_toNat]at h1
 exact h1 h
theorem mW(c:UInt8)(h:dG c=true)(w:World):Calls Tryz.prog 206 #[.int .u8 (c.toNat:Int)] w fun e w'=>e= .returned (.int .u8 (hexV c:Int))∧w=w':=by
 obtain⟨h1,h2⟩:=rW c h
 have HC:=hid (Tryz.strings_IndexByte ⟨#[48,49,50,51,52,53,54,55,56,57,97,98,99,100,101,102]⟩ (c.toNat:Int) w)
 have HI:=hid (show Lib.indexByte (⟨#[48,49,50,51,52,53,54,55,56,57,97,98,99,100,101,102]⟩:ByteArray).data.toList ((c.toNat:Int).toNat.toUInt8)=(hexV c:Int)from by
  rw[show((c.toNat:Int).toNat.toUInt8)=c from by simp]
  exact h1)
 clear h h1
 go_enter Tryz.func206,Tryz.ntmps206
 go_wp2_with fail
 refine HC.out.mono ?_
 rintro e w' ⟨rfl,rfl⟩
 rw[HI.out]
 go_wp2_with fail
 go_ret
 exact⟨rfl,rfl⟩
theorem Fv:∀a b:Fin 16,bits .or .u8 ((a.val:Int)*16) (b.val:Int)=((a.val*16+b.val:Nat):Int):=by decide
theorem LK(a b:Nat)(ha:a<16)(hb:b<16):bits .or .u8 ((a:Int)*16) (b:Int)=((a*16+b:Nat):Int):=Fv ⟨a,ha⟩ ⟨b,hb⟩
theorem xH:∀(k:Nat) (l:List UInt8) (h c:UInt8),l[2*k]? =some h→l[2*k+1]? =some c→pairs (l.take (2*(k+1)))=pairs (l.take (2*k))++[UInt8.ofNat (hexV h*16+hexV c)]
 |0,l,h,c,h1,h2=>by
  match l,h1,h2 with
  |a::b::r,h1,h2=>
   simp at h1 h2
   subst h1 h2
   rfl
  | [a],_,h2=>simp at h2
  | [],h1,_=>simp at h1
 |k+1,l,h,c,h1,h2=>by
  match l,h1,h2 with
  |a::b::r,h1,h2=>
   have e1:r[2*k]? =some h:=by rw[show 2*(k+1)=2*k+1+1 by omega]at h1;simpa using h1
   have e2:r[2*k+1]? =some c:=by rw[show 2*(k+1)+1=2*k+1+1+1 by omega]at h2;simpa using h2
   have ih:=xH k r h c e1 e2
   rw[show 2*(k+1+1)=2*(k+1)+1+1 by omega,show 2*(k+1)=2*k+1+1 by omega,List.take_succ_cons,List.take_succ_cons,List.take_succ_cons,List.take_succ_cons,pairs,pairs]
   rw[show 2*k+1+1=2*(k+1) by omega,ih]
   rfl
  | [a],_,h2=>simp at h2
  | [],h1,_=>simp at h1
theorem LM{ops:Array Oper}{o:Oper}{a:Act}{w:World}{K:Act→World→Prop}{Q:Exit→Act→World→Prop}{E:Prop}(s x:Operand)(hgd:o.guard=none)
  (ho:o.op= .call {callee:= .builtin .append,args:= #[s,x],argTypes:= #[22,22]})
  (base:Nat) (v:Value) (l:List UInt8) (hs:a.eval s=v) (hown:w.ownsRow base 5 1 v l.length (aX l))
  (B:Nat) (A:Option Addr) (c:Nat) (news:List UInt8) (hx:a.eval x= .slice A news.length c) (hr:Reads w B 1 A news.length (aX news)) (hlen:l.length+news.length≤140737488355327) (hbase:base≤w.heap.size)
  (h:∀v' w',w'.ownsRow base 5 1 v' (l++news).length (aX (l++news))→w.grownBy w' v.ownBlock→K (a.put o.dst v') w'):
  if Region.wanted o (yielded ops a.tmps)=true then Oper.wp Tryz.prog o a w K Q else E:=by
 obtain⟨i0,hi0,hz0,hz1,hz2⟩:=info_parts mF
 refine oJ w hgd _ x _ ho base 5 i0 _ 1 1 Tryz.underlying22 hi0 hz0 hz1 hz2 rfl (by omega) v l.length (aX l) hs hown B A news.length c (aX news) hx hr (sF news) (by unfold maxLen;omega) (by omega) hbase ?_
 intro v' w' h1 h2 _
 refine h v' w' ?_ h2
 rw[List.length_append,gy]
 exact h1
theorem zG:∀(l:List UInt8) (n:Nat),l.length≤n→(pairs l).length≤n
 |a::b::r,n,h=>by
  have h':r.length+1+1≤n:=h
  have:=zG r (n-2) (by omega)
  rw[pairs,List.length_cons]
  omega
 | [_],_,_=>Nat.zero_le _
 | [],_,_=>Nat.zero_le _
abbrev VA(base:Nat):List UInt8→Ending→World→Prop:=fun x e w'=>∃v,e= .returned v∧w'.ownsRow base 5 1 v x.length (aX x)
theorem Fz{w:World}{p:Nat}{s:ByteArray}{at_:Nat}(h:ScS w p s at_):
  Calls Tryz.prog 169 #[.pointer (some ⟨p,0,none⟩)] w (dW p s (VA w.heap.size) (nG (s.data.toList.drop at_)) w):=by
 have hent:=au (k:=205) Tryz.func205 (by kernel_rfl) rfl
 have HR:=hid (tq dG hent kG h)
 have HZ:=hid h.2
 have k1:w.cell? ⟨p,1,none⟩=some (.int .i64 (at_:Int)):=h.1.cell 1
 have HPL:=hid (Blk.lt h.1)
 clear h hent
 go_enter Tryz.func169,Tryz.ntmps169
 go_wp2_with fail
 refine HR.out.mono ?_
 rintro e w1 ⟨rfl,hs,ho⟩
 have HS1:=hid hs
 have HO1:=hid ho
 clear hs ho k1 HR
 obtain⟨l,hl⟩:∃l,l=s.data.toList.drop at_:=⟨_,rfl⟩
 rw[←hl]at HS1⊢
 have hll:l.length=s.size-at_:=by rw[hl,List.length_drop,Array.length_toList];rfl
 have HL:=hid hl
 obtain⟨D,hD⟩:∃D,D=l.takeWhile dG:=⟨_,rfl⟩
 rw[←hD]at HS1⊢
 have HDD:=hid (show D.all dG=true from by rw[hD];exact LD _ _)
 have hdl:D.length≤l.length:=by rw[hD];exact LG _ _
 have HPN:=hid (show nG l=if D.length%2=1 then .error l.length else .ok (pairs D,l.drop D.length)from by rw[hD];rfl)
 have Bq:=hid (show((s.size:Int)-(l.length:Int))=(at_:Int)from by have:=HZ.out;omega)
 obtain⟨X,hX⟩:∃X,X=ofL D:=⟨_,rfl⟩
 have hXs:X.size=D.length:=by rw[hX,dU]
 have HXL:=hid (show X.data.toList=D from by rw[hX];simp[ofL])
 have hdz:D.length≤16777216:=by have:=HZ.out;omega
 rw[←hX]
 clear hX hD hl
 by_cases hodd:D.length%2=1
 ·have HP:=hid (show nG l= .error l.length from by rw[HPN.out,if_pos hodd])
  have hm:((X.size:Int)%2 != 0)=true:=by rw[bne_iff_ne];omega
  have hm2:(((D.length:Nat):Int)%2 != 0)=true:=by rw[bne_iff_ne];omega
  go_wp2_with fail
  refine⟨rfl,HO1.out, ?_⟩
  rw[←HL.out,HP.out]
  show _=d_ _
  rw[Bq.out]
  rfl
 ·have HP:=hid (show nG l= .ok (pairs D,l.drop D.length)from by rw[HPN.out,if_neg hodd])
  have hm:((X.size:Int)%2 != 0)=false:=by rw[bne_eq_false_iff_eq];omega
  have hm2:(((D.length:Nat):Int)%2 != 0)=false:=by rw[bne_eq_false_iff_eq];omega
  have HEV:=hid hodd
  clear hodd
  go_upto_region 7 with(fail)
  clear hm hm2
  go_loopw [5,6] (fun v i wr=>∃k j:Nat,j=2*k∧j≤D.length∧i= .int .i64 (j:Int)∧wr.ownsRow w1.heap.size 5 1 v (pairs (D.take j)).length (aX (pairs (D.take j)))∧Below w1.heap.size w1 wr) (fun _ i _=>D.length-(intOf i).toNat)
  case atStart=>exact⟨0,0,rfl,by omega,rfl,dS _ _ _ _,Below.refl _ _⟩
  case round=>
   obtain⟨k,j,hjk,hk,rfl,hv,hb⟩:=hrel
   have HJK:=hid hjk;clear hjk
   have HV:=hid hv;clear hv
   have HBR:=hid hb;clear hb
   by_cases hlt:j<D.length
   ·have hlt2:j+1<D.length:=by have:=HEV.out;have:=HJK.out;omega
    obtain⟨c,hc⟩:∃c,D[j]? =some c:=⟨D[j],List.getElem?_eq_getElem _⟩
    obtain⟨d,hd⟩:∃d,D[j+1]? =some d:=⟨D[j+1],List.getElem?_eq_getElem _⟩
    have HNX:=hid (show pairs (D.take (2*(k+1)))=pairs (D.take j)++[UInt8.ofNat (hexV c*16+hexV d)]from by rw[HJK.out];exact xH k D c d (by rw[←HJK.out];exact hc) (by rw[←HJK.out];exact hd))
    have hcx:=List.all_eq_true.1 HDD.out c (List.mem_of_getElem? hc)
    have hdx:=List.all_eq_true.1 HDD.out d (List.mem_of_getElem? hd)
    have HVc:=hid (mW c hcx)
    have HVd:=hid (mW d hdx)
    have hc16:=(rW c hcx).2
    have VB:=(rW d hdx).2
    have HOR:=hid (LK (hexV c) (hexV d) hc16 VB)
    have HI1:=hid (show X[j]'(by omega)=c from by
     have h:=byte_at X j (by omega)
     rw[HXL.out,hc]at h
     injection h with h
     exact h.symm)
    have HI2:=hid (show∀(m:Nat) (hm:m<X.size),m=j+1→X[m]'hm=d from fun m hm he=>by
     subst he
     have h:=byte_at X (j+1) hm
     rw[HXL.out,hd]at h
     injection h with h
     exact h.symm)
    have hv:=HV.out
    obtain⟨A0,cap,rfl,hc0,hm0⟩:=aJ hv
    have HPZ:=hid (show(pairs (D.take j)).length≤16777216 from zG _ _ (by rw[List.length_take];omega))
    clear hv hc hd hcx hdx
    generalize pairs (D.take j)=M at*
    go_upto_region 9 with(fail)
    refine wp_region_held_drew (S:=fun wx=>Below w1.heap.size w1 wx) (by kernel_rfl) HBR.out.drew (fun hHeld=> ?_)
    have HVD:=hid (show wr.drew.ownsRow w1.heap.size 5 1 (.slice A0 M.length cap) M.length (aX M)from HV.out)
    generalize wr.drew=wd at hHeld HVD⊢
    refine tk 25 0 (.slice A0 M.length cap) ?_
    simp only[ah]
    refine tk 26 1 (.string X) ?_
    simp only[ah]
    refine tk 27 2 (.int .i64 (j:Int)) ?_
    simp only[ah]
    refine tk2 28 3 (.int .u8 (c.toNat:Int)) rfl (fun wq hSw=>by have hi:=HI1.out;go_simp) ?_
    simp only[ah]
    refine tk 31 6 (.string X) ?_
    simp only[ah]
    refine tk 32 7 (.int .i64 (j:Int)) ?_
    simp only[ah]
    refine tk2 33 8 (.int .i64 ((j:Int)+1)) rfl (fun wq hSw=>by go_simp<;>exact IntWalk.i64_in _ (by omega)) ?_
    simp only[ah]
    refine tk2 34 9 (.int .u8 (d.toNat:Int)) rfl (fun wq hSw=>by go_simp;rw[dif_pos (by omega)];simp only[Result.andThen];rw[HI2.out _ _ (by omega)]) ?_
    simp only[ah]
    refine wpAnyH_ready (rs:=[4]) (by kernel_rfl) (by simp) ?_
    refine AllReadyH.cons rfl (fun K hK=> ?_) AllReadyH.nil
    rw[if_pos (by rfl)]
    go_simp
    (with_reducible refine(HVc.out wd).mono ?_)
    rintro e w' ⟨rfl,rfl⟩
    dsimp only
    refine hK.out _ _ hHeld (fun hHeld=> ?_)
    clear hK
    refine tk2 30 5 (.int .u8 ((hexV c:Int)*16)) rfl (fun wq hSw=>by go_simp<;>(rw[IntKind.wrap_u8];omega)) ?_
    simp only[ah]
    refine wpAnyH_ready (rs:=[10]) (by kernel_rfl) (by simp) ?_
    refine AllReadyH.cons rfl (fun K hK=> ?_) AllReadyH.nil
    rw[if_pos (by rfl)]
    go_simp
    (with_reducible refine(HVd.out wd).mono ?_)
    rintro e w' ⟨rfl,rfl⟩
    dsimp only
    refine hK.out _ _ hHeld (fun hHeld=> ?_)
    clear hK
    refine tk2 36 11 (.int .u8 ((hexV c:Int)*16+(hexV d:Int))) rfl (fun wq hSw=>by have ho:=HOR.out;go_simp) ?_
    simp only[ah]
    refine wpAnyH_ready (rs:=[12]) (by kernel_rfl) (by simp) ?_
    refine AllReadyH.cons rfl (fun K hK=> ?_) AllReadyH.nil
    rw[if_pos (by rfl)]
    go_simp
    have qR:Below wd.heap.size wd (wd.alloc (.cells #[.int .u8 ((hexV c:Int)*16+(hexV d:Int))] 5)):=(Below.refl _ _).alloc (Nat.le_refl _) _
    have HRA:=hid (show Reads (wd.alloc (.cells #[.int .u8 ((hexV c:Int)*16+(hexV d:Int))] 5)) (wd.heap.size+1) 1 (some ⟨wd.heap.size,0,none⟩) ([UInt8.ofNat (hexV c*16+hexV d)]:List UInt8).length (aX [UInt8.ofNat (hexV c*16+hexV d)])from by
     have h:=dI wd 5 [.int .u8 ((hexV c:Int)*16+(hexV d:Int))] 1 1 rfl
     rw[show aX [UInt8.ofNat (hexV c*16+hexV d)]=[.int .u8 ((hexV c:Int)*16+(hexV d:Int))]from by
      show [Value.int .u8 (((UInt8.ofNat (hexV c*16+hexV d)).toNat:Nat):Int)]=_
      rw[iK _ (by omega)]
      congr 2]
     exact h)
    have hb9:=hHeld.trans (qR.mono hHeld.size)
    have HOA:=hid (aI HVD.out qR)
    clear hHeld qR
    refine hK.out _ _ hb9 (fun hHeld=> ?_)
    clear hK hb9
    refine wpAnyH_ready (rs:=[13]) (by kernel_rfl) (by simp) ?_
    refine AllReadyH.cons rfl (fun K hK=> ?_) AllReadyH.nil
    refine LM (.tmp 25) (.tmp 37) rfl rfl w1.heap.size _ M rfl HOA.out (wd.heap.size+1) _ 1 [UInt8.ofNat (hexV c*16+hexV d)] rfl HRA.out (by simp only[List.length_cons,List.length_nil];have:=HPZ.out;omega) hHeld.size ?_
    intro v4 w4 hown hgr
    have hb9:=hHeld.grown hgr hHeld.size (fun g hg=>dH HOA.out g hg)
    have HOW:=hid hown
    have HB4:=hid hb9
    clear hown hgr hHeld hb9
    refine hK.out _ _ HB4.out (fun hHeld=> ?_)
    clear hK hHeld
    refine tk 5 14 v4 ?_
    simp only[ah]
    refine wpAnyH_done (by kernel_rfl) ?_ _
    obtain⟨A4,c4,rfl,hc4,hm4⟩:=aJ HOW.out
    go_wp2_with fail
    go_roundw
    case rel=>
     refine⟨k+1,j+2,by have:=HJK.out;omega,by omega,by go_num, ?_,HB4.out⟩
     rw[show j+2=2*(k+1) by have:=HJK.out;omega,HNX.out]
     have h:=HOW.out
     rw[show(M++[UInt8.ofNat (hexV c*16+hexV d)]).length=M.length+1 from by simp]at h⊢
     exact h
    case measure=>simp[intOf];omega
   ·have hj:j=D.length:=by have:=HEV.out;have:=HJK.out;omega
    subst hj
    rw[List.take_length]at HV
    have hv:=HV.out
    obtain⟨A0,cap,rfl,hc0,hm0⟩:=aJ hv
    clear hv
    have HSF:=hid (HS1.out.below HBR.out)
    go_wp2_with fail
    go_ret
    refine⟨HO1.out.trans (Off.of_below HBR.out), ?_⟩
    rw[←HL.out,HP.out]
    exact⟨⟨_,rfl,iw HV.out HO1.out.size⟩,_,HSF.out,by rw[HL.out,List.drop_drop]⟩
end Go.Proofs.YtkblmloobkiloaaGreatDoor
