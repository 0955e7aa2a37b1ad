/-
  MP5 MP6 MP7: what the laws of package msg need of them.
-/
import Derived.Test.YtkblmloobkiloaaGreatDoorF00
import Derived.Test.YtkblmloobkiloaaGreatDoorF16
import Derived.Test.YtkblmloobkiloaaGreatDoorF11
set_option maxRecDepth 100000
set_option maxHeartbeats 6400000
namespace Go.Proofs.YtkblmloobkiloaaGreatDoor
open Go.Lib (hid)
open Go.RowKit
theorem LJ:∀i:Fin 256,dG (UInt8.ofNat i.val)=true→Lib.indexByte [48,49,50,51,52,53,54,55,56,57,97,98,99,100,101,102] (UInt8.ofNat i.val)=(hexV (UInt8.ofNat i.val):Int)∧hexV (UInt8.ofNat i.val)<16:=by decide
theorem rW(c:UInt8)(h:dG c=true):Lib.indexByte [48,49,50,51,52,53,54,55,56,57,97,98,99,100,101,102] c=(hexV c:Int)∧hexV c<16:=by
 have h1:=LJ ⟨c.toNat,c.toNat_lt⟩
 simp only[UInt8.ofNat_toNat]at h1
 exact h1 h
theorem mW(c:UInt8)(h:dG c=true)(w:World):Calls Tryz.prog 206 #[.int .u8 (c.toNat:Int)] w fun e w'=>e= .returned (.int .u8 (hexV c:Int))∧w=w':=by
 obtain⟨h1,h2⟩:=rW c h
 have HC:=hid (Tryz.strings_IndexByte ⟨#[48,49,50,51,52,53,54,55,56,57,97,98,99,100,101,102]⟩ (c.toNat:Int) w)
 have HI:=hid (show Lib.indexByte (⟨#[48,49,50,51,52,53,54,55,56,57,97,98,99,100,101,102]⟩:ByteArray).data.toList ((c.toNat:Int).toNat.toUInt8)=(hexV c:Int)from by
  rw[show((c.toNat:Int).toNat.toUInt8)=c from by simp]
  exact h1)
 clear h h1
 go_enter Tryz.func206,Tryz.ntmps206
 go_wp2_with fail
 refine HC.out.mono ?_
 rintro e w' ⟨rfl,rfl⟩
 rw[HI.out]
 go_wp2_with fail
 go_ret
 exact⟨rfl,rfl⟩
theorem Fv:∀a b:Fin 16,bits .or .u8 ((a.val:Int)*16) (b.val:Int)=((a.val*16+b.val:Nat):Int):=by decide
theorem LK(a b:Nat)(ha:a<16)(hb:b<16):bits .or .u8 ((a:Int)*16) (b:Int)=((a*16+b:Nat):Int):=Fv ⟨a,ha⟩ ⟨b,hb⟩
theorem xH:∀(k:Nat) (l:List UInt8) (h c:UInt8),l[2*k]? =some h→l[2*k+1]? =some c→pairs (l.take (2*(k+1)))=pairs (l.take (2*k))++[UInt8.ofNat (hexV h*16+hexV c)]
 |0,l,h,c,h1,h2=>by
  match l,h1,h2 with
  |a::b::r,h1,h2=>
   simp at h1 h2
   subst h1 h2
   rfl
  | [a],_,h2=>simp at h2
  | [],h1,_=>simp at h1
 |k+1,l,h,c,h1,h2=>by
  match l,h1,h2 with
  |a::b::r,h1,h2=>
   have e1:r[2*k]? =some h:=by rw[show 2*(k+1)=2*k+1+1 by omega]at h1;simpa using h1
   have e2:r[2*k+1]? =some c:=by rw[show 2*(k+1)+1=2*k+1+1+1 by omega]at h2;simpa using h2
   have ih:=xH k r h c e1 e2
   rw[show 2*(k+1+1)=2*(k+1)+1+1 by omega,show 2*(k+1)=2*k+1+1 by omega,List.take_succ_cons,List.take_succ_cons,List.take_succ_cons,List.take_succ_cons,pairs,pairs]
   rw[show 2*k+1+1=2*(k+1) by omega,ih]
   rfl
  | [a],_,h2=>simp at h2
  | [],h1,_=>simp at h1
theorem LM{ops:Array Oper}{o:Oper}{a:Act}{w:World}{K:Act→World→Prop}{Q:Exit→Act→World→Prop}{E:Prop}(s x:Operand)(hgd:o.guard=none)
  (ho:o.op= .call {callee:= .builtin .append,args:= #[s,x],argTypes:= #[22,22]})
  (base:Nat) (v:Value) (l:List UInt8) (hs:a.eval s=v) (hown:w.ownsRow base 5 1 v l.length (aX l))
  (B:Nat) (A:Option Addr) (c:Nat) (news:List UInt8) (hx:a.eval x= .slice A news.length c) (hr:Reads w B 1 A news.length (aX news)) (hlen:l.length+news.length≤140737488355327) (hbase:base≤w.heap.size)
  (h:∀v' w',w'.ownsRow base 5 1 v' (l++news).length (aX (l++news))→w.grownBy w' v.ownBlock→K (a.put o.dst v') w'):
  if Region.wanted o (yielded ops a.tmps)=true then Oper.wp Tryz.prog o a w K Q else E:=by
 obtain⟨i0,hi0,hz0,hz1,hz2⟩:=info_parts mF
 refine oJ w hgd _ x _ ho base 5 i0 _ 1 1 Tryz.underlying22 hi0 hz0 hz1 hz2 rfl (by omega) v l.length (aX l) hs hown B A news.length c (aX news) hx hr (sF news) (by unfold maxLen;omega) (by omega) hbase ?_
 intro v' w' h1 h2 _
 refine h v' w' ?_ h2
 rw[List.length_append,gy]
 exact h1
theorem zG:∀(l:List UInt8) (n:Nat),l.length≤n→(pairs l).length≤n
 |a::b::r,n,h=>by
  have h':r.length+1+1≤n:=h
  have:=zG r (n-2) (by omega)
  rw[pairs,List.length_cons]
  omega
 | [_],_,_=>Nat.zero_le _
 | [],_,_=>Nat.zero_le _
abbrev VA(base:Nat):List UInt8→Ending→World→Prop:=fun x e w'=>∃v,e= .returned v∧w'.ownsRow base 5 1 v x.length (aX x)
theorem Fz{w:World}{p:Nat}{s:ByteArray}{at_:Nat}(h:ScS w p s at_):
  Calls Tryz.prog 169 #[.pointer (some ⟨p,0,none⟩)] w (dW p s (VA w.heap.size) (nG (s.data.toList.drop at_)) w):=by
 have hent:=au (k:=205) Tryz.func205 (by kernel_rfl) rfl
 have HR:=hid (tq dG hent kG h)
 have HZ:=hid h.2
 have k1:w.cell? ⟨p,1,none⟩=some (.int .i64 (at_:Int)):=h.1.cell 1
 have HPL:=hid (Blk.lt h.1)
 clear h hent
 go_enter Tryz.func169,Tryz.ntmps169
 go_wp2_with fail
 refine HR.out.mono ?_
 rintro e w1 ⟨rfl,hs,ho⟩
 have HS1:=hid hs
 have HO1:=hid ho
 clear hs ho k1 HR
 obtain⟨l,hl⟩:∃l,l=s.data.toList.drop at_:=⟨_,rfl⟩
 rw[←hl]at HS1⊢
 have hll:l.length=s.size-at_:=by rw[hl,List.length_drop,Array.length_toList];rfl
 have HL:=hid hl
 obtain⟨D,hD⟩:∃D,D=l.takeWhile dG:=⟨_,rfl⟩
 rw[←hD]at HS1⊢
 have HDD:=hid (show D.all dG=true from by rw[hD];exact LD _ _)
 have hdl:D.length≤l.length:=by rw[hD];exact LG _ _
 have HPN:=hid (show nG l=if D.length%2=1 then .error l.length else .ok (pairs D,l.drop D.length)from by rw[hD];rfl)
 have Bq:=hid (show((s.size:Int)-(l.length:Int))=(at_:Int)from by have:=HZ.out;omega)
 obtain⟨X,hX⟩:∃X,X=ofL D:=⟨_,rfl⟩
 have hXs:X.size=D.length:=by rw[hX,dU]
 have HXL:=hid (show X.data.toList=D from by rw[hX];simp[ofL])
 have hdz:D.length≤16777216:=by have:=HZ.out;omega
 rw[←hX]
 clear hX hD hl
 by_cases hodd:D.length%2=1
 ·have HP:=hid (show nG l= .error l.length from by rw[HPN.out,if_pos hodd])
  have hm:((X.size:Int)%2 != 0)=true:=by rw[bne_iff_ne];omega
  have hm2:(((D.length:Nat):Int)%2 != 0)=true:=by rw[bne_iff_ne];omega
  go_wp2_with fail
  refine⟨rfl,HO1.out, ?_⟩
  rw[←HL.out,HP.out]
  show _=d_ _
  rw[Bq.out]
  rfl
 ·have HP:=hid (show nG l= .ok (pairs D,l.drop D.length)from by rw[HPN.out,if_neg hodd])
  have hm:((X.size:Int)%2 != 0)=false:=by rw[bne_eq_false_iff_eq];omega
  have hm2:(((D.length:Nat):Int)%2 != 0)=false:=by rw[bne_eq_false_iff_eq];omega
  have HEV:=hid hodd
  clear hodd
  go_upto_region 7 with(fail)
  clear hm hm2
  go_loopw [5,6] (fun v i wr=>∃k j:Nat,j=2*k∧j≤D.length∧i= .int .i64 (j:Int)∧wr.ownsRow w1.heap.size 5 1 v (pairs (D.take j)).length (aX (pairs (D.take j)))∧Below w1.heap.size w1 wr) (fun _ i _=>D.length-(intOf i).toNat)
  case atStart=>exact⟨0,0,rfl,by omega,rfl,dS _ _ _ _,Below.refl _ _⟩
  case round=>
   obtain⟨k,j,hjk,hk,rfl,hv,hb⟩:=hrel
   have HJK:=hid hjk;clear hjk
   have HV:=hid hv;clear hv
   have HBR:=hid hb;clear hb
   by_cases hlt:j<D.length
   ·have hlt2:j+1<D.length:=by have:=HEV.out;have:=HJK.out;omega
    obtain⟨c,hc⟩:∃c,D[j]? =some c:=⟨D[j],List.getElem?_eq_getElem _⟩
    obtain⟨d,hd⟩:∃d,D[j+1]? =some d:=⟨D[j+1],List.getElem?_eq_getElem _⟩
    have HNX:=hid (show pairs (D.take (2*(k+1)))=pairs (D.take j)++[UInt8.ofNat (hexV c*16+hexV d)]from by rw[HJK.out];exact xH k D c d (by rw[←HJK.out];exact hc) (by rw[←HJK.out];exact hd))
    have hcx:=List.all_eq_true.1 HDD.out c (List.mem_of_getElem? hc)
    have hdx:=List.all_eq_true.1 HDD.out d (List.mem_of_getElem? hd)
    have HVc:=hid (mW c hcx)
    have HVd:=hid (mW d hdx)
    have hc16:=(rW c hcx).2
    have VB:=(rW d hdx).2
    have HOR:=hid (LK (hexV c) (hexV d) hc16 VB)
    have HI1:=hid (show X[j]'(by omega)=c from by
     have h:=byte_at X j (by omega)
     rw[HXL.out,hc]at h
     injection h with h
     exact h.symm)
    have HI2:=hid (show∀(m:Nat) (hm:m<X.size),m=j+1→X[m]'hm=d from fun m hm he=>by
     subst he
     have h:=byte_at X (j+1) hm
     rw[HXL.out,hd]at h
     injection h with h
     exact h.symm)
    have hv:=HV.out
    obtain⟨A0,cap,rfl,hc0,hm0⟩:=aJ hv
    have HPZ:=hid (show(pairs (D.take j)).length≤16777216 from zG _ _ (by rw[List.length_take];omega))
    clear hv hc hd hcx hdx
    generalize pairs (D.take j)=M at*
    go_upto_region 9 with(fail)
    refine wp_region_held_drew (S:=fun wx=>Below w1.heap.size w1 wx) (by kernel_rfl) HBR.out.drew (fun hHeld=> ?_)
    have HVD:=hid (show wr.drew.ownsRow w1.heap.size 5 1 (.slice A0 M.length cap) M.length (aX M)from HV.out)
    generalize wr.drew=wd at hHeld HVD⊢
    refine tk 25 0 (.slice A0 M.length cap) ?_
    refine tk 26 1 (.string X) ?_
    refine tk 27 2 (.int .i64 (j:Int)) ?_
    refine tk2 28 3 (.int .u8 (c.toNat:Int)) rfl (fun wq hSw=>by have hi:=HI1.out;go_simp) ?_
    refine tk 31 6 (.string X) ?_
    refine tk 32 7 (.int .i64 (j:Int)) ?_
    refine tk2 33 8 (.int .i64 ((j:Int)+1)) rfl (fun wq hSw=>by go_simp<;>exact IntWalk.i64_in _ (by omega)) ?_
    refine tk2 34 9 (.int .u8 (d.toNat:Int)) rfl (fun wq hSw=>by go_simp;rw[dif_pos (by omega)];simp only[Result.andThen];rw[HI2.out _ _ (by omega)]) ?_
    refine wpAnyH_ready (rs:=[4]) (by kernel_rfl) (by simp) ?_
    refine AllReadyH.cons rfl (fun K hK=> ?_) AllReadyH.nil
    rw[if_pos (by rfl)]
    go_simp
    (with_reducible refine(HVc.out wd).mono ?_)
    rintro e w' ⟨rfl,rfl⟩
    dsimp only
    refine hK.out _ _ hHeld (fun hHeld=> ?_)
    clear hK
    refine tk2 30 5 (.int .u8 ((hexV c:Int)*16)) rfl (fun wq hSw=>by go_simp<;>(rw[IntKind.wrap_u8];omega)) ?_
    refine wpAnyH_ready (rs:=[10]) (by kernel_rfl) (by simp) ?_
    refine AllReadyH.cons rfl (fun K hK=> ?_) AllReadyH.nil
    rw[if_pos (by rfl)]
    go_simp
    (with_reducible refine(HVd.out wd).mono ?_)
    rintro e w' ⟨rfl,rfl⟩
    dsimp only
    refine hK.out _ _ hHeld (fun hHeld=> ?_)
    clear hK
    refine tk2 36 11 (.int .u8 ((hexV c:Int)*16+(hexV d:Int))) rfl (fun wq hSw=>by have ho:=HOR.out;go_simp) ?_
    refine wpAnyH_ready (rs:=[12]) (by kernel_rfl) (by simp) ?_
    refine AllReadyH.cons rfl (fun K hK=> ?_) AllReadyH.nil
    rw[if_pos (by rfl)]
    go_simp
    have qR:Below wd.heap.size wd (wd.alloc (.cells #[.int .u8 ((hexV c:Int)*16+(hexV d:Int))] 5)):=(Below.refl _ _).alloc (Nat.le_refl _) _
    have HRA:=hid (show Reads (wd.alloc (.cells #[.int .u8 ((hexV c:Int)*16+(hexV d:Int))] 5)) (wd.heap.size+1) 1 (some ⟨wd.heap.size,0,none⟩) ([UInt8.ofNat (hexV c*16+hexV d)]:List UInt8).length (aX [UInt8.ofNat (hexV c*16+hexV d)])from by
     have h:=dI wd 5 [.int .u8 ((hexV c:Int)*16+(hexV d:Int))] 1 1 rfl
     rw[show aX [UInt8.ofNat (hexV c*16+hexV d)]=[.int .u8 ((hexV c:Int)*16+(hexV d:Int))]from by
      show [Value.int .u8 (((UInt8.ofNat (hexV c*16+hexV d)).toNat:Nat):Int)]=_
      rw[iK _ (by omega)]
      congr 2]
     exact h)
    have hb9:=hHeld.trans (qR.mono hHeld.size)
    have HOA:=hid (aI HVD.out qR)
    clear hHeld qR
    refine hK.out _ _ hb9 (fun hHeld=> ?_)
    clear hK hb9
    refine wpAnyH_ready (rs:=[13]) (by kernel_rfl) (by simp) ?_
    refine AllReadyH.cons rfl (fun K hK=> ?_) AllReadyH.nil
    refine LM (.tmp 25) (.tmp 37) rfl rfl w1.heap.size _ M rfl HOA.out (wd.heap.size+1) _ 1 [UInt8.ofNat (hexV c*16+hexV d)] rfl HRA.out (by simp only[List.length_cons,List.length_nil];have:=HPZ.out;omega) hHeld.size ?_
    intro v4 w4 hown hgr
    have hb9:=hHeld.grown hgr hHeld.size (fun g hg=>dH HOA.out g hg)
    have HOW:=hid hown
    have HB4:=hid hb9
    clear hown hgr hHeld hb9
    refine hK.out _ _ HB4.out (fun hHeld=> ?_)
    clear hK hHeld
    refine tk 5 14 v4 ?_
    refine wpAnyH_done (by kernel_rfl) ?_ _
    obtain⟨A4,c4,rfl,hc4,hm4⟩:=aJ HOW.out
    go_wp2_with fail
    go_roundw
    case rel=>
     refine⟨k+1,j+2,by have:=HJK.out;omega,by omega,by go_num, ?_,HB4.out⟩
     rw[show j+2=2*(k+1) by have:=HJK.out;omega,HNX.out]
     have h:=HOW.out
     rw[show(M++[UInt8.ofNat (hexV c*16+hexV d)]).length=M.length+1 from by simp]at h⊢
     exact h
    case measure=>simp[intOf];omega
   ·have hj:j=D.length:=by have:=HEV.out;have:=HJK.out;omega
    subst hj
    rw[List.take_length]at HV
    have hv:=HV.out
    obtain⟨A0,cap,rfl,hc0,hm0⟩:=aJ hv
    clear hv
    have HSF:=hid (HS1.out.below HBR.out)
    go_wp2_with fail
    go_ret
    refine⟨HO1.out.trans (Off.of_below HBR.out), ?_⟩
    rw[←HL.out,HP.out]
    exact⟨⟨_,rfl,iw HV.out HO1.out.size⟩,_,HSF.out,by rw[HL.out,List.drop_drop]⟩
def xI(l:List UInt8):Option (List UInt8×List UInt8):=match l with
 | []=>none
 |c::r=>if c.toNat≠34 then none else unq r
def pJ(l:List UInt8)(e:Ending):Prop:=match xI l with
 |some (t,r)=>e= .returned (.tuple #[.string (ofL t),.int .i64 ((l.length-r.length:Nat):Int)])
 |none=>e= .returned (.tuple #[.string ⟨#[]⟩,.int .i64 0])
theorem pJ.no{l:List UInt8}(h:xI l=none):pJ l (.returned (.tuple #[.string ⟨#[]⟩,.int .i64 0])):=by
 unfold pJ
 rw[h]
theorem Jc(c:UInt8)(r:List UInt8)(h:c.toNat=34):unq (c::r)=some ([],r):=by
 unfold unq
 rw[if_pos h]
theorem Ox(c:UInt8)(r:List UInt8)(h:c.toNat≠34)(h2:ctl c=true):unq (c::r)=none:=by
 unfold unq
 rw[if_neg h,h2,if_pos rfl]
theorem Jd(c:UInt8)(r:List UInt8)(h:c.toNat≠34)(h2:ctl c=false)(h3:c.toNat≠92):unq (c::r)=(unq r).map fun p=>(c::p.1,p.2):=by
 rw[unq.eq_def]
 dsimp only
 rw[if_neg h,h2,if_neg (by simp),if_pos h3]
theorem Oy(c:UInt8)(h:c.toNat=92):unq [c]=none:=by
 have h2:ctl c=false:=by unfold ctl;rw[h];rfl
 rw[unq.eq_def]
 dsimp only
 rw[if_neg (by omega),h2,if_neg (by simp),if_neg (by omega)]
theorem GU(c d:UInt8)(r:List UInt8)(h:c.toNat=92)(hd:esc d=true):unq (c::d::r)=(unq r).map fun p=>(d::p.1,p.2):=by
 have h2:ctl c=false:=by unfold ctl;rw[h];rfl
 rw[unq.eq_def]
 dsimp only
 rw[if_neg (by omega),h2,if_neg (by simp),if_neg (by omega)]
 rw[hd,if_pos rfl]
theorem Oz(c d a b:UInt8)(r:List UInt8)(h:c.toNat=92)(hd:d.toNat=120):unq (c::d::a::b::r)=if dG a&&dG b&&ctl (UInt8.ofNat (hexV a*16+hexV b))then(unq r).map fun p=>(UInt8.ofNat (hexV a*16+hexV b)::p.1,p.2)else none:=by
 have h2:ctl c=false:=by unfold ctl;rw[h];rfl
 have h3:esc d=false:=by unfold esc;rw[hd];rfl
 rw[unq.eq_def]
 dsimp only
 rw[if_neg (by omega),h2,if_neg (by simp),if_neg (by omega)]
 rw[h3,if_neg (by simp),if_neg (by omega)]
theorem zH(c d:UInt8)(r:List UInt8)(h:c.toNat=92)(hd:esc d=false)(hx:d.toNat≠120):unq (c::d::r)=none:=by
 have h2:ctl c=false:=by unfold ctl;rw[h];rfl
 rw[unq.eq_def]
 dsimp only
 rw[if_neg (by omega),h2,if_neg (by simp),if_neg (by omega)]
 rw[hd,if_neg (by simp),if_pos hx]
theorem Je(c d:UInt8)(r:List UInt8)(h:c.toNat=92)(hd:d.toNat=120)(hr:r.length<2):unq (c::d::r)=none:=by
 have h2:ctl c=false:=by unfold ctl;rw[h];rfl
 have h3:esc d=false:=by unfold esc;rw[hd];rfl
 rw[unq.eq_def]
 dsimp only
 rw[if_neg (by omega),h2,if_neg (by simp),if_neg (by omega)]
 rw[h3,if_neg (by simp),if_neg (by omega)]
 match r,hr with
 | [],_=>rfl
 | [_],_=>rfl
def pK(l:List UInt8)(j:Nat)(B:List UInt8):Prop:=xI l=(unq (l.drop j)).map fun p=>(B++p.1,p.2)
theorem pK.no{l:List UInt8}{j:Nat}{B:List UInt8}(h:pK l j B)(hn:unq (l.drop j)=none):xI l=none:=by
 unfold pK at h
 rw[h,hn]
 rfl
theorem pK.next{l:List UInt8}{j i:Nat}{B x:List UInt8}(h:pK l j B)(hn:unq (l.drop j)=(unq (l.drop i)).map fun p=>(x++p.1,p.2)):pK l i (B++x):=by
 unfold pK at h⊢
 rw[h,hn,Option.map_map]
 congr 1
 funext p
 simp
theorem drop_at(l:List UInt8)(j:Nat)(c:UInt8)(h:l[j]? =some c):l.drop j=c::l.drop (j+1):=by
 obtain⟨hj,rfl⟩:=List.getElem?_eq_some_iff.1 h
 exact List.drop_eq_getElem_cons hj
theorem xJ(X:ByteArray)(hz:X.size≤16777216)(w:World):
  Calls Tryz.prog 202 #[.string X] w fun e w'=>pJ X.data.toList e∧Below w.heap.size w w':=by
 obtain⟨l,hl⟩:∃l,l=X.data.toList:=⟨_,rfl⟩
 have hXs:X.size=l.length:=by rw[hl,Array.length_toList];rfl
 have HL:=hid hl
 rw[←hl]
 cases l with
 |nil=>
  have hX:X=⟨#[]⟩:=by
   apply ByteArray.ext
   rw[←Array.toList_inj]
   exact HL.out.symm
  subst hX
  clear hXs hz HL hl
  go_enter Tryz.func202,Tryz.ntmps202
  go_wp2_with fail
  go_ret2
  exact⟨pJ.no rfl,Below.refl _ _⟩
 |cons c0 r=>
  obtain⟨l,hlc⟩:∃l,l=c0::r:=⟨_,rfl⟩
  have HLC:=hid hlc
  have hpos:0<X.size:=by rw[hXs];exact Nat.succ_pos _
  have hx0:X[0]'hpos=c0:=by
   have h:=byte_at X 0 hpos
   rw[←HL.out]at h
   injection h with h
   exact h.symm
  have hem:X.toList.isEmpty=false:=Af (by omega)
  have VD:X.toList≠ []:=fun h=>by rw[h]at hem;cases hem
  rw[←hlc]at HL hXs hl⊢
  clear hl hlc
  by_cases h34:c0.toNat=34
  ·have TR:((c0.toNat:Int) != 34)=false:=by rw[bne_eq_false_iff_eq];omega
   have HSF:=hid (show pK l 1 []from by
    unfold pK
    rw[HLC.out]
    show(if c0.toNat≠34 then none else unq r)=_
    rw[if_neg (by omega)]
    simp)
   have HLN:=hid (show 1≤l.length from by rw[HLC.out];exact Nat.succ_pos _)
   clear h34
   go_enter Tryz.func202,Tryz.ntmps202
   go_upto_region 5 with(fail)
   clear hx0 hem VD TR
   go_loopw [4,5,6,7,8] (fun b i _ _ _ wr=>∃(j:Nat) (B:List UInt8),i= .int .i64 (j:Int)∧j≤l.length∧B.length≤j∧wr.ownsRow w.heap.size 5 1 b B.length (aX B)∧Below w.heap.size w wr∧pK l j B) (fun _ i _ _ _ _=>l.length-(intOf i).toNat)
   case atStart=>exact⟨1,[],rfl,HLN.out,by simp,dS _ _ _ _,Below.refl _ _,HSF.out⟩
   case round=>
    obtain⟨j,B,rfl,hj,hbl,ho,hb,hsf⟩:=hrel
    have HOW:=hid ho;clear ho
    have HBR:=hid hb;clear hb
    have HSO:=hid hsf;clear hsf
    by_cases hlt:j<l.length
    ·obtain⟨c,hc⟩:∃c,l[j]? =some c:=⟨l[j],List.getElem?_eq_getElem _⟩
     have HDR:=hid (drop_at l j c hc)
     have hxj:X[j]'(by omega)=c:=by
      have h:=byte_at X j (by omega)
      rw[←HL.out,hc]at h
      injection h with h
      exact h.symm
     obtain⟨A0,cap,rfl,hc0,hm0⟩:=aJ HOW.out
     clear hc
     by_cases hq:c.toNat=34
     ·have VE:((c.toNat:Int)==34)=true:=by rw[beq_iff_eq];omega
      have HQ:=hid (Jc c (l.drop (j+1)) hq)
      have hcv:(convert 22 9 (.slice A0 B.length cap)).run Tryz.prog wr=_:=jH (Bys.iH HOW.out)
      clear hq
      go_wp2_with fail
      have HE:=hid (show xI l=some (B,l.drop (j+1))from by
       have h:=HSO.out
       unfold pK at h
       rw[h,HDR.out,HQ.out]
       simp)
      have HJ:=hid hlt
      clear hcv hxj
      go_ret2
      refine⟨?_,HBR.out⟩
      unfold pJ
      rw[HE.out]
      dsimp only
      rw[show l.length-(l.drop (j+1)).length=j+1 from by rw[List.length_drop];have:=HJ.out;omega]
      rfl
     ·have VE:((c.toNat:Int)==34)=false:=by rw[beq_eq_false_iff_ne];omega
      have HQN:=hid hq
      clear hq
      cases hct:ctl c with
      |true=>
       have HN:=hid (HSO.out.no (by rw[HDR.out];exact Ox c _ HQN.out hct))
       have hcc:(c.toNat:Int)<32∨(¬(c.toNat:Int)<32∧((c.toNat:Int)==127)=true):=by
        have h:(decide (c.toNat<32)||decide (c.toNat=127))=true:=hct
        rw[Bool.or_eq_true,decide_eq_true_iff,decide_eq_true_iff]at h
        rcases h with h|h
        ·exact .inl (by omega)
        ·exact .inr ⟨by omega,by rw[beq_iff_eq];omega⟩
       clear hct
       rcases hcc with h32|⟨h32,h127⟩
       ·go_wp2_with fail
        go_ret2
        exact⟨pJ.no HN.out,HBR.out⟩
       ·go_wp2_with fail
        go_ret2
        exact⟨pJ.no HN.out,HBR.out⟩
      |false=>
       have h32:¬(c.toNat:Int)<32∧((c.toNat:Int)==127)=false:=by
        have h:(decide (c.toNat<32)||decide (c.toNat=127))=false:=hct
        rw[Bool.or_eq_false_iff,decide_eq_false_iff_not,decide_eq_false_iff_not]at h
        exact⟨by omega,by rw[beq_eq_false_iff_ne];omega⟩
       obtain⟨h32,h127⟩:=h32
       have HCT:=hid hct
       clear hct
       by_cases h92:c.toNat=92
       ·have VF:((c.toNat:Int) != 92)=false:=by rw[bne_eq_false_iff_eq];omega
        have FB:=hid h92
        clear h92
        go_upto_region 17 with(fail)
        generalize hR:X.extract (min ((j:Int)+1) (l.length:Int)).toNat l.length=R
        have hRT:R.data.toList=l.drop (j+1):=by
         rw[←hR,show(min ((j:Int)+1) (l.length:Int)).toNat=j+1 from by omega,Fq X (j+1) l.length (by omega) (by omega),←HL.out]
         show((l.drop (j+1)).take (l.length-(j+1)))=_
         rw[List.take_of_length_le (by rw[List.length_drop];exact Nat.le_refl _)]
        have hRs:R.size=l.length-(j+1):=by
         have h:R.data.toList.length=R.size:=Array.length_toList ..
         rw[←h,hRT,List.length_drop]
        have HRT:=hid hRT
        clear hR hRT hxj
        by_cases hje:j+1=l.length
        ·have HN:=hid (HSO.out.no (by rw[HDR.out,List.drop_of_length_le (by omega)];exact Oy c FB.out))
         have hR0:R=⟨#[]⟩:=by
          apply ByteArray.ext
          rw[←Array.toList_inj,HRT.out,List.drop_of_length_le (by omega)]
         subst hR0
         clear hRs hje
         go_wp2_with fail
         go_ret2
         exact⟨pJ.no HN.out,HBR.out⟩
        ·have hj1:j+1<l.length:=by omega
         have LP:R.toList.isEmpty=false:=Af (by omega)
         have TS:R.toList≠ []:=fun h=>by rw[h]at LP;cases LP
         obtain⟨d,hd⟩:∃d,l[j+1]? =some d:=⟨l[j+1],List.getElem?_eq_getElem _⟩
         have HDD:=hid (drop_at l (j+1) d hd)
         have QL:∀(m:Nat) (hm:m<R.size) (x:UInt8),l[j+1+m]? =some x→R[m]'hm=x:=fun m hm x hx=>by
          have h:=byte_at R m hm
          rw[HRT.out,List.getElem?_drop,hx]at h
          injection h with h
          exact h.symm
         have TT:=hid QL
         have TU:0<R.size:=by omega
         have hr0:R[0]'TU=d:=QL 0 TU d hd
         clear QL hje hd
         by_cases hd34:d.toNat=34
         ·have hbd:((d.toNat:Int)==34)=true:=by rw[beq_iff_eq];omega
          have HNX:=hid (HSO.out.next (i:=j+2) (x:=[d]) (by rw[HDR.out,HDD.out];exact GU c d _ FB.out (by unfold esc;rw[hd34];rfl)))
          clear hd34
          have hup:Below wr.heap.size wr (wr.alloc (.cells #[.int .u8 (d.toNat:Int)] 5)):=(Below.refl _ _).alloc (Nat.le_refl _) _
          have HBA:=hid (HBR.out.trans (hup.mono HBR.out.size))
          have HOA:=hid (aI HOW.out hup)
          have HRA:=hid (show Reads (wr.alloc (.cells #[.int .u8 (d.toNat:Int)] 5)) (wr.heap.size+1) 1 (some ⟨wr.heap.size,0,none⟩) ([d]:List UInt8).length (aX [d])from by
           have h:=dI wr 5 [.int .u8 (d.toNat:Int)] 1 1 rfl
           rw[show aX [d]=[.int .u8 (d.toNat:Int)]from rfl]
           exact h)
          have HLL:=hid (show B.length+([d]:List UInt8).length≤140737488355327 from by simp only[List.length_cons,List.length_nil];omega)
          have HLT:=hid (show j+2≤l.length∧B.length≤j from⟨hj1,hbl⟩)
          clear hup
          go_wp2_with(at_builtin;refine kY (.tmp 66) (.tmp 69) rfl rfl w.heap.size _ B rfl HOA.out (wr.heap.size+1) _ 1 [d] rfl HRA.out HLL.out HBA.out.size ?_;intro v2 w2 hown hgr hor;have HO2:=hid hown;have HB2:=hid (HBA.out.grown hgr HBA.out.size (fun g hg=>dH HOA.out g hg));clear hown hgr hor)
          have hl9:=HLT.out
          refine⟨⟨j+2,B++[d],(by go_num),by omega,by rw[List.length_append];simp only[List.length_cons,List.length_nil];omega,HO2.out,HB2.out,HNX.out⟩, ?_⟩
          simp[intOf]
          omega
         ·have hbd:((d.toNat:Int)==34)=false:=by rw[beq_eq_false_iff_ne];omega
          by_cases OA:d.toNat=92
          ·have hbd2:((d.toNat:Int)==92)=true:=by rw[beq_iff_eq];omega
           have HNX:=hid (HSO.out.next (i:=j+2) (x:=[d]) (by rw[HDR.out,HDD.out];exact GU c d _ FB.out (by unfold esc;rw[OA];rfl)))
           clear OA hd34
           have hup:Below wr.heap.size wr (wr.alloc (.cells #[.int .u8 (d.toNat:Int)] 5)):=(Below.refl _ _).alloc (Nat.le_refl _) _
           have HBA:=hid (HBR.out.trans (hup.mono HBR.out.size))
           have HOA:=hid (aI HOW.out hup)
           have HRA:=hid (show Reads (wr.alloc (.cells #[.int .u8 (d.toNat:Int)] 5)) (wr.heap.size+1) 1 (some ⟨wr.heap.size,0,none⟩) ([d]:List UInt8).length (aX [d])from by
            have h:=dI wr 5 [.int .u8 (d.toNat:Int)] 1 1 rfl
            rw[show aX [d]=[.int .u8 (d.toNat:Int)]from rfl]
            exact h)
           have HLL:=hid (show B.length+([d]:List UInt8).length≤140737488355327 from by simp only[List.length_cons,List.length_nil];omega)
           have HLT:=hid (show j+2≤l.length∧B.length≤j from⟨hj1,hbl⟩)
           clear hup
           go_wp2_with(at_builtin;refine kY (.tmp 66) (.tmp 69) rfl rfl w.heap.size _ B rfl HOA.out (wr.heap.size+1) _ 1 [d] rfl HRA.out HLL.out HBA.out.size ?_;intro v2 w2 hown hgr hor;have HO2:=hid hown;have HB2:=hid (HBA.out.grown hgr HBA.out.size (fun g hg=>dH HOA.out g hg));clear hown hgr hor)
           have hl9:=HLT.out
           refine⟨⟨j+2,B++[d],(by go_num),by omega,by rw[List.length_append];simp only[List.length_cons,List.length_nil];omega,HO2.out,HB2.out,HNX.out⟩, ?_⟩
           simp[intOf]
           omega
          ·have hbd2:((d.toNat:Int)==92)=false:=by rw[beq_eq_false_iff_ne];omega
           have TV:=hid (show esc d=false from by unfold esc;rw[decide_eq_false hd34,decide_eq_false OA];rfl)
           clear hd34 OA
           by_cases h3:j+4≤l.length
           ·have hl3:(R.size:Int)≥3:=by omega
            by_cases hx:d.toNat=120
            ·have hbx:((d.toNat:Int)==120)=true:=by rw[beq_iff_eq];omega
             have TW:=hid hx
             clear hx
             obtain⟨a,ha⟩:∃a,l[j+2]? =some a:=⟨l[j+2],List.getElem?_eq_getElem _⟩
             obtain⟨b,hb⟩:∃b,l[j+3]? =some b:=⟨l[j+3],List.getElem?_eq_getElem _⟩
             have HUQ:=hid (show unq (l.drop j)=(if dG a&&dG b&&ctl (UInt8.ofNat (hexV a*16+hexV b))then(unq (l.drop (j+4))).map fun p=>(UInt8.ofNat (hexV a*16+hexV b)::p.1,p.2)else none)from by
              rw[HDR.out,HDD.out,drop_at l (j+2) a ha,drop_at l (j+3) b hb]
              exact Oz c d a b (l.drop (j+4)) FB.out TW.out)
             have hR1:1<R.size:=by omega
             have hR2:2<R.size:=by omega
             have ha1:R[1]'hR1=a:=TT.out 1 hR1 a (by rw[←ha])
             have hb1:R[2]'hR2=b:=TT.out 2 hR2 b (by rw[←hb])
             have HA1:=hid ha1
             have HB1:=hid hb1
             have H4:=hid h3
             clear ha hb
             cases hfa:dG a with
             |false=>
              have HN:=hid (HSO.out.no (by rw[HUQ.out,hfa];rfl))
              have HFA:=hid hfa
              clear hfa
              go_wp2_with fail
              refine(kG a wr).mono ?_
              rintro e w' ⟨rfl,rfl⟩
              rw[HFA.out]
              go_wp2_with fail
              go_ret2
              exact⟨pJ.no HN.out,HBR.out⟩
             |true=>
              have HFA:=hid hfa
              clear hfa
              cases hfb:dG b with
              |false=>
               have HN:=hid (HSO.out.no (by rw[HUQ.out,hfb,Bool.and_false];rfl))
               have HFB:=hid hfb
               clear hfb
               go_wp2_with fail
               refine(kG a wr).mono ?_
               rintro e w' ⟨rfl,rfl⟩
               rw[HFA.out]
               go_wp2_with fail
               refine(kG b wr).mono ?_
               rintro e w' ⟨rfl,rfl⟩
               rw[HFB.out]
               go_wp2_with fail
               go_ret2
               exact⟨pJ.no HN.out,HBR.out⟩
              |true=>
               have HFB:=hid hfb
               clear hfb
               have ha16:=(rW a HFA.out).2
               have hb16:=(rW b HFB.out).2
               have HVa:=hid (mW a HFA.out)
               have HVb:=hid (mW b HFB.out)
               have VG:=hid (LK (hexV a) (hexV b) ha16 hb16)
               go_wp2_with fail
               refine(kG a wr).mono ?_
               rintro e w' ⟨rfl,rfl⟩
               rw[HFA.out]
               go_wp2_with fail
               refine(kG b wr).mono ?_
               rintro e w' ⟨rfl,rfl⟩
               rw[HFB.out]
               go_upto_region 22 with(fail)
               refine wp_region_held_drew (S:=fun wx=>Below w.heap.size w wx) (by kernel_rfl) HBR.out.drew (fun hHeld=> ?_)
               have HOD:=hid (show wr.drew.ownsRow w.heap.size 5 1 (.slice A0 B.length cap) B.length (aX B)from HOW.out)
               generalize wr.drew=wd at hHeld HOD⊢
               refine tk 90 0 (.string R) ?_
               refine tk2 91 1 (.int .u8 (a.toNat:Int)) rfl (fun wq hSw=>by have hi:=HA1.out;have hb9:¬((l.length-(j+1):Nat):Int)≤1:=(by omega);go_simp) ?_
               refine tk 94 4 (.string R) ?_
               refine tk2 95 5 (.int .u8 (b.toNat:Int)) rfl (fun wq hSw=>by have hi:=HB1.out;have hb9:¬((l.length-(j+1):Nat):Int)≤2:=(by omega);go_simp) ?_
               refine wpAnyH_ready (rs:=[2]) (by kernel_rfl) (by simp) ?_
               refine AllReadyH.cons rfl (fun K hK=> ?_) AllReadyH.nil
               rw[if_pos (by rfl)]
               go_simp
               (with_reducible refine(HVa.out wd).mono ?_)
               rintro e w' ⟨rfl,rfl⟩
               dsimp only
               refine hK.out _ _ hHeld (fun hHeld=> ?_)
               clear hK
               refine tk2 93 3 (.int .u8 ((hexV a:Int)*16)) rfl (fun wq hSw=>by go_simp<;>(rw[IntKind.wrap_u8];omega)) ?_
               refine wpAnyH_ready (rs:=[6]) (by kernel_rfl) (by simp) ?_
               refine AllReadyH.cons rfl (fun K hK=> ?_) AllReadyH.nil
               rw[if_pos (by rfl)]
               go_simp
               (with_reducible refine(HVb.out wd).mono ?_)
               rintro e w' ⟨rfl,rfl⟩
               dsimp only
               refine hK.out _ _ hHeld (fun hHeld=> ?_)
               clear hK
               refine tk2 97 7 (.int .u8 ((hexV a:Int)*16+(hexV b:Int))) rfl (fun wq hSw=>by have ho:=VG.out;go_simp) ?_
               refine tk 8 8 (.int .u8 ((hexV a:Int)*16+(hexV b:Int))) ?_
               refine wpAnyH_done (by kernel_rfl) ?_ _
               have HBD:=hid hHeld
               clear hHeld ha1 hb1 hr0
               cases hct:ctl (UInt8.ofNat (hexV a*16+hexV b))with
               |false=>
                have HN:=hid (HSO.out.no (by rw[HUQ.out,HFA.out,HFB.out,hct];rfl))
                have hcv:¬(hexV a*16+hexV b<32)∧¬(hexV a*16+hexV b=127):=by
                 have h:(decide ((UInt8.ofNat (hexV a*16+hexV b)).toNat<32)||decide ((UInt8.ofNat (hexV a*16+hexV b)).toNat=127))=false:=hct
                 rw[iK _ (by omega),Bool.or_eq_false_iff,decide_eq_false_iff_not,decide_eq_false_iff_not]at h
                 exact h
                have hv1:(hexV a:Int)*16+(hexV b:Int)≥32:=by omega
                have hv2:((hexV a:Int)*16+(hexV b:Int) != 127)=true:=by rw[bne_iff_ne];omega
                clear hct hcv
                go_wp2_with fail
                go_ret2
                exact⟨pJ.no HN.out,HBD.out⟩
               |true=>
                have HNX:=hid (HSO.out.next (i:=j+4) (x:=[UInt8.ofNat (hexV a*16+hexV b)]) (by rw[HUQ.out,HFA.out,HFB.out,hct];rfl))
                have hcv:hexV a*16+hexV b<32∨hexV a*16+hexV b=127:=by
                 have h:(decide ((UInt8.ofNat (hexV a*16+hexV b)).toNat<32)||decide ((UInt8.ofNat (hexV a*16+hexV b)).toNat=127))=true:=hct
                 rw[iK _ (by omega),Bool.or_eq_true,decide_eq_true_iff,decide_eq_true_iff]at h
                 exact h
                have HU8:=hid (show aX [UInt8.ofNat (hexV a*16+hexV b)]=[.int .u8 ((hexV a:Int)*16+(hexV b:Int))]from by
                 show [Value.int .u8 (((UInt8.ofNat (hexV a*16+hexV b)).toNat:Nat):Int)]=_
                 rw[iK _ (by omega)]
                 congr 2)
                clear hct
                generalize UInt8.ofNat (hexV a*16+hexV b)=v at HNX HU8
                rcases hcv with hcv|hcv
                ·have hv1:¬(hexV a:Int)*16+(hexV b:Int)≥32:=by omega
                 clear hcv
                 have hup:Below wd.heap.size wd (wd.alloc (.cells #[.int .u8 ((hexV a:Int)*16+(hexV b:Int))] 5)):=(Below.refl _ _).alloc (Nat.le_refl _) _
                 have HBA:=hid (HBD.out.trans (hup.mono HBD.out.size))
                 have HOA:=hid (aI HOD.out hup)
                 have HRA:=hid (show Reads (wd.alloc (.cells #[.int .u8 ((hexV a:Int)*16+(hexV b:Int))] 5)) (wd.heap.size+1) 1 (some ⟨wd.heap.size,0,none⟩) ([v]:List UInt8).length (aX [v])from by
                  have h:=dI wd 5 [.int .u8 ((hexV a:Int)*16+(hexV b:Int))] 1 1 rfl
                  rw[show aX [v]=[.int .u8 ((hexV a:Int)*16+(hexV b:Int))]from HU8.out]
                  exact h)
                 have HLL:=hid (show B.length+([v]:List UInt8).length≤140737488355327 from by simp only[List.length_cons,List.length_nil];omega)
                 have HLT:=hid (show j+4≤l.length∧B.length≤j from⟨H4.out,hbl⟩)
                 clear hup
                 go_wp2_with(at_builtin;refine kY (.tmp 104) (.tmp 106) rfl rfl w.heap.size _ B rfl HOA.out (wd.heap.size+1) _ 1 [v] rfl HRA.out HLL.out HBA.out.size ?_;intro v2 w2 hown hgr hor;have HO2:=hid hown;have HB2:=hid (HBA.out.grown hgr HBA.out.size (fun g hg=>dH HOA.out g hg));clear hown hgr hor)
                 have hl9:=HLT.out
                 refine⟨⟨j+4,B++[v],(by go_num),by omega,by rw[List.length_append];simp only[List.length_cons,List.length_nil];omega,HO2.out,HB2.out,HNX.out⟩, ?_⟩
                 simp[intOf]
                 omega
                ·have hv1:(hexV a:Int)*16+(hexV b:Int)≥32:=by omega
                 have hv2:((hexV a:Int)*16+(hexV b:Int) != 127)=false:=by rw[bne_eq_false_iff_eq];omega
                 clear hcv
                 have hup:Below wd.heap.size wd (wd.alloc (.cells #[.int .u8 ((hexV a:Int)*16+(hexV b:Int))] 5)):=(Below.refl _ _).alloc (Nat.le_refl _) _
                 have HBA:=hid (HBD.out.trans (hup.mono HBD.out.size))
                 have HOA:=hid (aI HOD.out hup)
                 have HRA:=hid (show Reads (wd.alloc (.cells #[.int .u8 ((hexV a:Int)*16+(hexV b:Int))] 5)) (wd.heap.size+1) 1 (some ⟨wd.heap.size,0,none⟩) ([v]:List UInt8).length (aX [v])from by
                  have h:=dI wd 5 [.int .u8 ((hexV a:Int)*16+(hexV b:Int))] 1 1 rfl
                  rw[show aX [v]=[.int .u8 ((hexV a:Int)*16+(hexV b:Int))]from HU8.out]
                  exact h)
                 have HLL:=hid (show B.length+([v]:List UInt8).length≤140737488355327 from by simp only[List.length_cons,List.length_nil];omega)
                 have HLT:=hid (show j+4≤l.length∧B.length≤j from⟨H4.out,hbl⟩)
                 clear hup
                 go_wp2_with(at_builtin;refine kY (.tmp 104) (.tmp 106) rfl rfl w.heap.size _ B rfl HOA.out (wd.heap.size+1) _ 1 [v] rfl HRA.out HLL.out HBA.out.size ?_;intro v2 w2 hown hgr hor;have HO2:=hid hown;have HB2:=hid (HBA.out.grown hgr HBA.out.size (fun g hg=>dH HOA.out g hg));clear hown hgr hor)
                 have hl9:=HLT.out
                 refine⟨⟨j+4,B++[v],(by go_num),by omega,by rw[List.length_append];simp only[List.length_cons,List.length_nil];omega,HO2.out,HB2.out,HNX.out⟩, ?_⟩
                 simp[intOf]
                 omega
            ·have hbx:((d.toNat:Int)==120)=false:=by rw[beq_eq_false_iff_ne];omega
             have HN:=hid (HSO.out.no (by rw[HDR.out,HDD.out];exact zH c d _ FB.out TV.out hx))
             clear hx
             go_wp2_with fail
             go_ret2
             exact⟨pJ.no HN.out,HBR.out⟩
           ·have hl3:¬(R.size:Int)≥3:=by omega
            have HN:=hid (HSO.out.no (by
             rw[HDR.out,HDD.out]
             by_cases hx:d.toNat=120
             ·exact Je c d _ FB.out hx (by rw[List.length_drop];omega)
             ·exact zH c d _ FB.out TV.out hx))
            go_wp2_with fail
            go_ret2
            exact⟨pJ.no HN.out,HBR.out⟩
       ·have VF:((c.toNat:Int) != 92)=true:=by rw[bne_iff_ne];omega
        have HNX:=hid (HSO.out.next (i:=j+1) (x:=[c]) (by rw[HDR.out];exact Jd c _ HQN.out HCT.out h92))
        have HLT:=hid (And.intro hlt hbl)
        clear h92
        have hup:Below wr.heap.size wr (wr.alloc (.cells #[.int .u8 (c.toNat:Int)] 5)):=(Below.refl _ _).alloc (Nat.le_refl _) _
        have HBA:=hid (HBR.out.trans (hup.mono HBR.out.size))
        have HOA:=hid (aI HOW.out hup)
        have HRA:=hid (show Reads (wr.alloc (.cells #[.int .u8 (c.toNat:Int)] 5)) (wr.heap.size+1) 1 (some ⟨wr.heap.size,0,none⟩) ([c]:List UInt8).length (aX [c])from dI wr 5 [.int .u8 (c.toNat:Int)] 1 1 rfl)
        have HLL:=hid (show B.length+([c]:List UInt8).length≤140737488355327 from by simp only[List.length_cons,List.length_nil];omega)
        clear hup
        go_wp2_with(at_builtin;refine kY (.tmp 42) (.tmp 44) rfl rfl w.heap.size _ B rfl HOA.out (wr.heap.size+1) _ 1 [c] rfl HRA.out HLL.out HBA.out.size ?_;intro v2 w2 hown hgr hor;have HO2:=hid hown;have HB2:=hid (HBA.out.grown hgr HBA.out.size (fun g hg=>dH HOA.out g hg));clear hown hgr hor)
        have hl9:=HLT.out
        refine⟨⟨j+1,B++[c],by go_num,by omega,by rw[List.length_append];simp only[List.length_cons,List.length_nil];omega,HO2.out,HB2.out,HNX.out⟩, ?_⟩
        simp[intOf]
        omega
    ·have hje:j=l.length:=by omega
     have HN:=hid (HSO.out.no (by rw[hje,List.drop_length];rfl))
     clear hje
     go_wp2_with fail
     go_ret2
     exact⟨pJ.no HN.out,HBR.out⟩
  ·have TR:((c0.toNat:Int) != 34)=true:=by rw[bne_iff_ne];omega
   have HN:=hid (show xI l=none from by rw[HLC.out];show(if c0.toNat≠34 then none else unq r)=none;rw[if_pos h34])
   clear h34
   go_enter Tryz.func202,Tryz.ntmps202
   go_wp2_with fail
   go_ret2
   exact⟨pJ.no HN.out,Below.refl _ _⟩
theorem Jf{l t r:List UInt8}(h:xI l=some (t,r)):2≤l.length-r.length∧l.drop (l.length-r.length)=r∧r.length≤l.length:=by
 unfold xI at h
 cases l with
 |nil=>cases h
 |cons c l=>
  dsimp only at h
  split at h
  ·cases h
  ·have h2:=oW _ l t r (Nat.le_refl _) h
   have h3:(c::l).length=1+(t.flatMap dw).length+1+r.length:=by
    rw[h2]
    simp only[List.length_cons,List.length_append]
    omega
   refine⟨by omega, ?_,by omega⟩
   rw[show(c::l).length-r.length=(c::(t.flatMap dw++[34])).length from by
    rw[h3]
    simp only[List.length_cons,List.length_append,List.length_nil]
    omega]
   rw[show c::l=(c::(t.flatMap dw++[34]))++r from by rw[h2];simp]
   exact List.drop_left
theorem Jg(l:List UInt8):dJ l=match xI l with
  |none=> .error l.length
  |some (t,r)=>if good (ofL t)then .ok (ofL t,r)else .error l.length:=by
 unfold dJ xI
 cases l with
 |nil=>rfl
 |cons c r=>
  dsimp only
  by_cases h:c.toNat≠34
  ·rw[if_pos h,if_pos h]
  ·rw[if_neg h,if_neg h]
   cases unq r with
   |none=>rfl
   |some x=>rfl
abbrev TY:ByteArray→Ending→World→Prop:=fun t e _=>e= .returned (.string t)
theorem lQ{w:World}{p:Nat}{s:ByteArray}{at_:Nat}(hrd:Ready w)(h8:8≤p)(h:ScS w p s at_):
  Calls Tryz.prog 142 #[.pointer (some ⟨p,0,none⟩)] w (dW p s TY (dJ (s.data.toList.drop at_)) w):=by
 have HR:=hid (lZ h)
 have HS:=hid h
 have HRD:=hid hrd
 have hz:=h.2.2
 have hle:=h.2.1
 have HP8:=hid h8
 have hsl:s.data.toList.length=s.size:=Array.length_toList ..
 obtain⟨L,hL⟩:∃L,L=s.data.toList.drop at_:=⟨_,rfl⟩
 have HLL:=hid (show L.length=s.size-at_ from by rw[hL,List.length_drop,hsl])
 rw[←hL]at HR⊢
 have HL:=hid hL
 have HXL:=hid (show(ofL L).data.toList=L from by simp[ofL])
 have HXS:=hid (show(ofL L).size=L.length from dU L)
 clear h hrd hL hsl h8
 go_enter Tryz.func142,Tryz.ntmps142
 go_wp2_with fail
 refine HR.out.mono ?_
 rintro e w1 ⟨rfl,hb⟩
 have HS1:=hid (HS.out.below hb)
 have Lr:=hid (HRD.out.below hb (Nat.le_refl _))
 have HO1:=hid (Off.of_below (S:=fun i=>i=p) hb)
 clear hb HS HR HRD
 generalize ofL L=X at HXL HXS⊢
 go_wp2_with fail
 refine(xJ X (by have:=HXS.out;have:=HLL.out;omega) w1).mono ?_
 rw[HXL.out]
 rintro e w2 ⟨hu,hb⟩
 have HS2:=hid (HS1.out.below hb)
 have T_:=hid (Lr.out.below hb (Nat.le_refl _))
 have HO2:=hid (HO1.out.trans (Off.of_below hb))
 clear hb HS1 HO1 Lr HXL HXS
 unfold pJ at hu
 have HPT:=hid (Jg L)
 have k1:w2.cell? ⟨p,1,none⟩=some (.int .i64 (at_:Int)):=HS2.out.1.cell 1
 have Bq:=hid (show((s.size:Int)-(L.length:Int))=(at_:Int)from by have:=HLL.out;omega)
 cases hq:xI L with
 |none=>
  rw[hq]at hu HPT
  have hu:e= .returned (.tuple #[.string ⟨#[]⟩,.int .i64 0]):=hu
  subst hu
  clear hq
  go_wp2_with fail
  refine⟨rfl,HO2.out, ?_⟩
  rw[HPT.out]
  show _=d_ _
  rw[Bq.out]
  rfl
 |some x=>
  obtain⟨t,r⟩:=x
  rw[hq]at hu HPT
  have hu:e= .returned (.tuple #[.string (ofL t),.int .i64 ((L.length-r.length:Nat):Int)]):=hu
  subst hu
  obtain⟨hn,hd,hrl⟩:=Jf hq
  have HD:=hid hd
  clear hq hd
  have HPT:=hid (show dJ L=if good (ofL t)then .ok (ofL t,r)else .error L.length from HPT.out)
  generalize ofL t=T at HPT⊢
  obtain⟨n,hnn⟩:∃n,n=L.length-r.length:=⟨_,rfl⟩
  rw[←hnn]at HD hn⊢
  have hLn:=HLL.out
  have hnl:at_+n≤s.size:=by omega
  have hbn:((n:Int)==0)=false:=by rw[beq_eq_false_iff_ne];omega
  clear hnn hrl hLn
  go_wp2_with fail
  refine(gu T w2 T_.out).mono ?_
  rintro e w3 ⟨rfl,hb⟩
  have HS3:=hid (HS2.out.below hb)
  have HO3:=hid (HO2.out.trans (Off.of_below hb))
  clear hb HS2 HO2 T_ k1
  have k1:w3.cell? ⟨p,1,none⟩=some (.int .i64 (at_:Int)):=HS3.out.1.cell 1
  have z1:w3.frozen? ⟨p,1,none⟩=false:=HS3.out.1.frozen 1
  cases hg:good T with
  |false=>
   have HPT:=hid (show dJ L= .error L.length from by rw[HPT.out,hg];rfl)
   clear hg
   go_wp2_with fail
   refine⟨rfl,HO3.out, ?_⟩
   rw[HPT.out]
   show _=d_ _
   rw[Bq.out]
   rfl
  |true=>
   have HPT:=hid (show dJ L= .ok (T,r)from by rw[HPT.out,hg];rfl)
   have HNL:=hid hnl
   have HBK:=hid (show Blk (w3.setCell ⟨p,1,none⟩ (.int .i64 ((at_:Int)+(n:Int)))) p 114 #[.string s,.int .i64 ((at_+n:Nat):Int)]from by
    have h:=HS3.out.1.aW 1 (.int .i64 ((at_:Int)+(n:Int)))
    rw[show((at_+n:Nat):Int)=(at_:Int)+(n:Int)from by omega]
    exact h)
   have HOF:=hid ((Off.refl (fun i=>i=p) w3).setCell (p:=⟨p,1,none⟩) rfl (.int .i64 ((at_:Int)+(n:Int))))
   clear hg
   go_wp2_with fail
   generalize w3.setCell ⟨p,1,none⟩ (.int .i64 ((at_:Int)+(n:Int)))=w4 at HBK HOF⊢
   go_ret
   refine⟨HO3.out.trans HOF.out, ?_⟩
   rw[HPT.out]
   refine⟨rfl,at_+n,⟨HBK.out,HNL.out,hz⟩, ?_⟩
   rw[←HD.out,HL.out,List.drop_drop]
end Go.Proofs.YtkblmloobkiloaaGreatDoor
