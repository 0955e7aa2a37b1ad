/-
  MWD MWE: what the laws of package msg need of them.
-/
import Derived.Test.YtkblmloobkiloaaGreatDoorK00
import Derived.Test.YtkblmloobkiloaaGreatDoorK17
import Derived.Test.YtkblmloobkiloaaGreatDoorK10
set_option maxRecDepth 100000
set_option maxHeartbeats 12800000
namespace Go.Proofs.YtkblmloobkiloaaGreatDoor
open Go.Lib (hid)
open Go.RowKit
open Go.Lib (decDigits)
theorem adD(w:World)(t:TypeId)(l:List ByteArray)(hl:l.length≤maxLen):iW (w.alloc (.cells (h_ l).toArray t)) (w.heap.size+1) (.slice (some ⟨w.heap.size,0,none⟩) l.length l.length) l:=
 ⟨_,_,rfl,Nat.le_refl _,hl,dI w t (h_ l) l.length 1 (by simp)⟩
def acr:List ByteArray:=[⟨#[123,116,121,112,101,61]⟩,⟨#[32,100,101,118,61]⟩,⟨#[32,113,105,100,61]⟩,⟨#[32,109,111,100,101,61]⟩,⟨#[32,97,116,105,109,101,61]⟩,⟨#[32,109,116,105,109,101,61]⟩,⟨#[32,108,101,110,103,116,104,61]⟩,⟨#[32,110,97,109,101,61]⟩,⟨#[32,117,105,100,61]⟩,⟨#[32,103,105,100,61]⟩,⟨#[32,109,117,105,100,61]⟩]
def ab9:List ByteArray→List ByteArray→List UInt8
 |x::l,y::r=>x.data.toList++y.data.toList++ab9 l r
 |_,_=>[]
theorem acE:∀(l r:List ByteArray) (j:Nat) (x y:ByteArray),l[j]? =some x→r[j]? =some y→ab9 (l.take (j+1)) (r.take (j+1))=ab9 (l.take j) (r.take j)++(x.data.toList++y.data.toList)
 |a::l,b::r,0,x,y,h1,h2=>by
  simp at h1 h2
  subst h1 h2
  simp[ab9]
 |a::l,b::r,j+1,x,y,h1,h2=>by
  simp only[List.take_succ_cons,ab9]
  rw[acE l r j x y (by simpa using h1) (by simpa using h2)]
  simp
 | [],_,j,x,y,h1,_=>by simp at h1
 |_::_,[],j,x,y,_,h2=>by simp at h2
theorem acM:∀(l r:List ByteArray) (M:Nat),(∀x∈l,x.size≤M)→(∀y∈r,y.size≤M)→(ab9 l r).length≤l.length*(2*M)
 |x::l,y::r,M,h1,h2=>by
  have:=acM l r M (fun z hz=>h1 z (List.mem_cons_of_mem _ hz)) (fun z hz=>h2 z (List.mem_cons_of_mem _ hz))
  have e1:=h1 x (List.mem_cons_self ..)
  have e2:=h2 y (List.mem_cons_self ..)
  have d1:x.data.toList.length=x.size:=Array.length_toList ..
  have d2:y.data.toList.length=y.size:=Array.length_toList ..
  rw[ab9,List.length_append,List.length_append,List.length_cons,Nat.succ_mul]
  omega
 | [],_,_,_,_=>Nat.zero_le _
 |_::_,[],_,_,_=>Nat.zero_le _
theorem adL(s:Sta):ofL (rD s)=ofL (ab9 acr [ofL (decDigits s.type),ofL (decDigits s.dev),ofL (iG s.qid),ofL (decDigits s.mode),ofL (decDigits s.atime),ofL (decDigits s.mtime),ofL (decDigits s.length),ofL (bD s.name),ofL (bD s.uid),ofL (bD s.gid),ofL (bD s.fE)])++⟨#[125]⟩:=by
 have e:∀l,(ofL l).data.toList=l:=fun l=>by simp[ofL]
 have h:∀(x:ByteArray) (l r:List ByteArray) (a:List UInt8),ab9 (x::l) (ofL a::r)=x.data.toList++(a++ab9 l r):=fun x l r a=>by rw[ab9,e,List.append_assoc]
 have h0:ab9 [] []=[]:=rfl
 unfold acr
 simp only[h,h0]
 rw[show(⟨#[125]⟩:ByteArray)=ofL [125]from rfl,Bf]
 unfold rD
 simp only[List.append_assoc,List.append_nil]
theorem acN(s:Sta)(hs:s.prt)(w:World):
  Calls Tryz.prog 194 #[stV s] w fun e w'=>e= .returned (.string (ofL (rD s)))∧Below w.heap.size w w':=by
 have hup:Below w.heap.size w (w.alloc (.cells #[.int .u16 (s.type:Int),.int .u32 (s.dev:Int),.int .u8 (s.qid.kind:Int),.int .u32 (s.qid.vers:Int),.int .u64 (s.qid.path:Int),.int .u32 (s.mode:Int),.int .u32 (s.atime:Int),.int .u32 (s.mtime:Int),.int .u64 (s.length:Int),.string s.name,.string s.uid,.string s.gid,.string s.fE] 39)):=(Below.refl _ _).alloc (Nat.le_refl _) _
 have HN:=hid (Blk.new w 39 #[.int .u16 (s.type:Int),.int .u32 (s.dev:Int),.int .u8 (s.qid.kind:Int),.int .u32 (s.qid.vers:Int),.int .u64 (s.qid.path:Int),.int .u32 (s.mode:Int),.int .u32 (s.atime:Int),.int .u32 (s.mtime:Int),.int .u64 (s.length:Int),.string s.name,.string s.uid,.string s.gid,.string s.fE])
 have HB:=hid hup
 have HQ:=hid hs
 clear hup
 obtain⟨X0,hX0⟩:∃X,X=ofL (decDigits s.type):=⟨_,rfl⟩
 have hz0:X0.size≤67108866:=hX0▸Nat.le_trans (jD _ hs.type) (by decide)
 obtain⟨X1,hX1⟩:∃X,X=ofL (decDigits s.dev):=⟨_,rfl⟩
 have hz1:X1.size≤67108866:=hX1▸Nat.le_trans (jD _ hs.dev) (by decide)
 obtain⟨X2,hX2⟩:∃X,X=ofL (iG s.qid):=⟨_,rfl⟩
 have hz2:X2.size≤67108866:=hX2▸(by rw[dU];have:=pI _ hs.qid;omega)
 obtain⟨X3,hX3⟩:∃X,X=ofL (decDigits s.mode):=⟨_,rfl⟩
 have hz3:X3.size≤67108866:=hX3▸Nat.le_trans (jD _ hs.mode) (by decide)
 obtain⟨X4,hX4⟩:∃X,X=ofL (decDigits s.atime):=⟨_,rfl⟩
 have hz4:X4.size≤67108866:=hX4▸Nat.le_trans (jD _ hs.atime) (by decide)
 obtain⟨X5,hX5⟩:∃X,X=ofL (decDigits s.mtime):=⟨_,rfl⟩
 have hz5:X5.size≤67108866:=hX5▸Nat.le_trans (jD _ hs.mtime) (by decide)
 obtain⟨X6,hX6⟩:∃X,X=ofL (decDigits s.length):=⟨_,rfl⟩
 have hz6:X6.size≤67108866:=hX6▸Nat.le_trans (jD _ hs.length) (by decide)
 obtain⟨X7,hX7⟩:∃X,X=ofL (bD s.name):=⟨_,rfl⟩
 have hz7:X7.size≤67108866:=hX7▸(by rw[dU];have:=kT s.name;have:=hs.name.2;omega)
 obtain⟨X8,hX8⟩:∃X,X=ofL (bD s.uid):=⟨_,rfl⟩
 have hz8:X8.size≤67108866:=hX8▸(by rw[dU];have:=kT s.uid;have:=hs.uid.2;omega)
 obtain⟨X9,hX9⟩:∃X,X=ofL (bD s.gid):=⟨_,rfl⟩
 have hz9:X9.size≤67108866:=hX9▸(by rw[dU];have:=kT s.gid;have:=hs.gid.2;omega)
 obtain⟨X10,Om⟩:∃X,X=ofL (bD s.fE):=⟨_,rfl⟩
 have Vj:X10.size≤67108866:=Om▸(by rw[dU];have:=kT s.fE;have:=hs.fE.2;omega)
 clear hs
 obtain⟨VL,hVL⟩:∃VL,VL=[X0,X1,X2,X3,X4,X5,X6,X7,X8,X9,X10]:=⟨_,rfl⟩
 have HVL:=hid hVL
 have aev:=hid (show VL.length=11 from by rw[hVL];rfl)
 have HVZ:=hid (show∀y∈VL,y.size≤67108866 from by
  rw[hVL]
  intro y hy
  simp only[List.mem_cons,List.not_mem_nil,or_false]at hy
  rcases hy with rfl|rfl|rfl|rfl|rfl|rfl|rfl|rfl|rfl|rfl|rfl<;>assumption)
 have qm:=hid (show ofL (rD s)=ofL (ab9 acr VL)++⟨#[125]⟩from by
  rw[hVL,hX0,hX1,hX2,hX3,hX4,hX5,hX6,hX7,hX8,hX9,Om]
  exact adL s)
 have HX0:=hid hX0.symm
 have HX1:=hid hX1.symm
 have HX2:=hid hX2.symm
 have HX3:=hid hX3.symm
 have HX4:=hid hX4.symm
 have HX5:=hid hX5.symm
 have HX6:=hid hX6.symm
 have HX7:=hid hX7.symm
 have HX8:=hid hX8.symm
 have HX9:=hid hX9.symm
 have IZ:=hid Om.symm
 clear hVL hX0 hz0 hX1 hz1 hX2 hz2 hX3 hz3 hX4 hz4 hX5 hz5 hX6 hz6 hX7 hz7 hX8 hz8 hX9 hz9 Om Vj
 unfold stV
 go_enter Tryz.func194,Tryz.ntmps194
 go_upto_region 1 with(fail)
 generalize w.alloc (.cells #[.int .u16 (s.type:Int),.int .u32 (s.dev:Int),.int .u8 (s.qid.kind:Int),.int .u32 (s.qid.vers:Int),.int .u64 (s.qid.path:Int),.int .u32 (s.mode:Int),.int .u32 (s.atime:Int),.int .u32 (s.mtime:Int),.int .u64 (s.length:Int),.string s.name,.string s.uid,.string s.gid,.string s.fE] 39)=w0 at HN HB⊢
 generalize hb:w.heap.size=b at HN HB⊢
 have HBB:=hid hb;clear hb
 have hup:Below w0.heap.size w0 (w0.alloc (.cells (h_ acr).toArray 9)):=(Below.refl _ _).alloc (Nat.le_refl _) _
 have HWN:=hid (adD w0 9 acr (by decide))
 have HN1:=hid (Blk.below HN.out hup (Blk.lt HN.out))
 have HB1:=hid (HB.out.trans (hup.mono (Nat.le_of_lt (Blk.lt HN.out))))
 have HRW:=hid (show w0.heap.size+1=(w0.alloc (.cells (h_ acr).toArray 9)).heap.size from(World.size_alloc _ _).symm)
 clear hup
 go_upto_region 2 with(fail)
 change Code.wp _ _ _ _ (w0.alloc (.cells (h_ acr).toArray 9))
 generalize w0.alloc (.cells (h_ acr).toArray 9)=w1 at HWN HN1 HB1 HRW⊢
 generalize hr:w0.heap.size=r at HWN HRW⊢
 clear hr HN HB
 have HL:=hid (Blk.lt HN1.out)
 have HCC:=hid (show∀wx:World,Below w1.heap.size w1 wx→wx.cell? ⟨b,0,none⟩=some (.int .u16 (s.type:Int))∧wx.cell? ⟨b,1,none⟩=some (.int .u32 (s.dev:Int))∧wx.cell? ⟨b,2,none⟩=some (.int .u8 (s.qid.kind:Int))∧wx.cell? ⟨b,3,none⟩=some (.int .u32 (s.qid.vers:Int))∧wx.cell? ⟨b,4,none⟩=some (.int .u64 (s.qid.path:Int))∧wx.cell? ⟨b,5,none⟩=some (.int .u32 (s.mode:Int))∧wx.cell? ⟨b,6,none⟩=some (.int .u32 (s.atime:Int))∧wx.cell? ⟨b,7,none⟩=some (.int .u32 (s.mtime:Int))∧wx.cell? ⟨b,8,none⟩=some (.int .u64 (s.length:Int))∧wx.cell? ⟨b,9,none⟩=some (.string s.name)∧wx.cell? ⟨b,10,none⟩=some (.string s.uid)∧wx.cell? ⟨b,11,none⟩=some (.string s.gid)∧wx.cell? ⟨b,12,none⟩=some (.string s.fE)from fun wx h=>by
  have hk:=fun i=>(h.cell (p:=⟨b,i,none⟩) HL.out).trans (HN1.out.cell i)
  exact⟨hk 0,hk 1,hk 2,hk 3,hk 4,hk 5,hk 6,hk 7,hk 8,hk 9,hk 10,hk 11,hk 12⟩)
 have UH:IntKind.u64.wrap (s.type:Int)=(s.type:Int):=eH HQ.out.type
 have Vw:IntKind.u64.wrap (s.dev:Int)=(s.dev:Int):=eH HQ.out.dev
 have UJ:IntKind.u64.wrap (s.mode:Int)=(s.mode:Int):=eH HQ.out.mode
 have TF:IntKind.u64.wrap (s.atime:Int)=(s.atime:Int):=eH HQ.out.atime
 have TG:IntKind.u64.wrap (s.mtime:Int)=(s.mtime:Int):=eH HQ.out.mtime
 refine wp_region_held_drew (S:=fun wx=>Below w1.heap.size w1 wx) (by kernel_rfl) (aC w1) (fun hHeld=> ?_)
 generalize w1.drew=wd at hHeld⊢
 refine tk 8 0 (.pointer (some ⟨b,0,none⟩)) ?_
 refine tk2 9 1 (.int .u16 (s.type:Int)) rfl (fun wq hSw=>by have hcc:=HCC.out _ hSw;have k:=hcc.1;clear hcc;go_simp) ?_
 refine tk 10 2 (.int .u64 (s.type:Int)) ?_
 refine tk 12 4 (.pointer (some ⟨b,1,none⟩)) ?_
 refine tk2 13 5 (.int .u32 (s.dev:Int)) rfl (fun wq hSw=>by have hcc:=HCC.out _ hSw;have k:=hcc.2.1;clear hcc;go_simp) ?_
 refine tk 14 6 (.int .u64 (s.dev:Int)) ?_
 refine tk 16 8 (.pointer (some ⟨b,2,none⟩)) ?_
 refine tk2 17 9 (qdV s.qid) rfl (fun wq hSw=>by have hcc:=HCC.out _ hSw;have k0:=hcc.2.2.1;have k1:=hcc.2.2.2.1;have k2:=hcc.2.2.2.2.1;clear hcc;go_simp) ?_
 refine tk 19 11 (.pointer (some ⟨b,5,none⟩)) ?_
 refine tk2 20 12 (.int .u32 (s.mode:Int)) rfl (fun wq hSw=>by have hcc:=HCC.out _ hSw;have k:=hcc.2.2.2.2.2.1;clear hcc;go_simp) ?_
 refine tk 21 13 (.int .u64 (s.mode:Int)) ?_
 refine tk 23 15 (.pointer (some ⟨b,6,none⟩)) ?_
 refine tk2 24 16 (.int .u32 (s.atime:Int)) rfl (fun wq hSw=>by have hcc:=HCC.out _ hSw;have k:=hcc.2.2.2.2.2.2.1;clear hcc;go_simp) ?_
 refine tk 25 17 (.int .u64 (s.atime:Int)) ?_
 refine tk 27 19 (.pointer (some ⟨b,7,none⟩)) ?_
 refine tk2 28 20 (.int .u32 (s.mtime:Int)) rfl (fun wq hSw=>by have hcc:=HCC.out _ hSw;have k:=hcc.2.2.2.2.2.2.2.1;clear hcc;go_simp) ?_
 refine tk 29 21 (.int .u64 (s.mtime:Int)) ?_
 refine tk 31 23 (.pointer (some ⟨b,8,none⟩)) ?_
 refine tk2 32 24 (.int .u64 (s.length:Int)) rfl (fun wq hSw=>by have hcc:=HCC.out _ hSw;have k:=hcc.2.2.2.2.2.2.2.2.1;clear hcc;go_simp) ?_
 refine tk 34 26 (.pointer (some ⟨b,9,none⟩)) ?_
 refine tk2 35 27 (.string s.name) rfl (fun wq hSw=>by have hcc:=HCC.out _ hSw;have k:=hcc.2.2.2.2.2.2.2.2.2.1;clear hcc;go_simp) ?_
 refine tk 37 29 (.pointer (some ⟨b,10,none⟩)) ?_
 refine tk2 38 30 (.string s.uid) rfl (fun wq hSw=>by have hcc:=HCC.out _ hSw;have k:=hcc.2.2.2.2.2.2.2.2.2.2.1;clear hcc;go_simp) ?_
 refine tk 40 32 (.pointer (some ⟨b,11,none⟩)) ?_
 refine tk2 41 33 (.string s.gid) rfl (fun wq hSw=>by have hcc:=HCC.out _ hSw;have k:=hcc.2.2.2.2.2.2.2.2.2.2.2.1;clear hcc;go_simp) ?_
 refine tk 43 35 (.pointer (some ⟨b,12,none⟩)) ?_
 refine tk2 44 36 (.string s.fE) rfl (fun wq hSw=>by have hcc:=HCC.out _ hSw;have k:=hcc.2.2.2.2.2.2.2.2.2.2.2.2;clear hcc;go_simp) ?_
 refine wpAnyH_ready (rs:=[3]) (by kernel_rfl) (by simp) ?_
 refine AllReadyH.cons rfl (fun K hK=> ?_) AllReadyH.nil
 rw[if_pos (by rfl)]
 go_simp
 (with_reducible refine(zS s.type HQ.out.type wd).mono ?_)
 rintro e wy ⟨rfl,hb⟩
 rw[HX0.out]
 dsimp only
 have cO:=hHeld.trans (hb.mono hHeld.size)
 clear hb hHeld
 refine hK.out _ _ cO (fun hHeld=> ?_)
 clear hK cO
 refine wpAnyH_ready (rs:=[7]) (by kernel_rfl) (by simp) ?_
 refine AllReadyH.cons rfl (fun K hK=> ?_) AllReadyH.nil
 rw[if_pos (by rfl)]
 go_simp
 (with_reducible refine(zS s.dev HQ.out.dev wy).mono ?_)
 rintro e wy ⟨rfl,hb⟩
 rw[HX1.out]
 dsimp only
 have cO:=hHeld.trans (hb.mono hHeld.size)
 clear hb hHeld
 refine hK.out _ _ cO (fun hHeld=> ?_)
 clear hK cO
 refine wpAnyH_ready (rs:=[10]) (by kernel_rfl) (by simp) ?_
 refine AllReadyH.cons rfl (fun K hK=> ?_) AllReadyH.nil
 rw[if_pos (by rfl)]
 go_simp
 (with_reducible refine(acv s.qid HQ.out.qid wy).mono ?_)
 rintro e wy ⟨rfl,hb⟩
 rw[HX2.out]
 dsimp only
 have cO:=hHeld.trans (hb.mono hHeld.size)
 clear hb hHeld
 refine hK.out _ _ cO (fun hHeld=> ?_)
 clear hK cO
 refine wpAnyH_ready (rs:=[14]) (by kernel_rfl) (by simp) ?_
 refine AllReadyH.cons rfl (fun K hK=> ?_) AllReadyH.nil
 rw[if_pos (by rfl)]
 go_simp
 (with_reducible refine(zS s.mode HQ.out.mode wy).mono ?_)
 rintro e wy ⟨rfl,hb⟩
 rw[HX3.out]
 dsimp only
 have cO:=hHeld.trans (hb.mono hHeld.size)
 clear hb hHeld
 refine hK.out _ _ cO (fun hHeld=> ?_)
 clear hK cO
 refine wpAnyH_ready (rs:=[18]) (by kernel_rfl) (by simp) ?_
 refine AllReadyH.cons rfl (fun K hK=> ?_) AllReadyH.nil
 rw[if_pos (by rfl)]
 go_simp
 (with_reducible refine(zS s.atime HQ.out.atime wy).mono ?_)
 rintro e wy ⟨rfl,hb⟩
 rw[HX4.out]
 dsimp only
 have cO:=hHeld.trans (hb.mono hHeld.size)
 clear hb hHeld
 refine hK.out _ _ cO (fun hHeld=> ?_)
 clear hK cO
 refine wpAnyH_ready (rs:=[22]) (by kernel_rfl) (by simp) ?_
 refine AllReadyH.cons rfl (fun K hK=> ?_) AllReadyH.nil
 rw[if_pos (by rfl)]
 go_simp
 (with_reducible refine(zS s.mtime HQ.out.mtime wy).mono ?_)
 rintro e wy ⟨rfl,hb⟩
 rw[HX5.out]
 dsimp only
 have cO:=hHeld.trans (hb.mono hHeld.size)
 clear hb hHeld
 refine hK.out _ _ cO (fun hHeld=> ?_)
 clear hK cO
 refine wpAnyH_ready (rs:=[25]) (by kernel_rfl) (by simp) ?_
 refine AllReadyH.cons rfl (fun K hK=> ?_) AllReadyH.nil
 rw[if_pos (by rfl)]
 go_simp
 (with_reducible refine(zS s.length HQ.out.length wy).mono ?_)
 rintro e wy ⟨rfl,hb⟩
 rw[HX6.out]
 dsimp only
 have cO:=hHeld.trans (hb.mono hHeld.size)
 clear hb hHeld
 refine hK.out _ _ cO (fun hHeld=> ?_)
 clear hK cO
 refine wpAnyH_ready (rs:=[28]) (by kernel_rfl) (by simp) ?_
 refine AllReadyH.cons rfl (fun K hK=> ?_) AllReadyH.nil
 rw[if_pos (by rfl)]
 go_simp
 (with_reducible refine(YZ s.name HQ.out.name.2 wy).mono ?_)
 rintro e wy ⟨rfl,hb⟩
 rw[show ofL (Ah s.name.data.toList)=X7 from HX7.out]
 dsimp only
 have cO:=hHeld.trans (hb.mono hHeld.size)
 clear hb hHeld
 refine hK.out _ _ cO (fun hHeld=> ?_)
 clear hK cO
 refine wpAnyH_ready (rs:=[31]) (by kernel_rfl) (by simp) ?_
 refine AllReadyH.cons rfl (fun K hK=> ?_) AllReadyH.nil
 rw[if_pos (by rfl)]
 go_simp
 (with_reducible refine(YZ s.uid HQ.out.uid.2 wy).mono ?_)
 rintro e wy ⟨rfl,hb⟩
 rw[show ofL (Ah s.uid.data.toList)=X8 from HX8.out]
 dsimp only
 have cO:=hHeld.trans (hb.mono hHeld.size)
 clear hb hHeld
 refine hK.out _ _ cO (fun hHeld=> ?_)
 clear hK cO
 refine wpAnyH_ready (rs:=[34]) (by kernel_rfl) (by simp) ?_
 refine AllReadyH.cons rfl (fun K hK=> ?_) AllReadyH.nil
 rw[if_pos (by rfl)]
 go_simp
 (with_reducible refine(YZ s.gid HQ.out.gid.2 wy).mono ?_)
 rintro e wy ⟨rfl,hb⟩
 rw[show ofL (Ah s.gid.data.toList)=X9 from HX9.out]
 dsimp only
 have cO:=hHeld.trans (hb.mono hHeld.size)
 clear hb hHeld
 refine hK.out _ _ cO (fun hHeld=> ?_)
 clear hK cO
 refine wpAnyH_ready (rs:=[37]) (by kernel_rfl) (by simp) ?_
 refine AllReadyH.cons rfl (fun K hK=> ?_) AllReadyH.nil
 rw[if_pos (by rfl)]
 go_simp
 (with_reducible refine(YZ s.fE HQ.out.fE.2 wy).mono ?_)
 rintro e wy ⟨rfl,hb⟩
 rw[show ofL (Ah s.fE.data.toList)=X10 from IZ.out]
 dsimp only
 have cO:=hHeld.trans (hb.mono hHeld.size)
 clear hb hHeld
 refine hK.out _ _ cO (fun hHeld=> ?_)
 clear hK cO
 refine wpAnyH_ready (rs:=[38]) (by kernel_rfl) (by simp) ?_
 refine AllReadyH.cons rfl (fun K hK=> ?_) AllReadyH.nil
 rw[if_pos (by rfl)]
 go_simp
 have HVN:=hid (adD wy 9 [X0,X1,X2,X3,X4,X5,X6,X7,X8,X9,X10] (show 11≤maxLen by decide))
 have cO:Below w1.heap.size w1 (wy.alloc (.cells (h_ [X0,X1,X2,X3,X4,X5,X6,X7,X8,X9,X10]).toArray 9)):=hHeld.trans (((Below.refl _ wy).alloc (Nat.le_refl _) _).mono hHeld.size)
 have HSV:=hid (show wy.heap.size+1=(wy.alloc (.cells (h_ [X0,X1,X2,X3,X4,X5,X6,X7,X8,X9,X10]).toArray 9)).heap.size from(World.size_alloc _ _).symm)
 clear hHeld
 refine hK.out _ (wy.alloc (.cells (h_ [X0,X1,X2,X3,X4,X5,X6,X7,X8,X9,X10]).toArray 9)) cO (fun hHeld=> ?_)
 clear hK cO
 refine tk 4 39 (.slice (some ⟨wy.heap.size,0,none⟩) 11 11) ?_
 refine wpAnyH_done (by kernel_rfl) ?_ _
 rw[←HVL.out]at HVN
 have HBF:=hid (HB1.out.trans (hHeld.mono (Nat.le_of_lt HL.out)))
 have HW2:=hid (show iW (wy.alloc (.cells (h_ [X0,X1,X2,X3,X4,X5,X6,X7,X8,X9,X10]).toArray 9)) w1.heap.size (.slice (some ⟨r,0,none⟩) 11 11) acr from by rw[←HRW.out];exact HWN.out.below (by rw[HRW.out];exact hHeld))
 have HV2:=hid (show iW (wy.alloc (.cells (h_ [X0,X1,X2,X3,X4,X5,X6,X7,X8,X9,X10]).toArray 9)) (wy.heap.size+1) (.slice (some ⟨wy.heap.size,0,none⟩) 11 11) VL from by have h:=HVN.out;rw[aev.out]at h;rw[HVL.out]at h⊢;exact h)
 have HR1:=hid hHeld.size
 clear hHeld HVN HVL
 go_upto_region 5 with(fail)
 try change Code.wp _ _ _ _ (wy.alloc (.cells (h_ [X0,X1,X2,X3,X4,X5,X6,X7,X8,X9,X10]).toArray 9))
 generalize wy.alloc (.cells (h_ [X0,X1,X2,X3,X4,X5,X6,X7,X8,X9,X10]).toArray 9)=w2 at HW2 HV2 HBF HSV HR1⊢
 generalize wy.heap.size=rv at HV2 HSV⊢
 go_loopw [5,6] (fun t i wr=>∃(j:Nat) (T:ByteArray),j≤11∧i= .int .i64 (j:Int)∧t= .string T∧Below w2.heap.size w2 wr∧Hid (T=ofL (ab9 (acr.take j) (VL.take j)))) (fun _ i _=>11-(intOf i).toNat)
 case atStart=>exact⟨0,⟨#[]⟩,by omega,rfl,rfl,Below.refl _ _,hid rfl⟩
 case round=>
  obtain⟨j,T,hj,rfl,rfl,hb,HT⟩:=hrel
  have HBR:=hid hb
  clear hb
  have hts:T.size≤1476395052:=by
   rw[HT.out,dU]
   have h:=acM (acr.take j) (VL.take j) 67108866 (fun x hx=>Nat.le_trans ((show∀x∈acr,x.size≤10 by decide) x (List.mem_of_mem_take hx)) (by decide)) (fun y hy=>HVZ.out y (List.mem_of_mem_take hy))
   rw[List.length_take]at h
   have h2:(min j acr.length)*(2*67108866)≤11*(2*67108866):=Nat.mul_le_mul_right _ (by omega)
   omega
  by_cases hlt:j<11
  ·obtain⟨x,hx⟩:∃x,acr[j]? =some x:=⟨_,List.getElem?_eq_getElem (show j<acr.length from hlt)⟩
   obtain⟨y,hy⟩:∃y,VL[j]? =some y:=⟨_,List.getElem?_eq_getElem (show j<VL.length from by rw[aev.out];exact hlt)⟩
   obtain⟨ad,e1, -,kx⟩:=((HW2.out.more HR1.out).below HBR.out).at_ hx
   obtain⟨bd_,e2, -,ky⟩:=((HV2.out.more (Nat.le_of_eq HSV.out)).below HBR.out).at_ hy
   injection e1 with e1
   injection e2 with e2
   subst e1 e2
   have jx:wr.drew.cell? ⟨r,j,none⟩=some (.string x):=by have h:=kx;rw[Addr.add_mid,Nat.zero_add]at h;exact h
   have jy:wr.drew.cell? ⟨rv,j,none⟩=some (.string y):=by have h:=ky;rw[Addr.add_mid,Nat.zero_add]at h;exact h
   have hxs:x.size≤10:=(show∀x∈acr,x.size≤10 by decide) x (List.mem_of_getElem? hx)
   have hys:=HVZ.out y (List.mem_of_getElem? hy)
   have HTN:=hid (acE acr VL j x y hx hy)
   clear hx hy
   obtain⟨P,hP⟩:∃P,P=T++x:=⟨_,rfl⟩
   obtain⟨Q,hQ⟩:∃Q,Q=P++y:=⟨_,rfl⟩
   have hPs:P.size≤1476395062:=by rw[hP,ByteArray.size_append];omega
   have a1:∀w,(Op.stringOp .add T x).run Tryz.prog w= .ok (.string P) w:=fun w=>by rw[hP];exact run_string_add_sum w _ _ (by omega)
   have a2:∀w,(Op.stringOp .add P y).run Tryz.prog w= .ok (.string Q) w:=fun w=>by rw[hQ];exact run_string_add_sum w _ _ (by omega)
   have HQ2:=hid (show Q=ofL (ab9 (acr.take (j+1)) (VL.take (j+1)))from by
    rw[hQ,hP,HT.out,HTN.out,←List.append_assoc,←Bf,←Bf]
    rfl)
   clear hP hQ hPs hxs hys hts
   go_wp2_with fail
   go_region
   go_wp2_with fail
   go_roundw
   case rel=>exact⟨j+1,Q,by omega,by go_num,rfl,HBR.out.drew,HQ2⟩
   case measure=>simp[intOf];omega
  ·have afl:j=11:=by omega
   subst afl
   rw[show acr.take 11=acr from rfl,List.take_of_length_le (Nat.le_of_eq aev.out)]at HT
   have HF:=hid (HBF.out.trans (HBR.out.mono (by have:=HBF.out.size;have:=HR1.out;have:=HL.out;omega)))
   obtain⟨K,hK⟩:∃K,K=T++⟨#[125]⟩:=⟨_,rfl⟩
   have ha:∀w,(Op.stringOp .add T ⟨#[125]⟩).run Tryz.prog w= .ok (.string K) w:=fun w=>by rw[hK];exact run_string_add_sum w _ _ (by show T.size+1≤_;omega)
   have HKK:=hid (show ofL (rD s)=K from by rw[qm.out,hK,HT.out])
   clear hK hts
   go_wp2_with fail
   go_ret
   rw[HKK.out]
   exact⟨rfl,by rw[HBB.out];exact HF.out⟩
theorem aef{f:Fld}(h:0<f.width)(m:Mg):m.val f=decDigits (m.num f):=by cases f<;>first|exact absurd h (by decide)|rfl
theorem aeg{f:Fld}(h:f.isText=true)(m:Mg):m.val f=bD (m.txt f):=by cases f<;>first|exact absurd h (by decide)|rfl
theorem acO{α:Type}(g:α→List UInt8)(l:List α)(k:Nat)(x:α)(hx:l[k]? =some x):iJ ((l.take (k+1)).map g)=iJ ((l.take k).map g)++((if k=0 then []else [32])++g x):=by
 rw[List.take_add_one,hx,Option.toList_some,List.map_append]
 cases l with
 |nil=>simp at hx
 |cons y r=>
  cases k with
  |zero=>simp[iJ]
  |succ k=>simp[iJ]
theorem adX{w:World}{op:Oper}{a:Act}{K:Act→World→Prop}{Q:Exit→Act→World→Prop}(s x:Operand)(ho:op.op= .call {callee:= .builtin .append,args:= #[s,x],argTypes:= #[22,22]})
  (base:Nat) (v:Value) (l:List UInt8) (hs:a.eval s=v) (hown:w.ownsRow base 5 1 v l.length (aX l)) (B:Nat) (A:Option Addr) (c:Nat) (news:List UInt8) (hx:a.eval x= .slice A news.length c) (hr:Reads w B 1 A news.length (aX news))
  (hlen:l.length+news.length≤140737488355327) (hbase:base≤w.heap.size)
  (h:∀v' w',w'.ownsRow base 5 1 v' (l++news).length (aX (l++news))→w.grownBy w' v.ownBlock→K (a.put op.dst v') w'):op.wp Tryz.prog a w K Q:=by
 obtain⟨i0,hi0,hz0,hz1,hz2⟩:=info_parts mF
 refine qw w s x _ ho base 5 i0 _ 1 1 Tryz.underlying22 hi0 hz0 hz1 hz2 rfl (by omega) v l.length (aX l) hs hown B A news.length c (aX news) hx hr (sF news) (by unfold maxLen;omega) (by omega) hbase ?_
 intro v' w' h1 h2 h3
 refine h v' w' ?_ h2
 rw[List.length_append,gy]
 exact h1
theorem adY(l:List UInt8)(j:Nat)(c:UInt8)(h:l[j]? =some c):(l.take (j+1)).flatMap jW=(l.take j).flatMap jW++[hexD (c.toNat/16),hexD (c.toNat%16)]:=by
 rw[List.take_add_one,h,Option.toList_some,List.flatMap_append,List.flatMap_singleton]
 rfl
theorem adZ(l:List UInt8):(l.flatMap jW).length=2*l.length:=by
 induction l with
 |nil=>rfl
 |cons c l ih=>
  rw[List.flatMap_cons,List.length_append,ih]
  simp only[jW,List.length_cons,List.length_nil]
  omega
theorem acU(f:Fld)(m:Mg)(hm:m.ok)(vn vq vd:Value)(w:World)(hl:Lists w w.heap.size m vn vq vd)(hs:m.small)(hg:m.good f=true):
  Calls Tryz.prog 124 #[iM m vn vq vd,.int .u8 (f.rX.toNat:Int)] w fun e w'=>e= .returned (.string (ofL (m.val f)))∧Below w.heap.size w w':=by
 have hup:Below w.heap.size w (w.alloc (.cells (aF m vn vq vd).toArray 41)):=(Below.refl _ _).alloc (Nat.le_refl _) _
 have HU:=hid hup
 have HM:=hid (show aK (w.alloc (.cells (aF m vn vq vd).toArray 41)) w.heap.size m vn vq vd from Blk.new w _ _)
 have HL:=hid (hl.below hup)
 have HMO:=hid hm
 have HS:=hid hs
 have HG:=hid hg
 obtain⟨An,cn,rfl, -⟩:=hl.n
 obtain⟨Aq,cq,rfl, -⟩:=hl.q
 obtain⟨Ad,cd,rfl, -⟩:=hl.d
 clear hup hl hm hs hg
 have hlt1:=ZX f
 have hlt2:=acL f
 obtain⟨g78,g81,g83⟩:=hlt1
 obtain⟨Xx,g68⟩:=hlt2
 go_enter Tryz.func124,Tryz.ntmps124
 go_upto_region 1 with(fail)
 change Code.wp _ _ _ _ (w.alloc (.cells (aF m (.slice An m.names.length cn) (.slice Aq m.aV.length cq) (.slice Ad m.data.length cd)).toArray 41))
 generalize w.alloc (.cells (aF m (.slice An m.names.length cn) (.slice Aq m.aV.length cq) (.slice Ad m.data.length cd)).toArray 41)=w1 at HU HM HL⊢
 generalize hz:w.heap.size=z at HU HM HL⊢
 have HZZ:=hid hz;clear hz
 have HLE:=hid (show z≤w1.heap.size from Nat.le_of_lt (Blk.lt HM.out))
 go_wp2_with fail
 refine(jL f w1).mono ?_
 rintro e w' ⟨rfl,rfl⟩
 by_cases hw:0<f.width
 ·have hw1:(0:Int)<(f.width:Int):=by omega
  have HV:=hid (aef hw m)
  have HNC:=hid (fun w=>aaW f hw m HMO.out (.slice An m.names.length cn) (.slice Aq m.aV.length cq) (.slice Ad m.data.length cd) w)
  have hnl:=hid (abB HMO.out hw)
  clear hw g78 g81 g83 Xx g68
  go_wp2_with(refine wlw HM.out 0 (aF m (.slice An m.names.length cn) (.slice Aq m.aV.length cq) (.slice Ad m.data.length cd)) rfl rfl _ _ rfl rfl _ Tryz.underlying41 rfl aB ?_)
  refine(HNC.out w1).mono ?_
  rintro e w2 ⟨rfl,hb⟩
  have HB2:=hid (HU.out.trans (hb.mono HLE.out))
  have HS2:=hid (Nat.le_trans HLE.out hb.size)
  clear hb
  go_wp2_with fail
  refine(zS (m.num f) hnl.out w2).mono ?_
  rintro e w3 ⟨rfl,hb⟩
  have HB3:=hid (HB2.out.trans (hb.mono HS2.out))
  clear hb
  go_wp2_with fail
  go_ret
  rw[HV.out]
  exact⟨rfl,by rw[HZZ.out];exact HB3.out⟩
 ·have hw1:¬(0:Int)<(f.width:Int):=by omega
  have HWW:=hid hw
  clear hw
  go_wp2_with fail
  refine(jV f w1).mono ?_
  rintro e w' ⟨rfl,rfl⟩
  obtain⟨b,hb⟩:∃b,b=f.isText:=⟨_,rfl⟩
  rw[←hb]
  cases b with
  |true=>
   have HV:=hid (aeg hb.symm m)
   have HTC:=hid (fun w=>YB f hb.symm m (.slice An m.names.length cn) (.slice Aq m.aV.length cq) (.slice Ad m.data.length cd) w)
   have HTL:=hid (aau hb.symm HS.out)
   clear hb g78 g81 g83 Xx g68
   go_wp2_with(refine wlw HM.out 0 (aF m (.slice An m.names.length cn) (.slice Aq m.aV.length cq) (.slice Ad m.data.length cd)) rfl rfl _ _ rfl rfl _ Tryz.underlying41 rfl aB ?_)
   refine(HTC.out w1).mono ?_
   rintro e w2 ⟨rfl,hb⟩
   have HB2:=hid (HU.out.trans (hb.mono HLE.out))
   have HS2:=hid (Nat.le_trans HLE.out hb.size)
   clear hb
   go_wp2_with fail
   refine(YZ (m.txt f) HTL.out w2).mono ?_
   rintro e w3 ⟨rfl,hb⟩
   have HB3:=hid (HB2.out.trans (hb.mono HS2.out))
   clear hb
   go_wp2_with fail
   go_ret
   rw[HV.out]
   exact⟨rfl,by rw[HZZ.out];exact HB3.out⟩
  |false=>
   have HTT:=hid hb.symm
   clear hb
   by_cases aco:f= .qid
   ·rw[decide_eq_true aco]at Xx
    have HV:=hid (show m.val f=iG m.qid from by rw[aco];rfl)
    clear aco g78 g81 g83 g68
    have j0:w1.cell? ⟨z,13,none⟩=some (.int .u8 (m.qid.kind:Int)):=Blk.cell HM.out 13
    have j1:w1.cell? ⟨z,14,none⟩=some (.int .u32 (m.qid.vers:Int)):=Blk.cell HM.out 14
    have j2:w1.cell? ⟨z,15,none⟩=some (.int .u64 (m.qid.path:Int)):=Blk.cell HM.out 15
    go_wp2_with fail
    refine(acv m.qid HMO.out.qid.wide w1).mono ?_
    rintro e w3 ⟨rfl,hb⟩
    have HB3:=hid (HU.out.trans (hb.mono HLE.out))
    clear hb
    go_wp2_with fail
    go_ret
    rw[HV.out]
    exact⟨rfl,by rw[HZZ.out];exact HB3.out⟩
   rw[decide_eq_false aco]at Xx
   by_cases ab8:f= .stat
   ·rw[decide_eq_true ab8]at g83
    have HV:=hid (show m.val f=rD m.stat from by rw[ab8];rfl)
    have HP:=hid (Mg.prt HMO.out (by have h:=HG.out;rw[ab8]at h;exact h) HS.out)
    clear ab8 aco g78 g81 g68
    go_wp2_with(refine wlw HM.out 23 (stL m.stat) rfl rfl _ _ rfl rfl _ Tryz.underlying39 rfl bP ?_)
    refine(acN m.stat HP.out w1).mono ?_
    rintro e w3 ⟨rfl,hb⟩
    have HB3:=hid (HU.out.trans (hb.mono HLE.out))
    clear hb
    go_wp2_with fail
    go_ret
    rw[HV.out]
    exact⟨rfl,by rw[HZZ.out];exact HB3.out⟩
   rw[decide_eq_false ab8]at g83
   by_cases acg:f= .data
   ·rw[decide_eq_true acg]at g68
    have HV:=hid (show m.val f=m.data.flatMap jW from by rw[acg];rfl)
    have HDZ:=hid HS.out.data
    clear acg ab8 aco
    go_upto_region 12 with(fail)
    clear g78 g81 g83 Xx g68
    have hdz:=HDZ.out
    go_loopw [5,6] (fun b i wr=>∃j:Nat,j≤m.data.length∧i= .int .i64 (j:Int)∧wr.ownsRow w1.heap.size 5 1 b ((m.data.take j).flatMap jW).length (aX ((m.data.take j).flatMap jW))∧Below w1.heap.size w1 wr) (fun _ i _=>m.data.length-(intOf i).toNat)
    case atStart=>exact⟨0,by omega,rfl,dS _ _ _ _,Below.refl _ _⟩
    case round=>
     obtain⟨j,hj,rfl,ho,hb⟩:=hrel
     have HBR:=hid hb
     have HO:=hid ho
     have HXL:=hid (show((m.data.take j).flatMap jW).length≤33554432 from by rw[adZ,List.length_take];have:=HDZ.out;omega)
     clear hb ho
     have k0:wr.cell? ⟨z,22,none⟩=some (.slice Ad m.data.length cd):=Blk.cell (Blk.below HM.out HBR.out (Blk.lt HM.out)) 22
     by_cases hlt:j<m.data.length
     ·obtain⟨c,hc⟩:∃c,m.data[j]? =some c:=⟨m.data[j],List.getElem?_eq_getElem _⟩
      obtain⟨ad,hAd,aeO,kx⟩:=(HL.out.d.below (HBR.out.mono HLE.out)).at_ hc
      subst hAd
      have HNX:=hid (adY m.data j c hc)
      have HAD:=hid aeO
      have hcu:=c.toNat_lt
      have h16:c.toNat/16<16:=by omega
      have aaB:c.toNat%16<16:=by omega
      have HH1:=hid (fun w=>YO (c.toNat/16) h16 w)
      have HH2:=hid (fun w=>YO (c.toNat%16) aaB w)
      have HD1:=hid (show(c.toNat:Int)/16=((c.toNat/16:Nat):Int)from by omega)
      have HD2:=hid (show(c.toNat:Int)%16=((c.toNat%16:Nat):Int)from by omega)
      have HKZ:=hid k0
      have HKX:=hid kx
      clear kx aeO hc h16 aaB
      generalize(m.data.take j).flatMap jW=B at HO HNX HXL
      obtain⟨bA,bc,rfl,hbc,hbm⟩:=aJ HO.out
      go_upto_region 14 with(fail)
      try simp only[Act.put]
      clear k0
      have HCC:=hid (show∀wx:World,Below w1.heap.size wr wx→wx.cell? ⟨z,22,none⟩=some (.slice (some ad) m.data.length cd)∧wx.cell? (ad.add j)=some (.int .u8 (c.toNat:Int))from fun wx h=>⟨(h.cell (p:=⟨z,22,none⟩) (Blk.lt HM.out)).trans HKZ.out,(h.cell (p:=ad.add j) (by have h1:=HAD.out;have h2:=HLE.out;rw[qg];omega)).trans HKX.out⟩)
      refine wp_region_held_drew (S:=fun wx=>Below w1.heap.size wr wx) (by kernel_rfl) ((Below.refl _ wr).drew) (fun hHeld=> ?_)
      have HOD:=hid (aI HO.out (aC wr))
      have HSD:=hid (show w1.heap.size≤wr.drew.heap.size from HBR.out.size)
      generalize wr.drew=wd at hHeld HOD HSD⊢
      refine tk 47 0 (.slice bA B.length bc) ?_
      refine tk 48 1 (.pointer (some ⟨z,22,none⟩)) ?_
      refine tk2 49 2 (.slice (some ad) m.data.length cd) rfl (fun wq hSw=>by have k:=(HCC.out _ hSw).1;go_simp) ?_
      refine tk 50 3 (.int .i64 (j:Int)) ?_
      refine tk 51 4 (.pointer (some (ad.add j))) ?_
      refine tk2 52 5 (.int .u8 (c.toNat:Int)) rfl (fun wq hSw=>by have k:=(HCC.out _ hSw).2;go_simp) ?_
      refine tk2 53 6 (.int .u8 ((c.toNat:Int)/16)) rfl (fun wq hSw=>by go_simp;rw[IntKind.wrap_u8];omega) ?_
      refine tk 55 8 (.pointer (some ⟨z,22,none⟩)) ?_
      refine tk2 56 9 (.slice (some ad) m.data.length cd) rfl (fun wq hSw=>by have k:=(HCC.out _ hSw).1;go_simp) ?_
      refine tk 57 10 (.int .i64 (j:Int)) ?_
      refine tk 58 11 (.pointer (some (ad.add j))) ?_
      refine tk2 59 12 (.int .u8 (c.toNat:Int)) rfl (fun wq hSw=>by have k:=(HCC.out _ hSw).2;go_simp) ?_
      refine tk2 60 13 (.int .u8 ((c.toNat:Int)%16)) rfl (fun wq hSw=>by go_simp;rw[Int.tmod_eq_emod_of_nonneg (by omega)]) ?_
      refine wpAnyH_ready (rs:=[7]) (by kernel_rfl) (by simp) ?_
      refine AllReadyH.cons rfl (fun K hK=> ?_) AllReadyH.nil
      rw[if_pos (by rfl)]
      go_simp
      rw[HD1.out]
      refine(HH1.out _).mono ?_
      rintro e wy ⟨rfl,rfl⟩
      dsimp only
      refine hK.out _ _ hHeld (fun hHeld=> ?_)
      clear hK
      refine wpAnyH_ready (rs:=[14]) (by kernel_rfl) (by simp) ?_
      refine AllReadyH.cons rfl (fun K hK=> ?_) AllReadyH.nil
      rw[if_pos (by rfl)]
      go_simp
      rw[HD2.out]
      refine(HH2.out _).mono ?_
      rintro e wy ⟨rfl,rfl⟩
      dsimp only
      refine hK.out _ _ hHeld (fun hHeld=> ?_)
      clear hK
      refine wpAnyH_ready (rs:=[15]) (by kernel_rfl) (by simp) ?_
      refine AllReadyH.cons rfl (fun K hK=> ?_) AllReadyH.nil
      rw[if_pos (by rfl)]
      go_simp
      have hup:Below wd.heap.size wd (wd.alloc (.cells (aX [hexD (c.toNat/16),hexD (c.toNat%16)]).toArray 5)):=(Below.refl _ _).alloc (Nat.le_refl _) _
      have cO:=hHeld.trans (hup.mono (Nat.le_trans (Nat.le_of_eq rfl) (by have:=HSD.out;omega)))
      have HOA:=hid (aI HOD.out hup)
      have HRA:=hid (Yd wd [hexD (c.toNat/16),hexD (c.toNat%16)])
      have HSA:=hid (show w1.heap.size≤(wd.alloc (.cells (aX [hexD (c.toNat/16),hexD (c.toNat%16)]).toArray 5)).heap.size from Nat.le_trans HSD.out hup.size)
      clear hHeld hup
      refine hK.out _ (wd.alloc (.cells (aX [hexD (c.toNat/16),hexD (c.toNat%16)]).toArray 5)) cO (fun hHeld=> ?_)
      clear hK cO
      generalize wd.alloc (.cells (aX [hexD (c.toNat/16),hexD (c.toNat%16)]).toArray 5)=wa at hHeld HOA HRA HSA⊢
      generalize wd.heap.size=ra at HRA⊢
      refine wpAnyH_ready (rs:=[16]) (by kernel_rfl) (by simp) ?_
      refine AllReadyH.cons rfl (fun K hK=> ?_) AllReadyH.nil
      rw[if_pos (by rfl)]
      refine adX (.tmp 47) (.tmp 62) rfl w1.heap.size _ B rfl HOA.out (ra+1) _ 2 [hexD (c.toNat/16),hexD (c.toNat%16)] rfl HRA.out (by have:=HXL.out;simp only[List.length_cons,List.length_nil];omega) HSA.out ?_
      intro v4 w4 hown hgr
      have HO4:=hid hown
      have HG4:=hid (hHeld.grown hgr HSA.out (fun g hg=>dH HOA.out g hg))
      clear hHeld hown hgr
      refine hK.out _ _ HG4.out (fun hHeld=> ?_)
      clear hK
      refine tk 5 17 v4 ?_
      refine wpAnyH_done (by kernel_rfl) ?_ _
      go_wp2_with fail
      go_roundw
      case rel=>exact⟨j+1,by omega,by go_num,by rw[HNX.out];exact HO4.out,HBR.out.trans HG4.out⟩
      case measure=>simp[intOf];omega
     ·have hjl:m.data.take j=m.data:=List.take_of_length_le (by omega)
      rw[hjl,←HV.out]at HO HXL
      clear hjl
      obtain⟨A2,cap2,rfl,hc2,hm2⟩:=aJ HO.out
      have hcv:(convert 22 9 (.slice A2 (m.val f).length cap2)).run Tryz.prog wr= .ok (.string (ofL (m.val f))) wr:=jH (Bys.iH HO.out)
      have HF:=hid (HU.out.trans (HBR.out.mono HLE.out))
      go_wp2_with fail
      go_ret
      exact⟨rfl,by rw[HZZ.out];exact HF.out⟩
   rw[decide_eq_false acg]at g68
   by_cases ab7:f= .names
   ·rw[decide_eq_true ab7]at g78
    have HV:=hid (show m.val f=91::(iJ (m.names.map bD)++[93])from by rw[ab7];rfl)
    have h16:m.names.length≤16:=by
     have h:=HG.out
     rw[ab7]at h
     have h2:(decide (m.names.length≤16)&&m.names.all _)=true:=h
     rw[Bool.and_eq_true]at h2
     exact of_decide_eq_true h2.1
    rw[decide_eq_false (by rw[ab7];decide:¬f= .aV)]at g81
    have HNZ:=hid (aak HS.out)
    clear ab7 acg ab8 aco
    go_upto_region 18 with(fail)
    go_loopw [7,8] (fun t i wr=>∃(k:Nat) (X:ByteArray),k≤m.names.length∧i= .int .i64 (k:Int)∧t= .string X∧Below w1.heap.size w1 wr∧Hid (X=ofL (91::iJ ((m.names.take k).map bD)))∧X.size≤1+k*(67108866+1)) (fun _ i _=>m.names.length-(intOf i).toNat)
    case atStart=>exact⟨0,⟨#[91]⟩,by omega,rfl,rfl,Below.refl _ _,hid rfl,by decide⟩
    case round=>
     obtain⟨k,X,hk,rfl,rfl,hb,HX,hXs⟩:=hrel
     have HBR:=hid hb
     clear hb
     have hXZ:X.size≤1+16*(67108866+1):=Nat.le_trans hXs (Nat.add_le_add_left (Nat.mul_le_mul_right _ (by omega)) 1)
     have k0:wr.cell? ⟨z,11,none⟩=some (.slice An m.names.length cn):=Blk.cell (Blk.below HM.out HBR.out (Blk.lt HM.out)) 11
     by_cases hlt:k<m.names.length
     ·obtain⟨x,hx⟩:∃x,m.names[k]? =some x:=⟨m.names[k],List.getElem?_eq_getElem _⟩
      obtain⟨ad,hA, -,kx⟩:=(HL.out.n.below (HBR.out.mono HLE.out)).at_ hx
      subst hA
      have HNX:=hid (acO bD m.names k x hx)
      have HXM:=hid (List.mem_of_getElem? hx)
      obtain⟨Q,hQ⟩:∃Q,Q=ofL (bD x):=⟨_,rfl⟩
      have hQs:Q.size≤67108866:=by
       rw[hQ,dU]
       have h1:=kT x;have h2:=HNZ.out x HXM.out;omega
      have HQ:=hid hQ
      have hsz:wr.heap.size≥w1.heap.size:=HBR.out.size
      have HSR:=hid hsz
      clear hx hQ hsz
      by_cases hk0:k=0
      ·have hk1:¬(0:Int)<(k:Int):=by omega
       obtain⟨V,hV⟩:∃V,V=X++Q:=⟨_,rfl⟩
       have hVs:V.size≤1+(k+1)*(67108866+1):=by rw[hV,ByteArray.size_append,Nat.succ_mul];omega
       have a1:∀w,(Op.stringOp .add X Q).run Tryz.prog w= .ok (.string V) w:=fun w=>by rw[hV];exact run_string_add_sum w _ _ (by omega)
       have HYE:=hid (show V=ofL (91::iJ ((m.names.take (k+1)).map bD))from by
        rw[hV,HX.out,HQ.out,Bf,HNX.out,if_pos hk0]
        simp)
       have HYS:=hid hVs
       clear hV hVs hXs hXZ hQs hk0
       go_wp2_with fail
       refine(YZ x (HNZ.out x HXM.out) wr).mono ?_
       rintro e w3 ⟨rfl,hb⟩
       have HB3:=hid (HBR.out.trans (hb.mono HSR.out))
       clear hb
       rw[show ofL (Ah x.data.toList)=Q from HQ.out.symm]
       go_wp2_with fail
       go_roundw
       case rel=>exact⟨k+1,V,by omega,by go_num,rfl,HB3.out,HYE,HYS.out⟩
       case measure=>simp[intOf];omega
      ·have hk1:(0:Int)<(k:Int):=by omega
       obtain⟨Y,hY⟩:∃Y,Y=X++⟨#[32]⟩:=⟨_,rfl⟩
       obtain⟨V,hV⟩:∃V,V=Y++Q:=⟨_,rfl⟩
       have hYs:Y.size=X.size+1:=by rw[hY,ByteArray.size_append];rfl
       have hVs:V.size≤1+(k+1)*(67108866+1):=by rw[hV,ByteArray.size_append,hYs,Nat.succ_mul];omega
       have a1:∀w,(Op.stringOp .add X ⟨#[32]⟩).run Tryz.prog w= .ok (.string Y) w:=fun w=>by rw[hY];exact run_string_add_sum w _ _ (by show X.size+1≤_;omega)
       have a2:∀w,(Op.stringOp .add Y Q).run Tryz.prog w= .ok (.string V) w:=fun w=>by rw[hV];exact run_string_add_sum w _ _ (by omega)
       have HYE:=hid (show V=ofL (91::iJ ((m.names.take (k+1)).map bD))from by
        rw[hV,hY,HX.out,HQ.out,show(⟨#[32]⟩:ByteArray)=ofL [32]from rfl,Bf,Bf,HNX.out,if_neg hk0]
        simp)
       have HYS:=hid hVs
       clear hV hY hYs hVs hXs hXZ hQs hk0
       go_wp2_with fail
       refine(YZ x (HNZ.out x HXM.out) wr).mono ?_
       rintro e w3 ⟨rfl,hb⟩
       have HB3:=hid (HBR.out.trans (hb.mono HSR.out))
       clear hb
       rw[show ofL (Ah x.data.toList)=Q from HQ.out.symm]
       go_wp2_with fail
       go_roundw
       case rel=>exact⟨k+1,V,by omega,by go_num,rfl,HB3.out,HYE,HYS.out⟩
       case measure=>simp[intOf];omega
     ·have hjl:m.names.take k=m.names:=List.take_of_length_le (by omega)
      rw[hjl]at HX
      obtain⟨V,hV⟩:∃V,V=X++⟨#[93]⟩:=⟨_,rfl⟩
      have a1:∀w,(Op.stringOp .add X ⟨#[93]⟩).run Tryz.prog w= .ok (.string V) w:=fun w=>by rw[hV];exact run_string_add_sum w _ _ (by show X.size+1≤_;omega)
      have HVE:=hid (show ofL (m.val f)=V from by
       rw[HV.out,hV,HX.out,show(⟨#[93]⟩:ByteArray)=ofL [93]from rfl,Bf]
       rfl)
      have HF:=hid (HU.out.trans (HBR.out.mono HLE.out))
      clear hV hXs hXZ hjl
      go_upto_region 24 with(fail)
      go_loopw [7,9] (fun t i wx=>t= .string X∧i= .int .i64 0∧wr=wx) (fun _ _ _=>0)
      case atStart=>exact⟨rfl,rfl,rfl⟩
      case round=>
       obtain⟨rfl,rfl,rfl⟩:=hrel
       go_wp2_with fail
       go_ret
       rw[HVE.out]
       exact⟨rfl,by rw[HZZ.out];exact HF.out⟩
   rw[decide_eq_false ab7]at g78
   by_cases acn:f= .aV
   ·rw[decide_eq_true acn]at g81
    have HV:=hid (show m.val f=91::(iJ (m.aV.map iG)++[93])from by rw[acn];rfl)
    have h16:m.aV.length≤16:=by
     have h:=HG.out
     rw[acn]at h
     exact of_decide_eq_true h
    clear acn acg ab8 aco
    go_upto_region 18 with(fail)
    go_loopw [7,8] (fun t i wx=>t= .string ⟨#[91]⟩∧i= .int .i64 0∧w1=wx) (fun _ _ _=>0)
    case atStart=>exact⟨rfl,rfl,rfl⟩
    case round=>
    obtain⟨rfl,rfl,rfl⟩:=hrel
    go_upto_region 24 with(fail)
    go_loopw [7,9] (fun t i wr=>∃(k:Nat) (X:ByteArray),k≤m.aV.length∧i= .int .i64 (k:Int)∧t= .string X∧Below w1.heap.size w1 wr∧Hid (X=ofL (91::iJ ((m.aV.take k).map iG)))∧X.size≤1+k*(62+1)) (fun _ i _=>m.aV.length-(intOf i).toNat)
    case atStart=>exact⟨0,⟨#[91]⟩,by omega,rfl,rfl,Below.refl _ _,hid rfl,by decide⟩
    case round=>
     obtain⟨k,X,hk,rfl,rfl,hb,HX,hXs⟩:=hrel
     have HBR:=hid hb
     clear hb
     have hXZ:X.size≤1+16*(62+1):=Nat.le_trans hXs (Nat.add_le_add_left (Nat.mul_le_mul_right _ (by omega)) 1)
     have k0:wr.cell? ⟨z,12,none⟩=some (.slice Aq m.aV.length cq):=Blk.cell (Blk.below HM.out HBR.out (Blk.lt HM.out)) 12
     by_cases hlt:k<m.aV.length
     ·obtain⟨x,hx⟩:∃x,m.aV[k]? =some x:=⟨m.aV[k],List.getElem?_eq_getElem _⟩
      obtain⟨ad,hA, -,kx0,kx1,kx2⟩:=(HL.out.q.below (HBR.out.mono HLE.out)).at_ hx
      subst hA
      have HNX:=hid (acO iG m.aV k x hx)
      have HXM:=hid (List.mem_of_getElem? hx)
      obtain⟨Q,hQ⟩:∃Q,Q=ofL (iG x):=⟨_,rfl⟩
      have hQs:Q.size≤62:=by
       rw[hQ,dU]
       exact pI _ (HMO.out.aV x HXM.out).wide
      have HQ:=hid hQ
      have hsz:wr.heap.size≥w1.heap.size:=HBR.out.size
      have HSR:=hid hsz
      clear hx hQ hsz
      by_cases hk0:k=0
      ·have hk1:¬(0:Int)<(k:Int):=by omega
       obtain⟨V,hV⟩:∃V,V=X++Q:=⟨_,rfl⟩
       have hVs:V.size≤1+(k+1)*(62+1):=by rw[hV,ByteArray.size_append,Nat.succ_mul];omega
       have a1:∀w,(Op.stringOp .add X Q).run Tryz.prog w= .ok (.string V) w:=fun w=>by rw[hV];exact run_string_add_sum w _ _ (by omega)
       have HYE:=hid (show V=ofL (91::iJ ((m.aV.take (k+1)).map iG))from by
        rw[hV,HX.out,HQ.out,Bf,HNX.out,if_pos hk0]
        simp)
       have HYS:=hid hVs
       clear hV hVs hXs hXZ hQs hk0
       go_wp2_with fail
       refine(acv x (HMO.out.aV x HXM.out).wide wr).mono ?_
       rintro e w3 ⟨rfl,hb⟩
       have HB3:=hid (HBR.out.trans (hb.mono HSR.out))
       clear hb
       rw[←HQ.out]
       go_wp2_with fail
       go_roundw
       case rel=>exact⟨k+1,V,by omega,by go_num,rfl,HB3.out,HYE,HYS.out⟩
       case measure=>simp[intOf];omega
      ·have hk1:(0:Int)<(k:Int):=by omega
       obtain⟨Y,hY⟩:∃Y,Y=X++⟨#[32]⟩:=⟨_,rfl⟩
       obtain⟨V,hV⟩:∃V,V=Y++Q:=⟨_,rfl⟩
       have hYs:Y.size=X.size+1:=by rw[hY,ByteArray.size_append];rfl
       have hVs:V.size≤1+(k+1)*(62+1):=by rw[hV,ByteArray.size_append,hYs,Nat.succ_mul];omega
       have a1:∀w,(Op.stringOp .add X ⟨#[32]⟩).run Tryz.prog w= .ok (.string Y) w:=fun w=>by rw[hY];exact run_string_add_sum w _ _ (by show X.size+1≤_;omega)
       have a2:∀w,(Op.stringOp .add Y Q).run Tryz.prog w= .ok (.string V) w:=fun w=>by rw[hV];exact run_string_add_sum w _ _ (by omega)
       have HYE:=hid (show V=ofL (91::iJ ((m.aV.take (k+1)).map iG))from by
        rw[hV,hY,HX.out,HQ.out,show(⟨#[32]⟩:ByteArray)=ofL [32]from rfl,Bf,Bf,HNX.out,if_neg hk0]
        simp)
       have HYS:=hid hVs
       clear hV hY hYs hVs hXs hXZ hQs hk0
       go_wp2_with fail
       refine(acv x (HMO.out.aV x HXM.out).wide wr).mono ?_
       rintro e w3 ⟨rfl,hb⟩
       have HB3:=hid (HBR.out.trans (hb.mono HSR.out))
       clear hb
       rw[←HQ.out]
       go_wp2_with fail
       go_roundw
       case rel=>exact⟨k+1,V,by omega,by go_num,rfl,HB3.out,HYE,HYS.out⟩
       case measure=>simp[intOf];omega
     ·have hjl:m.aV.take k=m.aV:=List.take_of_length_le (by omega)
      rw[hjl]at HX
      obtain⟨V,hV⟩:∃V,V=X++⟨#[93]⟩:=⟨_,rfl⟩
      have a1:∀w,(Op.stringOp .add X ⟨#[93]⟩).run Tryz.prog w= .ok (.string V) w:=fun w=>by rw[hV];exact run_string_add_sum w _ _ (by show X.size+1≤_;omega)
      have HVE:=hid (show ofL (m.val f)=V from by
       rw[HV.out,hV,HX.out,show(⟨#[93]⟩:ByteArray)=ofL [93]from rfl,Bf]
       rfl)
      have HF:=hid (HU.out.trans (HBR.out.mono HLE.out))
      clear hV hXs hXZ hjl
      go_wp2_with fail
      go_ret
      rw[HVE.out]
      exact⟨rfl,by rw[HZZ.out];exact HF.out⟩
   exact(ade HWW.out HTT.out ab7 acn aco acg ab8).elim
end Go.Proofs.YtkblmloobkiloaaGreatDoor
