/-
  MT6: what the laws of package msg need of them.
-/
import Derived.Test.YtkblmloobkiloaaGreatDoorT00
import Derived.Test.YtkblmloobkiloaaGreatDoorT15
namespace Go.Proofs.YtkblmloobkiloaaGreatDoor
open Go.Lib (hid)
open Go.RowKit
open Go.Lib (decDigits)
theorem Bf(a b:List UInt8):ofL a++ofL b=ofL (a++b):=by
 apply ByteArray.ext
 rw[←Array.toList_inj]
 simp[ofL,ByteArray.data_append]
structure Sta.prt(s:Sta):Prop where
 type:s.type<18446744073709551616
 dev:s.dev<18446744073709551616
 qid:s.qid.kind<18446744073709551616∧s.qid.vers<18446744073709551616∧s.qid.path<18446744073709551616
 mode:s.mode<18446744073709551616
 atime:s.atime<18446744073709551616
 mtime:s.mtime<18446744073709551616
 length:s.length<18446744073709551616
 name:Go.Proofs.YtkblmloobkiloaaGreatDoor.good s.name=true∧s.name.size≤16777216
 uid:Go.Proofs.YtkblmloobkiloaaGreatDoor.good s.uid=true∧s.uid.size≤16777216
 gid:Go.Proofs.YtkblmloobkiloaaGreatDoor.good s.gid=true∧s.gid.size≤16777216
 fE:Go.Proofs.YtkblmloobkiloaaGreatDoor.good s.fE=true∧s.fE.size≤16777216
set_option maxRecDepth 100000 in
set_option maxHeartbeats 6400000 in
theorem Bg(s:Sta)(hs:s.prt)(w:World)(ht:TP w)(h8:8≤w.heap.size):
  Calls Tryz.prog 240 #[stV s] w fun e w'=>e= .returned (.string (ofL (rD s)))∧Below w.heap.size w w':=by
 have hup:Below w.heap.size w (w.alloc (.cells #[.int .u16 (s.type:Int),.int .u32 (s.dev:Int),.int .u8 (s.qid.kind:Int),.int .u32 (s.qid.vers:Int),.int .u64 (s.qid.path:Int),.int .u32 (s.mode:Int),.int .u32 (s.atime:Int),.int .u32 (s.mtime:Int),.int .u64 (s.length:Int),.string s.name,.string s.uid,.string s.gid,.string s.fE] 39)):=(Below.refl _ _).alloc (Nat.le_refl _) _
 have HN:=hid (Blk.new w 39 #[.int .u16 (s.type:Int),.int .u32 (s.dev:Int),.int .u8 (s.qid.kind:Int),.int .u32 (s.qid.vers:Int),.int .u64 (s.qid.path:Int),.int .u32 (s.mode:Int),.int .u32 (s.atime:Int),.int .u32 (s.mtime:Int),.int .u64 (s.length:Int),.string s.name,.string s.uid,.string s.gid,.string s.fE])
 have HT0:=hid (ht.low hup h8)
 have HB:=hid hup
 have HQ:=hid hs
 have H8:=hid h8
 clear hup ht h8
 obtain⟨X0,hX0⟩:∃X,X=ofL (decDigits s.type):=⟨_,rfl⟩
 have hz0:X0.size≤20:=hX0▸jD _ hs.type
 obtain⟨X1,hX1⟩:∃X,X=ofL (decDigits s.dev):=⟨_,rfl⟩
 have hz1:X1.size≤20:=hX1▸jD _ hs.dev
 obtain⟨X2,hX2⟩:∃X,X=ofL (iG s.qid):=⟨_,rfl⟩
 have hz2:X2.size≤62:=hX2▸(by rw[dU];exact pI _ hs.qid)
 obtain⟨X3,hX3⟩:∃X,X=ofL (decDigits s.mode):=⟨_,rfl⟩
 have hz3:X3.size≤20:=hX3▸jD _ hs.mode
 obtain⟨X4,hX4⟩:∃X,X=ofL (decDigits s.atime):=⟨_,rfl⟩
 have hz4:X4.size≤20:=hX4▸jD _ hs.atime
 obtain⟨X5,hX5⟩:∃X,X=ofL (decDigits s.mtime):=⟨_,rfl⟩
 have hz5:X5.size≤20:=hX5▸jD _ hs.mtime
 obtain⟨X6,hX6⟩:∃X,X=ofL (decDigits s.length):=⟨_,rfl⟩
 have hz6:X6.size≤20:=hX6▸jD _ hs.length
 obtain⟨X7,hX7⟩:∃X,X=ofL (bD s.name):=⟨_,rfl⟩
 have hz7:X7.size≤67108866:=hX7▸(by rw[dU];have:=kT s.name;have:=hs.name.2;omega)
 obtain⟨X8,hX8⟩:∃X,X=ofL (bD s.uid):=⟨_,rfl⟩
 have hz8:X8.size≤67108866:=hX8▸(by rw[dU];have:=kT s.uid;have:=hs.uid.2;omega)
 obtain⟨X9,hX9⟩:∃X,X=ofL (bD s.gid):=⟨_,rfl⟩
 have hz9:X9.size≤67108866:=hX9▸(by rw[dU];have:=kT s.gid;have:=hs.gid.2;omega)
 obtain⟨X10,Om⟩:∃X,X=ofL (bD s.fE):=⟨_,rfl⟩
 have Vj:X10.size≤67108866:=Om▸(by rw[dU];have:=kT s.fE;have:=hs.fE.2;omega)
 clear hs
 obtain⟨P0,hP0⟩:∃P,P=(⟨#[123,116,121,112,101,61]⟩:ByteArray)++X0:=⟨_,rfl⟩
 have hs0:P0.size=6+X0.size:=by rw[hP0,ByteArray.size_append];try rfl
 have ha0:∀w,(Op.stringOp .add (⟨#[123,116,121,112,101,61]⟩:ByteArray) X0).run Tryz.prog w= .ok (.string P0) w:=fun w=>by
  rw[hP0]
  exact run_string_add_sum w _ _ (by rw[←ByteArray.size_append,←hP0];omega)
 obtain⟨P1,hP1⟩:∃P,P=P0++(⟨#[32,100,101,118,61]⟩:ByteArray):=⟨_,rfl⟩
 have hs1:P1.size=P0.size+5:=by rw[hP1,ByteArray.size_append];try rfl
 have ha1:∀w,(Op.stringOp .add P0 (⟨#[32,100,101,118,61]⟩:ByteArray)).run Tryz.prog w= .ok (.string P1) w:=fun w=>by
  rw[hP1]
  exact run_string_add_sum w _ _ (by rw[←ByteArray.size_append,←hP1];omega)
 obtain⟨P2,hP2⟩:∃P,P=P1++X1:=⟨_,rfl⟩
 have hs2:P2.size=P1.size+X1.size:=by rw[hP2,ByteArray.size_append];try rfl
 have ha2:∀w,(Op.stringOp .add P1 X1).run Tryz.prog w= .ok (.string P2) w:=fun w=>by
  rw[hP2]
  exact run_string_add_sum w _ _ (by rw[←ByteArray.size_append,←hP2];omega)
 obtain⟨P3,hP3⟩:∃P,P=P2++(⟨#[32,113,105,100,61]⟩:ByteArray):=⟨_,rfl⟩
 have hs3:P3.size=P2.size+5:=by rw[hP3,ByteArray.size_append];try rfl
 have ha3:∀w,(Op.stringOp .add P2 (⟨#[32,113,105,100,61]⟩:ByteArray)).run Tryz.prog w= .ok (.string P3) w:=fun w=>by
  rw[hP3]
  exact run_string_add_sum w _ _ (by rw[←ByteArray.size_append,←hP3];omega)
 obtain⟨P4,hP4⟩:∃P,P=P3++X2:=⟨_,rfl⟩
 have hs4:P4.size=P3.size+X2.size:=by rw[hP4,ByteArray.size_append];try rfl
 have ha4:∀w,(Op.stringOp .add P3 X2).run Tryz.prog w= .ok (.string P4) w:=fun w=>by
  rw[hP4]
  exact run_string_add_sum w _ _ (by rw[←ByteArray.size_append,←hP4];omega)
 obtain⟨P5,hP5⟩:∃P,P=P4++(⟨#[32,109,111,100,101,61]⟩:ByteArray):=⟨_,rfl⟩
 have hs5:P5.size=P4.size+6:=by rw[hP5,ByteArray.size_append];try rfl
 have ha5:∀w,(Op.stringOp .add P4 (⟨#[32,109,111,100,101,61]⟩:ByteArray)).run Tryz.prog w= .ok (.string P5) w:=fun w=>by
  rw[hP5]
  exact run_string_add_sum w _ _ (by rw[←ByteArray.size_append,←hP5];omega)
 obtain⟨P6,hP6⟩:∃P,P=P5++X3:=⟨_,rfl⟩
 have hs6:P6.size=P5.size+X3.size:=by rw[hP6,ByteArray.size_append];try rfl
 have ha6:∀w,(Op.stringOp .add P5 X3).run Tryz.prog w= .ok (.string P6) w:=fun w=>by
  rw[hP6]
  exact run_string_add_sum w _ _ (by rw[←ByteArray.size_append,←hP6];omega)
 obtain⟨P7,hP7⟩:∃P,P=P6++(⟨#[32,97,116,105,109,101,61]⟩:ByteArray):=⟨_,rfl⟩
 have hs7:P7.size=P6.size+7:=by rw[hP7,ByteArray.size_append];try rfl
 have ha7:∀w,(Op.stringOp .add P6 (⟨#[32,97,116,105,109,101,61]⟩:ByteArray)).run Tryz.prog w= .ok (.string P7) w:=fun w=>by
  rw[hP7]
  exact run_string_add_sum w _ _ (by rw[←ByteArray.size_append,←hP7];omega)
 obtain⟨P8,hP8⟩:∃P,P=P7++X4:=⟨_,rfl⟩
 have hs8:P8.size=P7.size+X4.size:=by rw[hP8,ByteArray.size_append];try rfl
 have ha8:∀w,(Op.stringOp .add P7 X4).run Tryz.prog w= .ok (.string P8) w:=fun w=>by
  rw[hP8]
  exact run_string_add_sum w _ _ (by rw[←ByteArray.size_append,←hP8];omega)
 obtain⟨P9,hP9⟩:∃P,P=P8++(⟨#[32,109,116,105,109,101,61]⟩:ByteArray):=⟨_,rfl⟩
 have hs9:P9.size=P8.size+7:=by rw[hP9,ByteArray.size_append];try rfl
 have ha9:∀w,(Op.stringOp .add P8 (⟨#[32,109,116,105,109,101,61]⟩:ByteArray)).run Tryz.prog w= .ok (.string P9) w:=fun w=>by
  rw[hP9]
  exact run_string_add_sum w _ _ (by rw[←ByteArray.size_append,←hP9];omega)
 obtain⟨P10,KX⟩:∃P,P=P9++X5:=⟨_,rfl⟩
 have hs10:P10.size=P9.size+X5.size:=by rw[KX,ByteArray.size_append];try rfl
 have W_:∀w,(Op.stringOp .add P9 X5).run Tryz.prog w= .ok (.string P10) w:=fun w=>by
  rw[KX]
  exact run_string_add_sum w _ _ (by rw[←ByteArray.size_append,←KX];omega)
 obtain⟨P11,KY⟩:∃P,P=P10++(⟨#[32,108,101,110,103,116,104,61]⟩:ByteArray):=⟨_,rfl⟩
 have hs11:P11.size=P10.size+8:=by rw[KY,ByteArray.size_append];try rfl
 have Xa:∀w,(Op.stringOp .add P10 (⟨#[32,108,101,110,103,116,104,61]⟩:ByteArray)).run Tryz.prog w= .ok (.string P11) w:=fun w=>by
  rw[KY]
  exact run_string_add_sum w _ _ (by rw[←ByteArray.size_append,←KY];omega)
 obtain⟨P12,KZ⟩:∃P,P=P11++X6:=⟨_,rfl⟩
 have Vk:P12.size=P11.size+X6.size:=by rw[KZ,ByteArray.size_append];try rfl
 have Xb:∀w,(Op.stringOp .add P11 X6).run Tryz.prog w= .ok (.string P12) w:=fun w=>by
  rw[KZ]
  exact run_string_add_sum w _ _ (by rw[←ByteArray.size_append,←KZ];omega)
 obtain⟨P13,K_⟩:∃P,P=P12++(⟨#[32,110,97,109,101,61]⟩:ByteArray):=⟨_,rfl⟩
 have Vl:P13.size=P12.size+6:=by rw[K_,ByteArray.size_append];try rfl
 have Xc:∀w,(Op.stringOp .add P12 (⟨#[32,110,97,109,101,61]⟩:ByteArray)).run Tryz.prog w= .ok (.string P13) w:=fun w=>by
  rw[K_]
  exact run_string_add_sum w _ _ (by rw[←ByteArray.size_append,←K_];omega)
 obtain⟨P14,La⟩:∃P,P=P13++X7:=⟨_,rfl⟩
 have Vm:P14.size=P13.size+X7.size:=by rw[La,ByteArray.size_append];try rfl
 have Xd:∀w,(Op.stringOp .add P13 X7).run Tryz.prog w= .ok (.string P14) w:=fun w=>by
  rw[La]
  exact run_string_add_sum w _ _ (by rw[←ByteArray.size_append,←La];omega)
 obtain⟨P15,Lc⟩:∃P,P=P14++(⟨#[32,117,105,100,61]⟩:ByteArray):=⟨_,rfl⟩
 have Vo:P15.size=P14.size+5:=by rw[Lc,ByteArray.size_append];try rfl
 have Xe:∀w,(Op.stringOp .add P14 (⟨#[32,117,105,100,61]⟩:ByteArray)).run Tryz.prog w= .ok (.string P15) w:=fun w=>by
  rw[Lc]
  exact run_string_add_sum w _ _ (by rw[←ByteArray.size_append,←Lc];omega)
 obtain⟨P16,Ld⟩:∃P,P=P15++X8:=⟨_,rfl⟩
 have Vp:P16.size=P15.size+X8.size:=by rw[Ld,ByteArray.size_append];try rfl
 have ha16:∀w,(Op.stringOp .add P15 X8).run Tryz.prog w= .ok (.string P16) w:=fun w=>by
  rw[Ld]
  exact run_string_add_sum w _ _ (by rw[←ByteArray.size_append,←Ld];omega)
 obtain⟨P17,Le⟩:∃P,P=P16++(⟨#[32,103,105,100,61]⟩:ByteArray):=⟨_,rfl⟩
 have Vq:P17.size=P16.size+5:=by rw[Le,ByteArray.size_append];try rfl
 have Xf:∀w,(Op.stringOp .add P16 (⟨#[32,103,105,100,61]⟩:ByteArray)).run Tryz.prog w= .ok (.string P17) w:=fun w=>by
  rw[Le]
  exact run_string_add_sum w _ _ (by rw[←ByteArray.size_append,←Le];omega)
 obtain⟨P18,Lh⟩:∃P,P=P17++X9:=⟨_,rfl⟩
 have Vr:P18.size=P17.size+X9.size:=by rw[Lh,ByteArray.size_append];try rfl
 have Xg:∀w,(Op.stringOp .add P17 X9).run Tryz.prog w= .ok (.string P18) w:=fun w=>by
  rw[Lh]
  exact run_string_add_sum w _ _ (by rw[←ByteArray.size_append,←Lh];omega)
 obtain⟨P19,Lj⟩:∃P,P=P18++(⟨#[32,109,117,105,100,61]⟩:ByteArray):=⟨_,rfl⟩
 have Vs:P19.size=P18.size+6:=by rw[Lj,ByteArray.size_append];try rfl
 have Xh:∀w,(Op.stringOp .add P18 (⟨#[32,109,117,105,100,61]⟩:ByteArray)).run Tryz.prog w= .ok (.string P19) w:=fun w=>by
  rw[Lj]
  exact run_string_add_sum w _ _ (by rw[←ByteArray.size_append,←Lj];omega)
 obtain⟨P20,Ll⟩:∃P,P=P19++X10:=⟨_,rfl⟩
 have Vt:P20.size=P19.size+X10.size:=by rw[Ll,ByteArray.size_append];try rfl
 have Xi:∀w,(Op.stringOp .add P19 X10).run Tryz.prog w= .ok (.string P20) w:=fun w=>by
  rw[Ll]
  exact run_string_add_sum w _ _ (by rw[←ByteArray.size_append,←Ll];omega)
 obtain⟨P21,Lm⟩:∃P,P=P20++(⟨#[125]⟩:ByteArray):=⟨_,rfl⟩
 have Vu:P21.size=P20.size+1:=by rw[Lm,ByteArray.size_append];try rfl
 have Xj:∀w,(Op.stringOp .add P20 (⟨#[125]⟩:ByteArray)).run Tryz.prog w= .ok (.string P21) w:=fun w=>by
  rw[Lm]
  exact run_string_add_sum w _ _ (by rw[←ByteArray.size_append,←Lm];omega)
 have qm:=hid (show ofL (rD s)=P21 from by
  rw[Lm,Ll,Lj,Lh,Le,Ld,Lc,La,K_,KZ,KY,KX,hP9,hP8,hP7,hP6,hP5,hP4,hP3,hP2,hP1,hP0,hX0,hX1,hX2,hX3,hX4,hX5,hX6,hX7,hX8,hX9,Om]
  show ofL (rD s)=ofL [123,116,121,112,101,61]++ofL (decDigits s.type)++ofL [32,100,101,118,61]++ofL (decDigits s.dev)++ofL [32,113,105,100,61]++ofL (iG s.qid)++ofL [32,109,111,100,101,61]++ofL (decDigits s.mode)++ofL [32,97,116,105,109,101,61]++ofL (decDigits s.atime)++ofL [32,109,116,105,109,101,61]++ofL (decDigits s.mtime)++ofL [32,108,101,110,103,116,104,61]++ofL (decDigits s.length)++ofL [32,110,97,109,101,61]++ofL (bD s.name)++ofL [32,117,105,100,61]++ofL (bD s.uid)++ofL [32,103,105,100,61]++ofL (bD s.gid)++ofL [32,109,117,105,100,61]++ofL (bD s.fE)++ofL [125]
  simp only[Bf]
  rfl)
 have HX0:=hid hX0.symm
 have HX1:=hid hX1.symm
 have HX2:=hid hX2.symm
 have HX3:=hid hX3.symm
 have HX4:=hid hX4.symm
 have HX5:=hid hX5.symm
 have HX6:=hid hX6.symm
 have HX7:=hid hX7.symm
 have HX8:=hid hX8.symm
 have HX9:=hid hX9.symm
 have IZ:=hid Om.symm
 clear hP0 hs0 hP1 hs1 hP2 hs2 hP3 hs3 hP4 hs4 hP5 hs5 hP6 hs6 hP7 hs7 hP8 hs8 hP9 hs9 KX hs10 KY hs11 KZ Vk K_ Vl La Vm Lc Vo Ld Vp Le Vq Lh Vr Lj Vs Ll Vt Lm Vu hX0 hz0 hX1 hz1 hX2 hz2 hX3 hz3 hX4 hz4 hX5 hz5 hX6 hz6 hX7 hz7 hX8 hz8 hX9 hz9 Om Vj
 unfold stV
 go_enter Tryz.func240,Tryz.ntmps240
 go_upto_region 1 with(fail)
 generalize w.alloc (.cells #[.int .u16 (s.type:Int),.int .u32 (s.dev:Int),.int .u8 (s.qid.kind:Int),.int .u32 (s.qid.vers:Int),.int .u64 (s.qid.path:Int),.int .u32 (s.mode:Int),.int .u32 (s.atime:Int),.int .u32 (s.mtime:Int),.int .u64 (s.length:Int),.string s.name,.string s.uid,.string s.gid,.string s.fE] 39)=w0 at HN HB HT0⊢
 generalize hb:w.heap.size=b at HN H8 HB⊢
 have HBB:=hid hb;clear hb
 have HL:=hid (Blk.lt HN.out)
 have HTP:=hid (show∀wx,Below w0.heap.size w0 wx→TP wx from fun wx h=>HT0.out.low h (by have:=HL.out;have:=H8.out;omega))
 have HTS:=hid (show∀wx:World,Below w0.heap.size w0 wx→8≤wx.heap.size from fun wx h=>by have:=h.size;have:=HL.out;have:=H8.out;omega)
 have HCC:=hid (show∀wx:World,Below w0.heap.size w0 wx→wx.cell? ⟨b,0,none⟩=some (.int .u16 (s.type:Int))∧wx.cell? ⟨b,1,none⟩=some (.int .u32 (s.dev:Int))∧wx.cell? ⟨b,2,none⟩=some (.int .u8 (s.qid.kind:Int))∧wx.cell? ⟨b,3,none⟩=some (.int .u32 (s.qid.vers:Int))∧wx.cell? ⟨b,4,none⟩=some (.int .u64 (s.qid.path:Int))∧wx.cell? ⟨b,5,none⟩=some (.int .u32 (s.mode:Int))∧wx.cell? ⟨b,6,none⟩=some (.int .u32 (s.atime:Int))∧wx.cell? ⟨b,7,none⟩=some (.int .u32 (s.mtime:Int))∧wx.cell? ⟨b,8,none⟩=some (.int .u64 (s.length:Int))∧wx.cell? ⟨b,9,none⟩=some (.string s.name)∧wx.cell? ⟨b,10,none⟩=some (.string s.uid)∧wx.cell? ⟨b,11,none⟩=some (.string s.gid)∧wx.cell? ⟨b,12,none⟩=some (.string s.fE)from fun wx h=>by
  have hk:=fun i=>(h.cell (p:=⟨b,i,none⟩) HL.out).trans (HN.out.cell i)
  exact⟨hk 0,hk 1,hk 2,hk 3,hk 4,hk 5,hk 6,hk 7,hk 8,hk 9,hk 10,hk 11,hk 12⟩)
 have UH:IntKind.u64.wrap (s.type:Int)=(s.type:Int):=eH HQ.out.type
 have Vw:IntKind.u64.wrap (s.dev:Int)=(s.dev:Int):=eH HQ.out.dev
 have UJ:IntKind.u64.wrap (s.mode:Int)=(s.mode:Int):=eH HQ.out.mode
 have TF:IntKind.u64.wrap (s.atime:Int)=(s.atime:Int):=eH HQ.out.atime
 have TG:IntKind.u64.wrap (s.mtime:Int)=(s.mtime:Int):=eH HQ.out.mtime
 refine wp_region_held_drew (S:=fun wx=>Below w0.heap.size w0 wx) (by kernel_rfl) (aC w0) (fun hHeld=> ?_)
 generalize w0.drew=wd at hHeld⊢
 refine tk 3 0 (.pointer (some ⟨b,0,none⟩)) ?_
 simp only[ah]
 refine tk2 4 1 (.int .u16 (s.type:Int)) rfl (fun wq hSw=>by have hcc:=HCC.out _ hSw;have k:=hcc.1;clear hcc;go_simp) ?_
 simp only[ah]
 refine tk 5 2 (.int .u64 (s.type:Int)) ?_
 simp only[ah]
 refine tk 9 6 (.pointer (some ⟨b,1,none⟩)) ?_
 simp only[ah]
 refine tk2 10 7 (.int .u32 (s.dev:Int)) rfl (fun wq hSw=>by have hcc:=HCC.out _ hSw;have k:=hcc.2.1;clear hcc;go_simp) ?_
 simp only[ah]
 refine tk 11 8 (.int .u64 (s.dev:Int)) ?_
 simp only[ah]
 refine tk 15 12 (.pointer (some ⟨b,2,none⟩)) ?_
 simp only[ah]
 refine tk2 16 13 (qdV s.qid) rfl (fun wq hSw=>by have hcc:=HCC.out _ hSw;have k0:=hcc.2.2.1;have k1:=hcc.2.2.2.1;have k2:=hcc.2.2.2.2.1;clear hcc;go_simp) ?_
 simp only[ah]
 refine tk 20 17 (.pointer (some ⟨b,5,none⟩)) ?_
 simp only[ah]
 refine tk2 21 18 (.int .u32 (s.mode:Int)) rfl (fun wq hSw=>by have hcc:=HCC.out _ hSw;have k:=hcc.2.2.2.2.2.1;clear hcc;go_simp) ?_
 simp only[ah]
 refine tk 22 19 (.int .u64 (s.mode:Int)) ?_
 simp only[ah]
 refine tk 26 23 (.pointer (some ⟨b,6,none⟩)) ?_
 simp only[ah]
 refine tk2 27 24 (.int .u32 (s.atime:Int)) rfl (fun wq hSw=>by have hcc:=HCC.out _ hSw;have k:=hcc.2.2.2.2.2.2.1;clear hcc;go_simp) ?_
 simp only[ah]
 refine tk 28 25 (.int .u64 (s.atime:Int)) ?_
 simp only[ah]
 refine tk 32 29 (.pointer (some ⟨b,7,none⟩)) ?_
 simp only[ah]
 refine tk2 33 30 (.int .u32 (s.mtime:Int)) rfl (fun wq hSw=>by have hcc:=HCC.out _ hSw;have k:=hcc.2.2.2.2.2.2.2.1;clear hcc;go_simp) ?_
 simp only[ah]
 refine tk 34 31 (.int .u64 (s.mtime:Int)) ?_
 simp only[ah]
 refine tk 38 35 (.pointer (some ⟨b,8,none⟩)) ?_
 simp only[ah]
 refine tk2 39 36 (.int .u64 (s.length:Int)) rfl (fun wq hSw=>by have hcc:=HCC.out _ hSw;have k:=hcc.2.2.2.2.2.2.2.2.1;clear hcc;go_simp) ?_
 simp only[ah]
 refine tk 43 40 (.pointer (some ⟨b,9,none⟩)) ?_
 simp only[ah]
 refine tk2 44 41 (.string s.name) rfl (fun wq hSw=>by have hcc:=HCC.out _ hSw;have k:=hcc.2.2.2.2.2.2.2.2.2.1;clear hcc;go_simp) ?_
 simp only[ah]
 refine tk 48 45 (.pointer (some ⟨b,10,none⟩)) ?_
 simp only[ah]
 refine tk2 49 46 (.string s.uid) rfl (fun wq hSw=>by have hcc:=HCC.out _ hSw;have k:=hcc.2.2.2.2.2.2.2.2.2.2.1;clear hcc;go_simp) ?_
 simp only[ah]
 refine tk 53 50 (.pointer (some ⟨b,11,none⟩)) ?_
 simp only[ah]
 refine tk2 54 51 (.string s.gid) rfl (fun wq hSw=>by have hcc:=HCC.out _ hSw;have k:=hcc.2.2.2.2.2.2.2.2.2.2.2.1;clear hcc;go_simp) ?_
 simp only[ah]
 refine tk 58 55 (.pointer (some ⟨b,12,none⟩)) ?_
 simp only[ah]
 refine tk2 59 56 (.string s.fE) rfl (fun wq hSw=>by have hcc:=HCC.out _ hSw;have k:=hcc.2.2.2.2.2.2.2.2.2.2.2.2;clear hcc;go_simp) ?_
 simp only[ah]
 refine wpAnyH_ready (rs:=[3]) (by kernel_rfl) (by simp) ?_
 refine AllReadyH.cons rfl (fun K hK=> ?_) AllReadyH.nil
 rw[if_pos (by rfl)]
 go_simp
 (with_reducible refine(dN s.type HQ.out.type wd (HTP.out _ hHeld)).mono ?_)
 rintro e wy ⟨rfl,hb⟩
 rw[HX0.out]
 dsimp only
 have cO:=hHeld.trans (hb.mono hHeld.size)
 clear hb hHeld
 refine hK.out _ _ cO (fun hHeld=> ?_)
 clear hK cO
 refine tk 7 4 (.string P0) ?_
 simp only[ah]
 refine tk 8 5 (.string P1) ?_
 simp only[ah]
 refine wpAnyH_ready (rs:=[9]) (by kernel_rfl) (by simp) ?_
 refine AllReadyH.cons rfl (fun K hK=> ?_) AllReadyH.nil
 rw[if_pos (by rfl)]
 go_simp
 (with_reducible refine(dN s.dev HQ.out.dev wy (HTP.out _ hHeld)).mono ?_)
 rintro e wy ⟨rfl,hb⟩
 rw[HX1.out]
 dsimp only
 have cO:=hHeld.trans (hb.mono hHeld.size)
 clear hb hHeld
 refine hK.out _ _ cO (fun hHeld=> ?_)
 clear hK cO
 refine tk 13 10 (.string P2) ?_
 simp only[ah]
 refine tk 14 11 (.string P3) ?_
 simp only[ah]
 refine wpAnyH_ready (rs:=[14]) (by kernel_rfl) (by simp) ?_
 refine AllReadyH.cons rfl (fun K hK=> ?_) AllReadyH.nil
 rw[if_pos (by rfl)]
 go_simp
 (with_reducible refine(sW s.qid HQ.out.qid wy (HTP.out _ hHeld) (HTS.out _ hHeld)).mono ?_)
 rintro e wy ⟨rfl,hb⟩
 rw[HX2.out]
 dsimp only
 have cO:=hHeld.trans (hb.mono hHeld.size)
 clear hb hHeld
 refine hK.out _ _ cO (fun hHeld=> ?_)
 clear hK cO
 refine tk 18 15 (.string P4) ?_
 simp only[ah]
 refine tk 19 16 (.string P5) ?_
 simp only[ah]
 refine wpAnyH_ready (rs:=[20]) (by kernel_rfl) (by simp) ?_
 refine AllReadyH.cons rfl (fun K hK=> ?_) AllReadyH.nil
 rw[if_pos (by rfl)]
 go_simp
 (with_reducible refine(dN s.mode HQ.out.mode wy (HTP.out _ hHeld)).mono ?_)
 rintro e wy ⟨rfl,hb⟩
 rw[HX3.out]
 dsimp only
 have cO:=hHeld.trans (hb.mono hHeld.size)
 clear hb hHeld
 refine hK.out _ _ cO (fun hHeld=> ?_)
 clear hK cO
 refine tk 24 21 (.string P6) ?_
 simp only[ah]
 refine tk 25 22 (.string P7) ?_
 simp only[ah]
 refine wpAnyH_ready (rs:=[26]) (by kernel_rfl) (by simp) ?_
 refine AllReadyH.cons rfl (fun K hK=> ?_) AllReadyH.nil
 rw[if_pos (by rfl)]
 go_simp
 (with_reducible refine(dN s.atime HQ.out.atime wy (HTP.out _ hHeld)).mono ?_)
 rintro e wy ⟨rfl,hb⟩
 rw[HX4.out]
 dsimp only
 have cO:=hHeld.trans (hb.mono hHeld.size)
 clear hb hHeld
 refine hK.out _ _ cO (fun hHeld=> ?_)
 clear hK cO
 refine tk 30 27 (.string P8) ?_
 simp only[ah]
 refine tk 31 28 (.string P9) ?_
 simp only[ah]
 refine wpAnyH_ready (rs:=[32]) (by kernel_rfl) (by simp) ?_
 refine AllReadyH.cons rfl (fun K hK=> ?_) AllReadyH.nil
 rw[if_pos (by rfl)]
 go_simp
 (with_reducible refine(dN s.mtime HQ.out.mtime wy (HTP.out _ hHeld)).mono ?_)
 rintro e wy ⟨rfl,hb⟩
 rw[HX5.out]
 dsimp only
 have cO:=hHeld.trans (hb.mono hHeld.size)
 clear hb hHeld
 refine hK.out _ _ cO (fun hHeld=> ?_)
 clear hK cO
 refine tk 36 33 (.string P10) ?_
 simp only[ah]
 refine tk 37 34 (.string P11) ?_
 simp only[ah]
 refine wpAnyH_ready (rs:=[37]) (by kernel_rfl) (by simp) ?_
 refine AllReadyH.cons rfl (fun K hK=> ?_) AllReadyH.nil
 rw[if_pos (by rfl)]
 go_simp
 (with_reducible refine(dN s.length HQ.out.length wy (HTP.out _ hHeld)).mono ?_)
 rintro e wy ⟨rfl,hb⟩
 rw[HX6.out]
 dsimp only
 have cO:=hHeld.trans (hb.mono hHeld.size)
 clear hb hHeld
 refine hK.out _ _ cO (fun hHeld=> ?_)
 clear hK cO
 refine tk 41 38 (.string P12) ?_
 simp only[ah]
 refine tk 42 39 (.string P13) ?_
 simp only[ah]
 refine wpAnyH_ready (rs:=[42]) (by kernel_rfl) (by simp) ?_
 refine AllReadyH.cons rfl (fun K hK=> ?_) AllReadyH.nil
 rw[if_pos (by rfl)]
 go_simp
 (with_reducible refine(jS s.name HQ.out.name.1 HQ.out.name.2 wy).mono ?_)
 rintro e wy ⟨rfl,hb⟩
 rw[HX7.out]
 dsimp only
 have cO:=hHeld.trans (hb.mono hHeld.size)
 clear hb hHeld
 refine hK.out _ _ cO (fun hHeld=> ?_)
 clear hK cO
 refine tk 46 43 (.string P14) ?_
 simp only[ah]
 refine tk 47 44 (.string P15) ?_
 simp only[ah]
 refine wpAnyH_ready (rs:=[47]) (by kernel_rfl) (by simp) ?_
 refine AllReadyH.cons rfl (fun K hK=> ?_) AllReadyH.nil
 rw[if_pos (by rfl)]
 go_simp
 (with_reducible refine(jS s.uid HQ.out.uid.1 HQ.out.uid.2 wy).mono ?_)
 rintro e wy ⟨rfl,hb⟩
 rw[HX8.out]
 dsimp only
 have cO:=hHeld.trans (hb.mono hHeld.size)
 clear hb hHeld
 refine hK.out _ _ cO (fun hHeld=> ?_)
 clear hK cO
 refine tk 51 48 (.string P16) ?_
 simp only[ah]
 refine tk 52 49 (.string P17) ?_
 simp only[ah]
 refine wpAnyH_ready (rs:=[52]) (by kernel_rfl) (by simp) ?_
 refine AllReadyH.cons rfl (fun K hK=> ?_) AllReadyH.nil
 rw[if_pos (by rfl)]
 go_simp
 (with_reducible refine(jS s.gid HQ.out.gid.1 HQ.out.gid.2 wy).mono ?_)
 rintro e wy ⟨rfl,hb⟩
 rw[HX9.out]
 dsimp only
 have cO:=hHeld.trans (hb.mono hHeld.size)
 clear hb hHeld
 refine hK.out _ _ cO (fun hHeld=> ?_)
 clear hK cO
 refine tk 56 53 (.string P18) ?_
 simp only[ah]
 refine tk 57 54 (.string P19) ?_
 simp only[ah]
 refine wpAnyH_ready (rs:=[57]) (by kernel_rfl) (by simp) ?_
 refine AllReadyH.cons rfl (fun K hK=> ?_) AllReadyH.nil
 rw[if_pos (by rfl)]
 go_simp
 (with_reducible refine(jS s.fE HQ.out.fE.1 HQ.out.fE.2 wy).mono ?_)
 rintro e wy ⟨rfl,hb⟩
 rw[IZ.out]
 dsimp only
 have cO:=hHeld.trans (hb.mono hHeld.size)
 clear hb hHeld
 refine hK.out _ _ cO (fun hHeld=> ?_)
 clear hK cO
 refine tk 61 58 (.string P20) ?_
 simp only[ah]
 refine tk 62 59 (.string P21) ?_
 simp only[ah]
 refine tk 2 60 (.string P21) ?_
 simp only[ah]
 refine wpAnyH_done (by kernel_rfl) ?_ _
 have HBF:=hid (HB.out.trans (hHeld.mono (by have:=HL.out;omega)))
 clear hHeld
 go_wp2_with fail
 go_ret
 rw[qm.out]
 exact⟨rfl,by have hb:=HBB.out;rw[hb];exact HBF.out⟩
end Go.Proofs.YtkblmloobkiloaaGreatDoor
