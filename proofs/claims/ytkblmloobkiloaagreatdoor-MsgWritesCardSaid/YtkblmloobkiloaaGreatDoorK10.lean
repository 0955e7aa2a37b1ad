/-
  MT6 MT7: what the laws of package msg need of them.
-/
import Derived.Test.YtkblmloobkiloaaGreatDoorK00
import Derived.Test.YtkblmloobkiloaaGreatDoorK09
import Derived.Test.YtkblmloobkiloaaGreatDoorK08
set_option maxRecDepth 100000
namespace Go.Proofs.YtkblmloobkiloaaGreatDoor
open Go.Lib (hid)
open Go.RowKit
open Go.Lib (decDigits)
theorem Bf(a b:List UInt8):ofL a++ofL b=ofL (a++b):=by
 apply ByteArray.ext
 rw[←Array.toList_inj]
 simp[ofL,ByteArray.data_append]
structure Sta.prt(s:Sta):Prop where
 type:s.type<18446744073709551616
 dev:s.dev<18446744073709551616
 qid:s.qid.kind<18446744073709551616∧s.qid.vers<18446744073709551616∧s.qid.path<18446744073709551616
 mode:s.mode<18446744073709551616
 atime:s.atime<18446744073709551616
 mtime:s.mtime<18446744073709551616
 length:s.length<18446744073709551616
 name:Go.Proofs.YtkblmloobkiloaaGreatDoor.good s.name=true∧s.name.size≤16777216
 uid:Go.Proofs.YtkblmloobkiloaaGreatDoor.good s.uid=true∧s.uid.size≤16777216
 gid:Go.Proofs.YtkblmloobkiloaaGreatDoor.good s.gid=true∧s.gid.size≤16777216
 fE:Go.Proofs.YtkblmloobkiloaaGreatDoor.good s.fE=true∧s.fE.size≤16777216
set_option maxHeartbeats 6400000 in
theorem Bg(s:Sta)(hs:s.prt)(w:World)(ht:TP w)(h8:8≤w.heap.size):
  Calls Tryz.prog 240 #[stV s] w fun e w'=>e= .returned (.string (ofL (rD s)))∧Below w.heap.size w w':=by
 have hup:Below w.heap.size w (w.alloc (.cells #[.int .u16 (s.type:Int),.int .u32 (s.dev:Int),.int .u8 (s.qid.kind:Int),.int .u32 (s.qid.vers:Int),.int .u64 (s.qid.path:Int),.int .u32 (s.mode:Int),.int .u32 (s.atime:Int),.int .u32 (s.mtime:Int),.int .u64 (s.length:Int),.string s.name,.string s.uid,.string s.gid,.string s.fE] 39)):=(Below.refl _ _).alloc (Nat.le_refl _) _
 have HN:=hid (Blk.new w 39 #[.int .u16 (s.type:Int),.int .u32 (s.dev:Int),.int .u8 (s.qid.kind:Int),.int .u32 (s.qid.vers:Int),.int .u64 (s.qid.path:Int),.int .u32 (s.mode:Int),.int .u32 (s.atime:Int),.int .u32 (s.mtime:Int),.int .u64 (s.length:Int),.string s.name,.string s.uid,.string s.gid,.string s.fE])
 have HT0:=hid (ht.low hup h8)
 have HB:=hid hup
 have HQ:=hid hs
 have H8:=hid h8
 clear hup ht h8
 obtain⟨X0,hX0⟩:∃X,X=ofL (decDigits s.type):=⟨_,rfl⟩
 have hz0:X0.size≤20:=hX0▸jD _ hs.type
 obtain⟨X1,hX1⟩:∃X,X=ofL (decDigits s.dev):=⟨_,rfl⟩
 have hz1:X1.size≤20:=hX1▸jD _ hs.dev
 obtain⟨X2,hX2⟩:∃X,X=ofL (iG s.qid):=⟨_,rfl⟩
 have hz2:X2.size≤62:=hX2▸(by rw[dU];exact pI _ hs.qid)
 obtain⟨X3,hX3⟩:∃X,X=ofL (decDigits s.mode):=⟨_,rfl⟩
 have hz3:X3.size≤20:=hX3▸jD _ hs.mode
 obtain⟨X4,hX4⟩:∃X,X=ofL (decDigits s.atime):=⟨_,rfl⟩
 have hz4:X4.size≤20:=hX4▸jD _ hs.atime
 obtain⟨X5,hX5⟩:∃X,X=ofL (decDigits s.mtime):=⟨_,rfl⟩
 have hz5:X5.size≤20:=hX5▸jD _ hs.mtime
 obtain⟨X6,hX6⟩:∃X,X=ofL (decDigits s.length):=⟨_,rfl⟩
 have hz6:X6.size≤20:=hX6▸jD _ hs.length
 obtain⟨X7,hX7⟩:∃X,X=ofL (bD s.name):=⟨_,rfl⟩
 have hz7:X7.size≤67108866:=hX7▸(by rw[dU];have:=kT s.name;have:=hs.name.2;omega)
 obtain⟨X8,hX8⟩:∃X,X=ofL (bD s.uid):=⟨_,rfl⟩
 have hz8:X8.size≤67108866:=hX8▸(by rw[dU];have:=kT s.uid;have:=hs.uid.2;omega)
 obtain⟨X9,hX9⟩:∃X,X=ofL (bD s.gid):=⟨_,rfl⟩
 have hz9:X9.size≤67108866:=hX9▸(by rw[dU];have:=kT s.gid;have:=hs.gid.2;omega)
 obtain⟨X10,Om⟩:∃X,X=ofL (bD s.fE):=⟨_,rfl⟩
 have Vj:X10.size≤67108866:=Om▸(by rw[dU];have:=kT s.fE;have:=hs.fE.2;omega)
 clear hs
 obtain⟨P0,hP0⟩:∃P,P=(⟨#[123,116,121,112,101,61]⟩:ByteArray)++X0:=⟨_,rfl⟩
 have hs0:P0.size=6+X0.size:=by rw[hP0,ByteArray.size_append];try rfl
 have ha0:∀w,(Op.stringOp .add (⟨#[123,116,121,112,101,61]⟩:ByteArray) X0).run Tryz.prog w= .ok (.string P0) w:=fun w=>by
  rw[hP0]
  exact run_string_add_sum w _ _ (by rw[←ByteArray.size_append,←hP0];omega)
 obtain⟨P1,hP1⟩:∃P,P=P0++(⟨#[32,100,101,118,61]⟩:ByteArray):=⟨_,rfl⟩
 have hs1:P1.size=P0.size+5:=by rw[hP1,ByteArray.size_append];try rfl
 have ha1:∀w,(Op.stringOp .add P0 (⟨#[32,100,101,118,61]⟩:ByteArray)).run Tryz.prog w= .ok (.string P1) w:=fun w=>by
  rw[hP1]
  exact run_string_add_sum w _ _ (by rw[←ByteArray.size_append,←hP1];omega)
 obtain⟨P2,hP2⟩:∃P,P=P1++X1:=⟨_,rfl⟩
 have hs2:P2.size=P1.size+X1.size:=by rw[hP2,ByteArray.size_append];try rfl
 have ha2:∀w,(Op.stringOp .add P1 X1).run Tryz.prog w= .ok (.string P2) w:=fun w=>by
  rw[hP2]
  exact run_string_add_sum w _ _ (by rw[←ByteArray.size_append,←hP2];omega)
 obtain⟨P3,hP3⟩:∃P,P=P2++(⟨#[32,113,105,100,61]⟩:ByteArray):=⟨_,rfl⟩
 have hs3:P3.size=P2.size+5:=by rw[hP3,ByteArray.size_append];try rfl
 have ha3:∀w,(Op.stringOp .add P2 (⟨#[32,113,105,100,61]⟩:ByteArray)).run Tryz.prog w= .ok (.string P3) w:=fun w=>by
  rw[hP3]
  exact run_string_add_sum w _ _ (by rw[←ByteArray.size_append,←hP3];omega)
 obtain⟨P4,hP4⟩:∃P,P=P3++X2:=⟨_,rfl⟩
 have hs4:P4.size=P3.size+X2.size:=by rw[hP4,ByteArray.size_append];try rfl
 have ha4:∀w,(Op.stringOp .add P3 X2).run Tryz.prog w= .ok (.string P4) w:=fun w=>by
  rw[hP4]
  exact run_string_add_sum w _ _ (by rw[←ByteArray.size_append,←hP4];omega)
 obtain⟨P5,hP5⟩:∃P,P=P4++(⟨#[32,109,111,100,101,61]⟩:ByteArray):=⟨_,rfl⟩
 have hs5:P5.size=P4.size+6:=by rw[hP5,ByteArray.size_append];try rfl
 have ha5:∀w,(Op.stringOp .add P4 (⟨#[32,109,111,100,101,61]⟩:ByteArray)).run Tryz.prog w= .ok (.string P5) w:=fun w=>by
  rw[hP5]
  exact run_string_add_sum w _ _ (by rw[←ByteArray.size_append,←hP5];omega)
 obtain⟨P6,hP6⟩:∃P,P=P5++X3:=⟨_,rfl⟩
 have hs6:P6.size=P5.size+X3.size:=by rw[hP6,ByteArray.size_append];try rfl
 have ha6:∀w,(Op.stringOp .add P5 X3).run Tryz.prog w= .ok (.string P6) w:=fun w=>by
  rw[hP6]
  exact run_string_add_sum w _ _ (by rw[←ByteArray.size_append,←hP6];omega)
 obtain⟨P7,hP7⟩:∃P,P=P6++(⟨#[32,97,116,105,109,101,61]⟩:ByteArray):=⟨_,rfl⟩
 have hs7:P7.size=P6.size+7:=by rw[hP7,ByteArray.size_append];try rfl
 have ha7:∀w,(Op.stringOp .add P6 (⟨#[32,97,116,105,109,101,61]⟩:ByteArray)).run Tryz.prog w= .ok (.string P7) w:=fun w=>by
  rw[hP7]
  exact run_string_add_sum w _ _ (by rw[←ByteArray.size_append,←hP7];omega)
 obtain⟨P8,hP8⟩:∃P,P=P7++X4:=⟨_,rfl⟩
 have hs8:P8.size=P7.size+X4.size:=by rw[hP8,ByteArray.size_append];try rfl
 have ha8:∀w,(Op.stringOp .add P7 X4).run Tryz.prog w= .ok (.string P8) w:=fun w=>by
  rw[hP8]
  exact run_string_add_sum w _ _ (by rw[←ByteArray.size_append,←hP8];omega)
 obtain⟨P9,hP9⟩:∃P,P=P8++(⟨#[32,109,116,105,109,101,61]⟩:ByteArray):=⟨_,rfl⟩
 have hs9:P9.size=P8.size+7:=by rw[hP9,ByteArray.size_append];try rfl
 have ha9:∀w,(Op.stringOp .add P8 (⟨#[32,109,116,105,109,101,61]⟩:ByteArray)).run Tryz.prog w= .ok (.string P9) w:=fun w=>by
  rw[hP9]
  exact run_string_add_sum w _ _ (by rw[←ByteArray.size_append,←hP9];omega)
 obtain⟨P10,KX⟩:∃P,P=P9++X5:=⟨_,rfl⟩
 have hs10:P10.size=P9.size+X5.size:=by rw[KX,ByteArray.size_append];try rfl
 have W_:∀w,(Op.stringOp .add P9 X5).run Tryz.prog w= .ok (.string P10) w:=fun w=>by
  rw[KX]
  exact run_string_add_sum w _ _ (by rw[←ByteArray.size_append,←KX];omega)
 obtain⟨P11,KY⟩:∃P,P=P10++(⟨#[32,108,101,110,103,116,104,61]⟩:ByteArray):=⟨_,rfl⟩
 have hs11:P11.size=P10.size+8:=by rw[KY,ByteArray.size_append];try rfl
 have Xa:∀w,(Op.stringOp .add P10 (⟨#[32,108,101,110,103,116,104,61]⟩:ByteArray)).run Tryz.prog w= .ok (.string P11) w:=fun w=>by
  rw[KY]
  exact run_string_add_sum w _ _ (by rw[←ByteArray.size_append,←KY];omega)
 obtain⟨P12,KZ⟩:∃P,P=P11++X6:=⟨_,rfl⟩
 have Vk:P12.size=P11.size+X6.size:=by rw[KZ,ByteArray.size_append];try rfl
 have Xb:∀w,(Op.stringOp .add P11 X6).run Tryz.prog w= .ok (.string P12) w:=fun w=>by
  rw[KZ]
  exact run_string_add_sum w _ _ (by rw[←ByteArray.size_append,←KZ];omega)
 obtain⟨P13,K_⟩:∃P,P=P12++(⟨#[32,110,97,109,101,61]⟩:ByteArray):=⟨_,rfl⟩
 have Vl:P13.size=P12.size+6:=by rw[K_,ByteArray.size_append];try rfl
 have Xc:∀w,(Op.stringOp .add P12 (⟨#[32,110,97,109,101,61]⟩:ByteArray)).run Tryz.prog w= .ok (.string P13) w:=fun w=>by
  rw[K_]
  exact run_string_add_sum w _ _ (by rw[←ByteArray.size_append,←K_];omega)
 obtain⟨P14,La⟩:∃P,P=P13++X7:=⟨_,rfl⟩
 have Vm:P14.size=P13.size+X7.size:=by rw[La,ByteArray.size_append];try rfl
 have Xd:∀w,(Op.stringOp .add P13 X7).run Tryz.prog w= .ok (.string P14) w:=fun w=>by
  rw[La]
  exact run_string_add_sum w _ _ (by rw[←ByteArray.size_append,←La];omega)
 obtain⟨P15,Lc⟩:∃P,P=P14++(⟨#[32,117,105,100,61]⟩:ByteArray):=⟨_,rfl⟩
 have Vo:P15.size=P14.size+5:=by rw[Lc,ByteArray.size_append];try rfl
 have Xe:∀w,(Op.stringOp .add P14 (⟨#[32,117,105,100,61]⟩:ByteArray)).run Tryz.prog w= .ok (.string P15) w:=fun w=>by
  rw[Lc]
  exact run_string_add_sum w _ _ (by rw[←ByteArray.size_append,←Lc];omega)
 obtain⟨P16,Ld⟩:∃P,P=P15++X8:=⟨_,rfl⟩
 have Vp:P16.size=P15.size+X8.size:=by rw[Ld,ByteArray.size_append];try rfl
 have ha16:∀w,(Op.stringOp .add P15 X8).run Tryz.prog w= .ok (.string P16) w:=fun w=>by
  rw[Ld]
  exact run_string_add_sum w _ _ (by rw[←ByteArray.size_append,←Ld];omega)
 obtain⟨P17,Le⟩:∃P,P=P16++(⟨#[32,103,105,100,61]⟩:ByteArray):=⟨_,rfl⟩
 have Vq:P17.size=P16.size+5:=by rw[Le,ByteArray.size_append];try rfl
 have Xf:∀w,(Op.stringOp .add P16 (⟨#[32,103,105,100,61]⟩:ByteArray)).run Tryz.prog w= .ok (.string P17) w:=fun w=>by
  rw[Le]
  exact run_string_add_sum w _ _ (by rw[←ByteArray.size_append,←Le];omega)
 obtain⟨P18,Lh⟩:∃P,P=P17++X9:=⟨_,rfl⟩
 have Vr:P18.size=P17.size+X9.size:=by rw[Lh,ByteArray.size_append];try rfl
 have Xg:∀w,(Op.stringOp .add P17 X9).run Tryz.prog w= .ok (.string P18) w:=fun w=>by
  rw[Lh]
  exact run_string_add_sum w _ _ (by rw[←ByteArray.size_append,←Lh];omega)
 obtain⟨P19,Lj⟩:∃P,P=P18++(⟨#[32,109,117,105,100,61]⟩:ByteArray):=⟨_,rfl⟩
 have Vs:P19.size=P18.size+6:=by rw[Lj,ByteArray.size_append];try rfl
 have Xh:∀w,(Op.stringOp .add P18 (⟨#[32,109,117,105,100,61]⟩:ByteArray)).run Tryz.prog w= .ok (.string P19) w:=fun w=>by
  rw[Lj]
  exact run_string_add_sum w _ _ (by rw[←ByteArray.size_append,←Lj];omega)
 obtain⟨P20,Ll⟩:∃P,P=P19++X10:=⟨_,rfl⟩
 have Vt:P20.size=P19.size+X10.size:=by rw[Ll,ByteArray.size_append];try rfl
 have Xi:∀w,(Op.stringOp .add P19 X10).run Tryz.prog w= .ok (.string P20) w:=fun w=>by
  rw[Ll]
  exact run_string_add_sum w _ _ (by rw[←ByteArray.size_append,←Ll];omega)
 obtain⟨P21,Lm⟩:∃P,P=P20++(⟨#[125]⟩:ByteArray):=⟨_,rfl⟩
 have Vu:P21.size=P20.size+1:=by rw[Lm,ByteArray.size_append];try rfl
 have Xj:∀w,(Op.stringOp .add P20 (⟨#[125]⟩:ByteArray)).run Tryz.prog w= .ok (.string P21) w:=fun w=>by
  rw[Lm]
  exact run_string_add_sum w _ _ (by rw[←ByteArray.size_append,←Lm];omega)
 have qm:=hid (show ofL (rD s)=P21 from by
  rw[Lm,Ll,Lj,Lh,Le,Ld,Lc,La,K_,KZ,KY,KX,hP9,hP8,hP7,hP6,hP5,hP4,hP3,hP2,hP1,hP0,hX0,hX1,hX2,hX3,hX4,hX5,hX6,hX7,hX8,hX9,Om]
  show ofL (rD s)=ofL [123,116,121,112,101,61]++ofL (decDigits s.type)++ofL [32,100,101,118,61]++ofL (decDigits s.dev)++ofL [32,113,105,100,61]++ofL (iG s.qid)++ofL [32,109,111,100,101,61]++ofL (decDigits s.mode)++ofL [32,97,116,105,109,101,61]++ofL (decDigits s.atime)++ofL [32,109,116,105,109,101,61]++ofL (decDigits s.mtime)++ofL [32,108,101,110,103,116,104,61]++ofL (decDigits s.length)++ofL [32,110,97,109,101,61]++ofL (bD s.name)++ofL [32,117,105,100,61]++ofL (bD s.uid)++ofL [32,103,105,100,61]++ofL (bD s.gid)++ofL [32,109,117,105,100,61]++ofL (bD s.fE)++ofL [125]
  simp only[Bf]
  rfl)
 have HX0:=hid hX0.symm
 have HX1:=hid hX1.symm
 have HX2:=hid hX2.symm
 have HX3:=hid hX3.symm
 have HX4:=hid hX4.symm
 have HX5:=hid hX5.symm
 have HX6:=hid hX6.symm
 have HX7:=hid hX7.symm
 have HX8:=hid hX8.symm
 have HX9:=hid hX9.symm
 have IZ:=hid Om.symm
 clear hP0 hs0 hP1 hs1 hP2 hs2 hP3 hs3 hP4 hs4 hP5 hs5 hP6 hs6 hP7 hs7 hP8 hs8 hP9 hs9 KX hs10 KY hs11 KZ Vk K_ Vl La Vm Lc Vo Ld Vp Le Vq Lh Vr Lj Vs Ll Vt Lm Vu hX0 hz0 hX1 hz1 hX2 hz2 hX3 hz3 hX4 hz4 hX5 hz5 hX6 hz6 hX7 hz7 hX8 hz8 hX9 hz9 Om Vj
 unfold stV
 go_enter Tryz.func240,Tryz.ntmps240
 go_upto_region 1 with(fail)
 generalize w.alloc (.cells #[.int .u16 (s.type:Int),.int .u32 (s.dev:Int),.int .u8 (s.qid.kind:Int),.int .u32 (s.qid.vers:Int),.int .u64 (s.qid.path:Int),.int .u32 (s.mode:Int),.int .u32 (s.atime:Int),.int .u32 (s.mtime:Int),.int .u64 (s.length:Int),.string s.name,.string s.uid,.string s.gid,.string s.fE] 39)=w0 at HN HB HT0⊢
 generalize hb:w.heap.size=b at HN H8 HB⊢
 have HBB:=hid hb;clear hb
 have HL:=hid (Blk.lt HN.out)
 have HTP:=hid (show∀wx,Below w0.heap.size w0 wx→TP wx from fun wx h=>HT0.out.low h (by have:=HL.out;have:=H8.out;omega))
 have HTS:=hid (show∀wx:World,Below w0.heap.size w0 wx→8≤wx.heap.size from fun wx h=>by have:=h.size;have:=HL.out;have:=H8.out;omega)
 have HCC:=hid (show∀wx:World,Below w0.heap.size w0 wx→wx.cell? ⟨b,0,none⟩=some (.int .u16 (s.type:Int))∧wx.cell? ⟨b,1,none⟩=some (.int .u32 (s.dev:Int))∧wx.cell? ⟨b,2,none⟩=some (.int .u8 (s.qid.kind:Int))∧wx.cell? ⟨b,3,none⟩=some (.int .u32 (s.qid.vers:Int))∧wx.cell? ⟨b,4,none⟩=some (.int .u64 (s.qid.path:Int))∧wx.cell? ⟨b,5,none⟩=some (.int .u32 (s.mode:Int))∧wx.cell? ⟨b,6,none⟩=some (.int .u32 (s.atime:Int))∧wx.cell? ⟨b,7,none⟩=some (.int .u32 (s.mtime:Int))∧wx.cell? ⟨b,8,none⟩=some (.int .u64 (s.length:Int))∧wx.cell? ⟨b,9,none⟩=some (.string s.name)∧wx.cell? ⟨b,10,none⟩=some (.string s.uid)∧wx.cell? ⟨b,11,none⟩=some (.string s.gid)∧wx.cell? ⟨b,12,none⟩=some (.string s.fE)from fun wx h=>by
  have hk:=fun i=>(h.cell (p:=⟨b,i,none⟩) HL.out).trans (HN.out.cell i)
  exact⟨hk 0,hk 1,hk 2,hk 3,hk 4,hk 5,hk 6,hk 7,hk 8,hk 9,hk 10,hk 11,hk 12⟩)
 have UH:IntKind.u64.wrap (s.type:Int)=(s.type:Int):=eH HQ.out.type
 have Vw:IntKind.u64.wrap (s.dev:Int)=(s.dev:Int):=eH HQ.out.dev
 have UJ:IntKind.u64.wrap (s.mode:Int)=(s.mode:Int):=eH HQ.out.mode
 have TF:IntKind.u64.wrap (s.atime:Int)=(s.atime:Int):=eH HQ.out.atime
 have TG:IntKind.u64.wrap (s.mtime:Int)=(s.mtime:Int):=eH HQ.out.mtime
 refine wp_region_held_drew (S:=fun wx=>Below w0.heap.size w0 wx) (by kernel_rfl) (aC w0) (fun hHeld=> ?_)
 generalize w0.drew=wd at hHeld⊢
 refine tk 3 0 (.pointer (some ⟨b,0,none⟩)) ?_
 refine tk2 4 1 (.int .u16 (s.type:Int)) rfl (fun wq hSw=>by have hcc:=HCC.out _ hSw;have k:=hcc.1;clear hcc;go_simp) ?_
 refine tk 5 2 (.int .u64 (s.type:Int)) ?_
 refine tk 9 6 (.pointer (some ⟨b,1,none⟩)) ?_
 refine tk2 10 7 (.int .u32 (s.dev:Int)) rfl (fun wq hSw=>by have hcc:=HCC.out _ hSw;have k:=hcc.2.1;clear hcc;go_simp) ?_
 refine tk 11 8 (.int .u64 (s.dev:Int)) ?_
 refine tk 15 12 (.pointer (some ⟨b,2,none⟩)) ?_
 refine tk2 16 13 (qdV s.qid) rfl (fun wq hSw=>by have hcc:=HCC.out _ hSw;have k0:=hcc.2.2.1;have k1:=hcc.2.2.2.1;have k2:=hcc.2.2.2.2.1;clear hcc;go_simp) ?_
 refine tk 20 17 (.pointer (some ⟨b,5,none⟩)) ?_
 refine tk2 21 18 (.int .u32 (s.mode:Int)) rfl (fun wq hSw=>by have hcc:=HCC.out _ hSw;have k:=hcc.2.2.2.2.2.1;clear hcc;go_simp) ?_
 refine tk 22 19 (.int .u64 (s.mode:Int)) ?_
 refine tk 26 23 (.pointer (some ⟨b,6,none⟩)) ?_
 refine tk2 27 24 (.int .u32 (s.atime:Int)) rfl (fun wq hSw=>by have hcc:=HCC.out _ hSw;have k:=hcc.2.2.2.2.2.2.1;clear hcc;go_simp) ?_
 refine tk 28 25 (.int .u64 (s.atime:Int)) ?_
 refine tk 32 29 (.pointer (some ⟨b,7,none⟩)) ?_
 refine tk2 33 30 (.int .u32 (s.mtime:Int)) rfl (fun wq hSw=>by have hcc:=HCC.out _ hSw;have k:=hcc.2.2.2.2.2.2.2.1;clear hcc;go_simp) ?_
 refine tk 34 31 (.int .u64 (s.mtime:Int)) ?_
 refine tk 38 35 (.pointer (some ⟨b,8,none⟩)) ?_
 refine tk2 39 36 (.int .u64 (s.length:Int)) rfl (fun wq hSw=>by have hcc:=HCC.out _ hSw;have k:=hcc.2.2.2.2.2.2.2.2.1;clear hcc;go_simp) ?_
 refine tk 43 40 (.pointer (some ⟨b,9,none⟩)) ?_
 refine tk2 44 41 (.string s.name) rfl (fun wq hSw=>by have hcc:=HCC.out _ hSw;have k:=hcc.2.2.2.2.2.2.2.2.2.1;clear hcc;go_simp) ?_
 refine tk 48 45 (.pointer (some ⟨b,10,none⟩)) ?_
 refine tk2 49 46 (.string s.uid) rfl (fun wq hSw=>by have hcc:=HCC.out _ hSw;have k:=hcc.2.2.2.2.2.2.2.2.2.2.1;clear hcc;go_simp) ?_
 refine tk 53 50 (.pointer (some ⟨b,11,none⟩)) ?_
 refine tk2 54 51 (.string s.gid) rfl (fun wq hSw=>by have hcc:=HCC.out _ hSw;have k:=hcc.2.2.2.2.2.2.2.2.2.2.2.1;clear hcc;go_simp) ?_
 refine tk 58 55 (.pointer (some ⟨b,12,none⟩)) ?_
 refine tk2 59 56 (.string s.fE) rfl (fun wq hSw=>by have hcc:=HCC.out _ hSw;have k:=hcc.2.2.2.2.2.2.2.2.2.2.2.2;clear hcc;go_simp) ?_
 refine wpAnyH_ready (rs:=[3]) (by kernel_rfl) (by simp) ?_
 refine AllReadyH.cons rfl (fun K hK=> ?_) AllReadyH.nil
 rw[if_pos (by rfl)]
 go_simp
 (with_reducible refine(dN s.type HQ.out.type wd (HTP.out _ hHeld)).mono ?_)
 rintro e wy ⟨rfl,hb⟩
 rw[HX0.out]
 dsimp only
 have cO:=hHeld.trans (hb.mono hHeld.size)
 clear hb hHeld
 refine hK.out _ _ cO (fun hHeld=> ?_)
 clear hK cO
 refine tk 7 4 (.string P0) ?_
 refine tk 8 5 (.string P1) ?_
 refine wpAnyH_ready (rs:=[9]) (by kernel_rfl) (by simp) ?_
 refine AllReadyH.cons rfl (fun K hK=> ?_) AllReadyH.nil
 rw[if_pos (by rfl)]
 go_simp
 (with_reducible refine(dN s.dev HQ.out.dev wy (HTP.out _ hHeld)).mono ?_)
 rintro e wy ⟨rfl,hb⟩
 rw[HX1.out]
 dsimp only
 have cO:=hHeld.trans (hb.mono hHeld.size)
 clear hb hHeld
 refine hK.out _ _ cO (fun hHeld=> ?_)
 clear hK cO
 refine tk 13 10 (.string P2) ?_
 refine tk 14 11 (.string P3) ?_
 refine wpAnyH_ready (rs:=[14]) (by kernel_rfl) (by simp) ?_
 refine AllReadyH.cons rfl (fun K hK=> ?_) AllReadyH.nil
 rw[if_pos (by rfl)]
 go_simp
 (with_reducible refine(sW s.qid HQ.out.qid wy (HTP.out _ hHeld) (HTS.out _ hHeld)).mono ?_)
 rintro e wy ⟨rfl,hb⟩
 rw[HX2.out]
 dsimp only
 have cO:=hHeld.trans (hb.mono hHeld.size)
 clear hb hHeld
 refine hK.out _ _ cO (fun hHeld=> ?_)
 clear hK cO
 refine tk 18 15 (.string P4) ?_
 refine tk 19 16 (.string P5) ?_
 refine wpAnyH_ready (rs:=[20]) (by kernel_rfl) (by simp) ?_
 refine AllReadyH.cons rfl (fun K hK=> ?_) AllReadyH.nil
 rw[if_pos (by rfl)]
 go_simp
 (with_reducible refine(dN s.mode HQ.out.mode wy (HTP.out _ hHeld)).mono ?_)
 rintro e wy ⟨rfl,hb⟩
 rw[HX3.out]
 dsimp only
 have cO:=hHeld.trans (hb.mono hHeld.size)
 clear hb hHeld
 refine hK.out _ _ cO (fun hHeld=> ?_)
 clear hK cO
 refine tk 24 21 (.string P6) ?_
 refine tk 25 22 (.string P7) ?_
 refine wpAnyH_ready (rs:=[26]) (by kernel_rfl) (by simp) ?_
 refine AllReadyH.cons rfl (fun K hK=> ?_) AllReadyH.nil
 rw[if_pos (by rfl)]
 go_simp
 (with_reducible refine(dN s.atime HQ.out.atime wy (HTP.out _ hHeld)).mono ?_)
 rintro e wy ⟨rfl,hb⟩
 rw[HX4.out]
 dsimp only
 have cO:=hHeld.trans (hb.mono hHeld.size)
 clear hb hHeld
 refine hK.out _ _ cO (fun hHeld=> ?_)
 clear hK cO
 refine tk 30 27 (.string P8) ?_
 refine tk 31 28 (.string P9) ?_
 refine wpAnyH_ready (rs:=[32]) (by kernel_rfl) (by simp) ?_
 refine AllReadyH.cons rfl (fun K hK=> ?_) AllReadyH.nil
 rw[if_pos (by rfl)]
 go_simp
 (with_reducible refine(dN s.mtime HQ.out.mtime wy (HTP.out _ hHeld)).mono ?_)
 rintro e wy ⟨rfl,hb⟩
 rw[HX5.out]
 dsimp only
 have cO:=hHeld.trans (hb.mono hHeld.size)
 clear hb hHeld
 refine hK.out _ _ cO (fun hHeld=> ?_)
 clear hK cO
 refine tk 36 33 (.string P10) ?_
 refine tk 37 34 (.string P11) ?_
 refine wpAnyH_ready (rs:=[37]) (by kernel_rfl) (by simp) ?_
 refine AllReadyH.cons rfl (fun K hK=> ?_) AllReadyH.nil
 rw[if_pos (by rfl)]
 go_simp
 (with_reducible refine(dN s.length HQ.out.length wy (HTP.out _ hHeld)).mono ?_)
 rintro e wy ⟨rfl,hb⟩
 rw[HX6.out]
 dsimp only
 have cO:=hHeld.trans (hb.mono hHeld.size)
 clear hb hHeld
 refine hK.out _ _ cO (fun hHeld=> ?_)
 clear hK cO
 refine tk 41 38 (.string P12) ?_
 refine tk 42 39 (.string P13) ?_
 refine wpAnyH_ready (rs:=[42]) (by kernel_rfl) (by simp) ?_
 refine AllReadyH.cons rfl (fun K hK=> ?_) AllReadyH.nil
 rw[if_pos (by rfl)]
 go_simp
 (with_reducible refine(jS s.name HQ.out.name.1 HQ.out.name.2 wy).mono ?_)
 rintro e wy ⟨rfl,hb⟩
 rw[HX7.out]
 dsimp only
 have cO:=hHeld.trans (hb.mono hHeld.size)
 clear hb hHeld
 refine hK.out _ _ cO (fun hHeld=> ?_)
 clear hK cO
 refine tk 46 43 (.string P14) ?_
 refine tk 47 44 (.string P15) ?_
 refine wpAnyH_ready (rs:=[47]) (by kernel_rfl) (by simp) ?_
 refine AllReadyH.cons rfl (fun K hK=> ?_) AllReadyH.nil
 rw[if_pos (by rfl)]
 go_simp
 (with_reducible refine(jS s.uid HQ.out.uid.1 HQ.out.uid.2 wy).mono ?_)
 rintro e wy ⟨rfl,hb⟩
 rw[HX8.out]
 dsimp only
 have cO:=hHeld.trans (hb.mono hHeld.size)
 clear hb hHeld
 refine hK.out _ _ cO (fun hHeld=> ?_)
 clear hK cO
 refine tk 51 48 (.string P16) ?_
 refine tk 52 49 (.string P17) ?_
 refine wpAnyH_ready (rs:=[52]) (by kernel_rfl) (by simp) ?_
 refine AllReadyH.cons rfl (fun K hK=> ?_) AllReadyH.nil
 rw[if_pos (by rfl)]
 go_simp
 (with_reducible refine(jS s.gid HQ.out.gid.1 HQ.out.gid.2 wy).mono ?_)
 rintro e wy ⟨rfl,hb⟩
 rw[HX9.out]
 dsimp only
 have cO:=hHeld.trans (hb.mono hHeld.size)
 clear hb hHeld
 refine hK.out _ _ cO (fun hHeld=> ?_)
 clear hK cO
 refine tk 56 53 (.string P18) ?_
 refine tk 57 54 (.string P19) ?_
 refine wpAnyH_ready (rs:=[57]) (by kernel_rfl) (by simp) ?_
 refine AllReadyH.cons rfl (fun K hK=> ?_) AllReadyH.nil
 rw[if_pos (by rfl)]
 go_simp
 (with_reducible refine(jS s.fE HQ.out.fE.1 HQ.out.fE.2 wy).mono ?_)
 rintro e wy ⟨rfl,hb⟩
 rw[IZ.out]
 dsimp only
 have cO:=hHeld.trans (hb.mono hHeld.size)
 clear hb hHeld
 refine hK.out _ _ cO (fun hHeld=> ?_)
 clear hK cO
 refine tk 61 58 (.string P20) ?_
 refine tk 62 59 (.string P21) ?_
 refine tk 2 60 (.string P21) ?_
 refine wpAnyH_done (by kernel_rfl) ?_ _
 have HBF:=hid (HB.out.trans (hHeld.mono (by have:=HL.out;omega)))
 clear hHeld
 go_wp2_with fail
 go_ret
 rw[qm.out]
 exact⟨rfl,by have hb:=HBB.out;rw[hb];exact HBF.out⟩
theorem Mg.small.Pv{m:Mg}(h:m.small):∀x∈m.names,x.size≤16777216:=by
 intro x hx
 have h1:2+(m.names.map fun s=>2+s.size).sum≤16777216:=h .names
 have h2:∀l:List ByteArray,x∈l→x.size≤(l.map fun s=>2+s.size).sum:=by
  intro l
  induction l with
  |nil=>intro h;cases h
  |cons y l ih=>
   intro h
   rw[List.map_cons,List.sum_cons]
   rcases List.mem_cons.1 h with rfl|h
   ·omega
   ·have:=ih h;omega
 have:=h2 _ hx
 omega
theorem Mg.small.TK{m:Mg}(h:m.small):m.stat.name.size≤16777216∧m.stat.uid.size≤16777216∧m.stat.gid.size≤16777216∧m.stat.fE.size≤16777216:=by
 have h1:2+(49+m.stat.name.size+m.stat.uid.size+m.stat.gid.size+m.stat.fE.size)≤16777216:=h .stat
 omega
theorem Qd.ok.wide{q:Qd}(h:q.ok):q.kind<18446744073709551616∧q.vers<18446744073709551616∧q.path<18446744073709551616:=by
 obtain⟨h1,h2,h3⟩:=h
 omega
theorem Mg.prt{m:Mg}(ho:m.ok)(hg:m.good .stat=true)(hz:m.small):m.stat.prt:=by
 obtain⟨n1,n2,hq,n4,n5,n6,n7⟩:=ho.stat
 have hg:(Go.Proofs.YtkblmloobkiloaaGreatDoor.good m.stat.name&&Go.Proofs.YtkblmloobkiloaaGreatDoor.good m.stat.uid&&Go.Proofs.YtkblmloobkiloaaGreatDoor.good m.stat.gid&&Go.Proofs.YtkblmloobkiloaaGreatDoor.good m.stat.fE)=true:=hg
 simp only[Bool.and_eq_true]at hg
 obtain⟨⟨⟨g1,g2⟩,g3⟩,g4⟩:=hg
 obtain⟨z1,z2,z3,z4⟩:=hz.TK
 exact⟨by omega,by omega,hq.wide,by omega,by omega,by omega,by omega,⟨g1,z1⟩,⟨g2,z2⟩,⟨g3,z3⟩,⟨g4,z4⟩⟩
theorem jf{w:World}{q b o K n:Nat}(hn:n<18446744073709551616)(hent:∀args w,Sem.run Tryz.prog (callFunc K args) w= .ok (.enter K args) w)(hat:∀w,Calls Tryz.prog K #[.pointer (some ⟨q,0,none⟩)] w fun e w'=>e= .returned (.pointer (some ⟨q,o,none⟩))∧w=w')(hc:Blk w b 135 #[fv K #[]])(ks:w.cell? ⟨q,o,none⟩=some (.int .u32 (n:Int)))(ht:TP w):
  Calls Tryz.prog 130 #[.pointer (some ⟨q,0,none⟩),.pointer (some ⟨b,0,none⟩)] w fun e w'=>e= .returned (.string (ofL (decDigits n)))∧Below w.heap.size w w':=by
 have HAT:=hid (hat w)
 have HD:=hid (dN n hn w ht)
 have hw:=eH hn
 have kb:w.cell? ⟨b,0,none⟩=_:=hc.cell 0
 clear hat hc hn ht
 go_enter Tryz.func130,Tryz.ntmps130
 go_wp2_with fail
 refine HAT.out.mono ?_
 rintro e w' ⟨rfl,rfl⟩
 go_wp2_with fail
 refine HD.out.mono ?_
 rintro e w1 ⟨rfl,hb⟩
 have HB:=hid hb
 clear hb
 go_wp2_with fail
 go_ret
 exact⟨rfl,HB.out⟩
theorem lF{w:World}{q b o K:Nat}{s:ByteArray}(hg:good s=true)(hz:s.size≤16777216)(hent:∀args w,Sem.run Tryz.prog (callFunc K args) w= .ok (.enter K args) w)(hat:∀w,Calls Tryz.prog K #[.pointer (some ⟨q,0,none⟩)] w fun e w'=>e= .returned (.pointer (some ⟨q,o,none⟩))∧w=w')(hc:Blk w b 138 #[fv K #[]])(ks:w.cell? ⟨q,o,none⟩=some (.string s)):
  Calls Tryz.prog 139 #[.pointer (some ⟨q,0,none⟩),.pointer (some ⟨b,0,none⟩)] w fun e w'=>e= .returned (.string (ofL (bD s)))∧Below w.heap.size w w':=by
 have HAT:=hid (hat w)
 have HD:=hid (jS s hg hz w)
 have kb:w.cell? ⟨b,0,none⟩=_:=hc.cell 0
 clear hat hc hg hz
 go_enter Tryz.func139,Tryz.ntmps139
 go_wp2_with fail
 refine HAT.out.mono ?_
 rintro e w' ⟨rfl,rfl⟩
 go_wp2_with fail
 refine HD.out.mono ?_
 rintro e w1 ⟨rfl,hb⟩
 have HB:=hid hb
 clear hb
 go_wp2_with fail
 go_ret
 exact⟨rfl,HB.out⟩
theorem Bj{w:World}{q:Nat}{m:Mg}{vn vq vd:Value}(hm:aK w q m vn vq vd)(hl:Lists w w.heap.size m vn vq vd)(ht:TP w)(h8:8≤w.heap.size)(ho:m.ok)(hg:m.good .aT=true)(hz:m.small):
  Calls Tryz.prog 146 #[.pointer (some ⟨q,0,none⟩)] w fun e w'=>e= .returned (.string (ofL (m.val .aT)))∧Below w.heap.size w w':=by
 have HD:=hid (dN m.aT (by have:=ho.aT;omega) w ht)
 have hw:=eH (show m.aT<18446744073709551616 from by have:=ho.aT;omega)
 have k0:w.cell? ⟨q,8,none⟩=some (.int .u16 (m.aT:Int)):=Blk.cell hm 8
 clear hm hl ht h8 ho hg hz
 go_enter Tryz.func146,Tryz.ntmps146
 go_wp2_with fail
 refine HD.out.mono ?_
 rintro e w1 ⟨rfl,hb⟩
 have HB:=hid hb
 clear hb
 go_wp2_with fail
 go_ret
 exact⟨rfl,HB.out⟩
theorem Fe{w:World}{q:Nat}{m:Mg}{vn vq vd:Value}(hm:aK w q m vn vq vd)(hl:Lists w w.heap.size m vn vq vd)(ht:TP w)(h8:8≤w.heap.size)(ho:m.ok)(hg:m.good .mode=true)(hz:m.small):
  Calls Tryz.prog 151 #[.pointer (some ⟨q,0,none⟩)] w fun e w'=>e= .returned (.string (ofL (m.val .mode)))∧Below w.heap.size w w':=by
 have HD:=hid (dN m.mode (by have:=ho.mode;omega) w ht)
 have hw:=eH (show m.mode<18446744073709551616 from by have:=ho.mode;omega)
 have k0:w.cell? ⟨q,16,none⟩=some (.int .u8 (m.mode:Int)):=Blk.cell hm 16
 clear hm hl ht h8 ho hg hz
 go_enter Tryz.func151,Tryz.ntmps151
 go_wp2_with fail
 refine HD.out.mono ?_
 rintro e w1 ⟨rfl,hb⟩
 have HB:=hid hb
 clear hb
 go_wp2_with fail
 go_ret
 exact⟨rfl,HB.out⟩
theorem Bl{w:World}{q:Nat}{m:Mg}{vn vq vd:Value}(hm:aK w q m vn vq vd)(hl:Lists w w.heap.size m vn vq vd)(ht:TP w)(h8:8≤w.heap.size)(ho:m.ok)(hg:m.good .offset=true)(hz:m.small):
  Calls Tryz.prog 158 #[.pointer (some ⟨q,0,none⟩)] w fun e w'=>e= .returned (.string (ofL (m.val .offset)))∧Below w.heap.size w w':=by
 have HD:=hid (dN m.offset (by have:=ho.offset;omega) w ht)
 have hw:=eH (show m.offset<18446744073709551616 from by have:=ho.offset;omega)
 have k0:w.cell? ⟨q,20,none⟩=some (.int .u64 (m.offset:Int)):=Blk.cell hm 20
 clear hm hl ht h8 ho hg hz
 go_enter Tryz.func158,Tryz.ntmps158
 go_wp2_with fail
 refine HD.out.mono ?_
 rintro e w1 ⟨rfl,hb⟩
 have HB:=hid hb
 clear hb
 go_wp2_with fail
 go_ret
 exact⟨rfl,HB.out⟩
theorem I_{w:World}{q:Nat}{m:Mg}{vn vq vd:Value}(hm:aK w q m vn vq vd)(hl:Lists w w.heap.size m vn vq vd)(ht:TP w)(h8:8≤w.heap.size)(ho:m.ok)(hg:m.good .qid=true)(hz:m.small):
  Calls Tryz.prog 175 #[.pointer (some ⟨q,0,none⟩)] w fun e w'=>e= .returned (.string (ofL (m.val .qid)))∧Below w.heap.size w w':=by
 have HD:=hid (sW m.qid ho.qid.wide w ht h8)
 have k0:w.cell? ⟨q,13,none⟩=some (.int .u8 (m.qid.kind:Int)):=Blk.cell hm 13
 have k1:w.cell? ⟨q,14,none⟩=some (.int .u32 (m.qid.vers:Int)):=Blk.cell hm 14
 have k2:w.cell? ⟨q,15,none⟩=some (.int .u64 (m.qid.path:Int)):=Blk.cell hm 15
 clear hm hl ht h8 ho hg hz
 go_enter Tryz.func175,Tryz.ntmps175
 go_wp2_with fail
 refine HD.out.mono ?_
 rintro e w1 ⟨rfl,hb⟩
 have HB:=hid hb
 clear hb
 go_wp2_with fail
 go_ret
 exact⟨rfl,HB.out⟩
theorem Fg{w:World}{q:Nat}{m:Mg}{vn vq vd:Value}(hm:aK w q m vn vq vd)(hl:Lists w w.heap.size m vn vq vd)(ht:TP w)(h8:8≤w.heap.size)(ho:m.ok)(hg:m.good .data=true)(hz:m.small):
  Calls Tryz.prog 166 #[.pointer (some ⟨q,0,none⟩)] w fun e w'=>e= .returned (.string (ofL (m.val .data)))∧Below w.heap.size w w':=by
 have k0:w.cell? ⟨q,22,none⟩=some vd:=Blk.cell hm 22
 have HD:=hid (sJ vd m.data w hl.d hz.data)
 clear hm hl ht h8 ho hg hz
 go_enter Tryz.func166,Tryz.ntmps166
 go_wp2_with fail
 refine HD.out.mono ?_
 rintro e w1 ⟨rfl,hb⟩
 have HB:=hid hb
 clear hb
 go_wp2_with fail
 go_ret
 exact⟨rfl,HB.out⟩
theorem abW{w:World}{q:Nat}{m:Mg}{vn vq vd:Value}(hm:aK w q m vn vq vd)(hl:Lists w w.heap.size m vn vq vd)(ht:TP w)(h8:8≤w.heap.size)(ho:m.ok)(hg:m.good .names=true)(hz:m.small)(hq:∀x∈m.names,abZ x):
  Calls Tryz.prog 216 #[.pointer (some ⟨q,0,none⟩)] w fun e w'=>e= .returned (.string (ofL (m.val .names)))∧Below w.heap.size w w':=by
 have hnm:m.names.length≤16∧∀x∈m.names,good x=true:=by
  have h:(decide (m.names.length≤16)&&m.names.all good)=true:=hg
  rw[Bool.and_eq_true]at h
  exact⟨of_decide_eq_true h.1,List.all_eq_true.1 h.2⟩
 have k0:w.cell? ⟨q,11,none⟩=some vn:=Blk.cell hm 11
 have HD:=hid (abV vn m.names w hl.n hnm.1 (fun x hx=>⟨hz.Pv x hx,hq x hx⟩))
 clear hm hl ht h8 ho hg hz
 go_enter Tryz.func216,Tryz.ntmps216
 go_wp2_with fail
 refine HD.out.mono ?_
 rintro e w1 ⟨rfl,hb⟩
 have HB:=hid hb
 clear hb
 go_wp2_with fail
 go_ret
 exact⟨rfl,HB.out⟩
theorem Dw{w:World}{q:Nat}{m:Mg}{vn vq vd:Value}(hm:aK w q m vn vq vd)(hl:Lists w w.heap.size m vn vq vd)(ht:TP w)(h8:8≤w.heap.size)(ho:m.ok)(hg:m.good .names=true)(hz:m.small):
  Calls Tryz.prog 216 #[.pointer (some ⟨q,0,none⟩)] w fun e w'=>e= .returned (.string (ofL (m.val .names)))∧Below w.heap.size w w':=abW hm hl ht h8 ho hg hz fun x hx w=>by
 have hg2:(decide (m.names.length≤16)&&m.names.all Go.Proofs.YtkblmloobkiloaaGreatDoor.good)=true:=hg
 rw[Bool.and_eq_true]at hg2
 exact jS x (List.all_eq_true.1 hg2.2 x hx) (hz.Pv x hx) w
theorem Fh{w:World}{q:Nat}{m:Mg}{vn vq vd:Value}(hm:aK w q m vn vq vd)(hl:Lists w w.heap.size m vn vq vd)(ht:TP w)(h8:8≤w.heap.size)(ho:m.ok)(hg:m.good .aV=true)(hz:m.small):
  Calls Tryz.prog 229 #[.pointer (some ⟨q,0,none⟩)] w fun e w'=>e= .returned (.string (ofL (m.val .aV)))∧Below w.heap.size w w':=by
 have k0:w.cell? ⟨q,12,none⟩=some vq:=Blk.cell hm 12
 have HD:=hid (Dl vq m.aV w hl.q (of_decide_eq_true hg) (fun x hx=>(ho.aV x hx).wide) ht h8)
 clear hm hl ht h8 ho hg hz
 go_enter Tryz.func229,Tryz.ntmps229
 go_wp2_with fail
 refine HD.out.mono ?_
 rintro e w1 ⟨rfl,hb⟩
 have HB:=hid hb
 clear hb
 go_wp2_with fail
 go_ret
 exact⟨rfl,HB.out⟩
theorem Fj{w:World}{q:Nat}{m:Mg}{vn vq vd:Value}(hm:aK w q m vn vq vd)(hl:Lists w w.heap.size m vn vq vd)(ht:TP w)(h8:8≤w.heap.size)(ho:m.ok)(hg:m.good .stat=true)(hz:m.small):
  Calls Tryz.prog 239 #[.pointer (some ⟨q,0,none⟩)] w fun e w'=>e= .returned (.string (ofL (m.val .stat)))∧Below w.heap.size w w':=by
 have HD:=hid (Bg m.stat (Mg.prt ho hg hz) w ht h8)
 have HM:=hid hm
 clear hm hl ht h8 ho hg hz
 go_enter Tryz.func239,Tryz.ntmps239
 go_wp2_with(refine wlw HM.out 23 (stL m.stat) rfl rfl _ _ rfl rfl _ Tryz.underlying39 rfl bP ?_)
 refine HD.out.mono ?_
 rintro e w1 ⟨rfl,hb⟩
 have HB:=hid hb
 clear hb
 go_wp2_with fail
 go_ret
 exact⟨rfl,HB.out⟩
theorem Bo(f:Fld){w:World}{q:Nat}{m:Mg}{vn vq vd:Value}(hm:aK w q m vn vq vd)(hl:Lists w w.heap.size m vn vq vd)(ht:TP w)(h8:8≤w.heap.size)(ho:m.ok){b:Nat}(hc:yC w f b)(hg:m.good f=true)(hz:m.small):
  Calls Tryz.prog f.kr (#[.pointer (some ⟨q,0,none⟩)]++f.cap b) w fun e w'=>e= .returned (.string (ofL (m.val f)))∧Below w.heap.size w w':=by
 cases f
 case bI=>exact jf (n:=m.bI) (by have:=ho.bI;omega) (aS .bI rfl) (aZ .bI rfl q) (hc.2 rfl rfl) (Blk.cell hm 2) ht
 case version=>exact lF (s:=m.version) hg (by have h:2+m.version.size≤16777216:=hz .version;omega) (aS .version rfl) (aZ .version rfl q) (hc.1 rfl) (Blk.cell hm 3)
 case dB=>exact jf (n:=m.dB) (by have:=ho.dB;omega) (aS .dB rfl) (aZ .dB rfl q) (hc.2 rfl rfl) (Blk.cell hm 4) ht
 case uname=>exact lF (s:=m.uname) hg (by have h:2+m.uname.size≤16777216:=hz .uname;omega) (aS .uname rfl) (aZ .uname rfl q) (hc.1 rfl) (Blk.cell hm 5)
 case bF=>exact lF (s:=m.bF) hg (by have h:2+m.bF.size≤16777216:=hz .bF;omega) (aS .bF rfl) (aZ .bF rfl q) (hc.1 rfl) (Blk.cell hm 6)
 case bH=>exact lF (s:=m.bH) hg (by have h:2+m.bH.size≤16777216:=hz .bH;omega) (aS .bH rfl) (aZ .bH rfl q) (hc.1 rfl) (Blk.cell hm 7)
 case aT=>exact Bj hm hl ht h8 ho hg hz
 case fid=>exact jf (n:=m.fid) (by have:=ho.fid;omega) (aS .fid rfl) (aZ .fid rfl q) (hc.2 rfl rfl) (Blk.cell hm 9) ht
 case aU=>exact jf (n:=m.aU) (by have:=ho.aU;omega) (aS .aU rfl) (aZ .aU rfl q) (hc.2 rfl rfl) (Blk.cell hm 10) ht
 case names=>exact Dw hm hl ht h8 ho hg hz
 case aV=>exact Fh hm hl ht h8 ho hg hz
 case qid=>exact I_ hm hl ht h8 ho hg hz
 case mode=>exact Fe hm hl ht h8 ho hg hz
 case aQ=>exact jf (n:=m.aQ) (by have:=ho.aQ;omega) (aS .aQ rfl) (aZ .aQ rfl q) (hc.2 rfl rfl) (Blk.cell hm 17) ht
 case name=>exact lF (s:=m.name) hg (by have h:2+m.name.size≤16777216:=hz .name;omega) (aS .name rfl) (aZ .name rfl q) (hc.1 rfl) (Blk.cell hm 18)
 case perm=>exact jf (n:=m.perm) (by have:=ho.perm;omega) (aS .perm rfl) (aZ .perm rfl q) (hc.2 rfl rfl) (Blk.cell hm 19) ht
 case offset=>exact Bl hm hl ht h8 ho hg hz
 case count=>exact jf (n:=m.count) (by have:=ho.count;omega) (aS .count rfl) (aZ .count rfl q) (hc.2 rfl rfl) (Blk.cell hm 21) ht
 case data=>exact Fg hm hl ht h8 ho hg hz
 case stat=>exact Fj hm hl ht h8 ho hg hz
abbrev P6(m:Mg)(f:Fld):Prop:=∀(w:World) (q:Nat) (vn vq vd:Value),aK w q m vn vq vd→Lists w w.heap.size m vn vq vd→TP w→8≤w.heap.size→m.ok→∀b:Nat,yC w f b→m.good f=true→m.small→Calls Tryz.prog f.kr (#[.pointer (some ⟨q,0,none⟩)]++f.cap b) w fun e w'=>e= .returned (.string (ofL (m.val f)))∧Below w.heap.size w w'
theorem aeo(m:Mg)(f:Fld):P6 m f:=fun _ _ _ _ _ hm hl ht h8 ho _ hc hg hz=>Bo f hm hl ht h8 ho hc hg hz
theorem Ot(m:Mg)(f:Fld)(ho:m.ok)(hg:m.good f=true)(hz:m.small):(m.val f).length≤2147483648:=by
 have hd:∀n,n<18446744073709551616→(decDigits n).length≤20:=fun n hn=>by have:=jD n hn;rw[dU]at this;exact this
 have hq:=fun s=>kT s
 cases f
 case bI=>show(decDigits m.bI).length≤_;have:=hd m.bI (by have:=ho.bI;omega);omega
 case version=>show(bD m.version).length≤_;have:=hq m.version;have h:2+m.version.size≤16777216:=hz .version;omega
 case dB=>show(decDigits m.dB).length≤_;have:=hd m.dB (by have:=ho.dB;omega);omega
 case uname=>show(bD m.uname).length≤_;have:=hq m.uname;have h:2+m.uname.size≤16777216:=hz .uname;omega
 case bF=>show(bD m.bF).length≤_;have:=hq m.bF;have h:2+m.bF.size≤16777216:=hz .bF;omega
 case bH=>show(bD m.bH).length≤_;have:=hq m.bH;have h:2+m.bH.size≤16777216:=hz .bH;omega
 case aT=>show(decDigits m.aT).length≤_;have:=hd m.aT (by have:=ho.aT;omega);omega
 case fid=>show(decDigits m.fid).length≤_;have:=hd m.fid (by have:=ho.fid;omega);omega
 case aU=>show(decDigits m.aU).length≤_;have:=hd m.aU (by have:=ho.aU;omega);omega
 case mode=>show(decDigits m.mode).length≤_;have:=hd m.mode (by have:=ho.mode;omega);omega
 case aQ=>show(decDigits m.aQ).length≤_;have:=hd m.aQ (by have:=ho.aQ;omega);omega
 case name=>show(bD m.name).length≤_;have:=hq m.name;have h:2+m.name.size≤16777216:=hz .name;omega
 case perm=>show(decDigits m.perm).length≤_;have:=hd m.perm (by have:=ho.perm;omega);omega
 case offset=>show(decDigits m.offset).length≤_;have:=hd m.offset (by have:=ho.offset;omega);omega
 case count=>show(decDigits m.count).length≤_;have:=hd m.count (by have:=ho.count;omega);omega
 case qid=>show(iG m.qid).length≤_;have:=pI m.qid ho.qid.wide;omega
 case data=>show(m.data.flatMap jW).length≤_;rw[GI];have:=hz.data;omega
 case names=>
  show(91::(iJ (m.names.map bD)++[93])).length≤_
  have h:(decide (m.names.length≤16)&&m.names.all good)=true:=hg
  rw[Bool.and_eq_true]at h
  have h1:=of_decide_eq_true h.1
  have h2:=nN (m.names.map bD) 67108866 (by
   intro x hx
   obtain⟨y,hy,rfl⟩:=List.mem_map.1 hx
   have:=hq y
   have:=hz.Pv y hy
   omega)
  rw[List.length_map]at h2
  have h3:m.names.length*(67108866+1)≤16*(67108866+1):=Nat.mul_le_mul_right _ h1
  rw[List.length_cons,List.length_append,List.length_cons,List.length_nil]
  omega
 case aV=>
  show(91::(iJ (m.aV.map iG)++[93])).length≤_
  have h1:m.aV.length≤16:=of_decide_eq_true hg
  have h2:=nN (m.aV.map iG) 62 (by
   intro x hx
   obtain⟨y,hy,rfl⟩:=List.mem_map.1 hx
   exact pI y (ho.aV y hy).wide)
  rw[List.length_map]at h2
  have h3:m.aV.length*(62+1)≤16*(62+1):=Nat.mul_le_mul_right _ h1
  rw[List.length_cons,List.length_append,List.length_cons,List.length_nil]
  omega
 case stat=>
  show(rD m.stat).length≤_
  have hp:=Mg.prt ho hg hz
  have a0:=hd _ hp.type
  have a1:=hd _ hp.dev
  have a2:=pI _ hp.qid
  have a3:=hd _ hp.mode
  have a4:=hd _ hp.atime
  have a5:=hd _ hp.mtime
  have a6:=hd _ hp.length
  have a7:=hq m.stat.name
  have a8:=hq m.stat.uid
  have a9:=hq m.stat.gid
  have b0:=hq m.stat.fE
  have b7:=hp.name.2
  have b8:=hp.uid.2
  have b9:=hp.gid.2
  have c0:=hp.fE.2
  unfold rD
  simp only[List.length_append,List.length_cons,List.length_nil]
  omega
end Go.Proofs.YtkblmloobkiloaaGreatDoor
