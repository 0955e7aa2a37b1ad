/-
  MRN MRW MRX MRY: what the laws of package msg need of them.
-/
import Derived.Test.YtkblmloobkiloaaGreatDoorF00
import Derived.Test.YtkblmloobkiloaaGreatDoorF20
import Derived.Test.YtkblmloobkiloaaGreatDoorF13
import Derived.IntWalk
import Derived.Test.YtkblmloobkiloaaGreatDoorF10
import Derived.Test.YtkblmloobkiloaaGreatDoorF23
import Derived.Test.YtkblmloobkiloaaGreatDoorF02
set_option maxRecDepth 100000
set_option maxHeartbeats 6400000
namespace Go.Proofs.YtkblmloobkiloaaGreatDoor
open Go.Lib (hid)
open Go.RowKit
def Fld.rX:Fld→UInt8
 | .bI=>109
 | .version=>118
 | .dB=>97
 | .uname=>117
 | .bF=>110
 | .bH=>101
 | .aT=>111
 | .fid=>102
 | .aU=>119
 | .names=>78
 | .aV=>81
 | .qid=>113
 | .mode=>100
 | .aQ=>105
 | .name=>99
 | .perm=>112
 | .offset=>79
 | .count=>67
 | .data=>68
 | .stat=>83
def iQ(k:Nat):ByteArray:=ofL (((bQ k).getD []).map Fld.rX)
theorem FN(k:Nat):k=100∨k=101∨k=102∨k=103∨k=104∨k=105∨k=107∨k=108∨k=109∨k=110∨k=111∨k=112∨k=113∨k=114∨k=115∨k=116∨k=117∨k=118∨k=119∨k=120∨k=121∨k=122∨k=123∨k=124∨k=125∨k=126∨k=127∨bQ k=none:=by
 unfold bQ
 split<;>simp_all
theorem OD{k:Nat}(h:bQ k=none):k≠100∧k≠101∧k≠102∧k≠103∧k≠104∧k≠105∧k≠107∧k≠108∧k≠109∧k≠110∧k≠111∧k≠112∧k≠113∧k≠114∧k≠115∧k≠116∧k≠117∧k≠118∧k≠119∧k≠120∧k≠121∧k≠122∧k≠123∧k≠124∧k≠125∧k≠126∧k≠127:=by
 refine⟨?_, ?_, ?_, ?_, ?_, ?_, ?_, ?_, ?_, ?_, ?_, ?_, ?_, ?_, ?_, ?_, ?_, ?_, ?_, ?_, ?_, ?_, ?_, ?_, ?_, ?_, ?_⟩<;>(rintro rfl;cases h)
theorem Zg{k:Nat}(h:bQ k=none):fO k=[]:=by
 have:=OD h
 unfold fO
 split<;>first|rfl|omega
theorem ZE{k:Nat}{s:List UInt8}(h:fO k=s)(hs:s≠ []):kindOf s=some k:=by
 cases hk:bQ k with
 |none=>exact absurd (h.symm.trans (Zg hk)) hs
 |some fs=>rw[←h];exact(CJ hk).1
theorem Zh{s:List UInt8}(h:∀j,j<28→fO (100+j)=s→s=[]):kindOf s=none:=by
 cases hk:kindOf s with
 |none=>rfl
 |some k=>
  obtain⟨h1,h2,fs,hf⟩:=mM hk
  obtain⟨-, -,h3,h4⟩:=iP hf
  refine absurd (h (k-100) (by omega) ?_) h2
  rw[show 100+(k-100)=k by omega]
  exact h1
theorem Bv(k:Nat)(hk:k<256)(w:World):Calls Tryz.prog 48 #[.int .u8 (k:Int)] w fun e w'=>e= .returned (.tuple #[.string (iQ k),.bool (bQ k).isSome])∧w=w':=by
 rcases FN k with rfl|rfl|rfl|rfl|rfl|rfl|rfl|rfl|rfl|rfl|rfl|rfl|rfl|rfl|rfl|rfl|rfl|rfl|rfl|rfl|rfl|rfl|rfl|rfl|rfl|rfl|rfl|hn
 ·as_aux_lemma=>
   rw[show iQ 100=⟨#[109,118]⟩from rfl,show(bQ 100).isSome=true from rfl]
   change Calls Tryz.prog 48 #[.int .u8 100] w _
   go_enter Tryz.func48,Tryz.ntmps48
   go_wp2_with fail
   refine bodyPost_ret (v:= .tuple #[.string ⟨#[109,118]⟩,.bool true]) (by simp[results,Tryz.results48]) rfl ⟨rfl,rfl⟩
 ·as_aux_lemma=>
   rw[show iQ 101=⟨#[109,118]⟩from rfl,show(bQ 101).isSome=true from rfl]
   change Calls Tryz.prog 48 #[.int .u8 101] w _
   go_enter Tryz.func48,Tryz.ntmps48
   go_wp2_with fail
   refine bodyPost_ret (v:= .tuple #[.string ⟨#[109,118]⟩,.bool true]) (by simp[results,Tryz.results48]) rfl ⟨rfl,rfl⟩
 ·as_aux_lemma=>
   rw[show iQ 102=⟨#[97,117,110]⟩from rfl,show(bQ 102).isSome=true from rfl]
   change Calls Tryz.prog 48 #[.int .u8 102] w _
   go_enter Tryz.func48,Tryz.ntmps48
   go_wp2_with fail
   refine bodyPost_ret (v:= .tuple #[.string ⟨#[97,117,110]⟩,.bool true]) (by simp[results,Tryz.results48]) rfl ⟨rfl,rfl⟩
 ·as_aux_lemma=>
   rw[show iQ 103=⟨#[113]⟩from rfl,show(bQ 103).isSome=true from rfl]
   change Calls Tryz.prog 48 #[.int .u8 103] w _
   go_enter Tryz.func48,Tryz.ntmps48
   go_wp2_with fail
   refine bodyPost_ret (v:= .tuple #[.string ⟨#[113]⟩,.bool true]) (by simp[results,Tryz.results48]) rfl ⟨rfl,rfl⟩
 ·as_aux_lemma=>
   rw[show iQ 104=⟨#[102,97,117,110]⟩from rfl,show(bQ 104).isSome=true from rfl]
   change Calls Tryz.prog 48 #[.int .u8 104] w _
   go_enter Tryz.func48,Tryz.ntmps48
   go_wp2_with fail
   refine bodyPost_ret (v:= .tuple #[.string ⟨#[102,97,117,110]⟩,.bool true]) (by simp[results,Tryz.results48]) rfl ⟨rfl,rfl⟩
 ·as_aux_lemma=>
   rw[show iQ 105=⟨#[113]⟩from rfl,show(bQ 105).isSome=true from rfl]
   change Calls Tryz.prog 48 #[.int .u8 105] w _
   go_enter Tryz.func48,Tryz.ntmps48
   go_wp2_with fail
   refine bodyPost_ret (v:= .tuple #[.string ⟨#[113]⟩,.bool true]) (by simp[results,Tryz.results48]) rfl ⟨rfl,rfl⟩
 ·as_aux_lemma=>
   rw[show iQ 107=⟨#[101]⟩from rfl,show(bQ 107).isSome=true from rfl]
   change Calls Tryz.prog 48 #[.int .u8 107] w _
   go_enter Tryz.func48,Tryz.ntmps48
   go_wp2_with fail
   refine bodyPost_ret (v:= .tuple #[.string ⟨#[101]⟩,.bool true]) (by simp[results,Tryz.results48]) rfl ⟨rfl,rfl⟩
 ·as_aux_lemma=>
   rw[show iQ 108=⟨#[111]⟩from rfl,show(bQ 108).isSome=true from rfl]
   change Calls Tryz.prog 48 #[.int .u8 108] w _
   go_enter Tryz.func48,Tryz.ntmps48
   go_wp2_with fail
   refine bodyPost_ret (v:= .tuple #[.string ⟨#[111]⟩,.bool true]) (by simp[results,Tryz.results48]) rfl ⟨rfl,rfl⟩
 ·as_aux_lemma=>
   rw[show iQ 109=⟨#[]⟩from rfl,show(bQ 109).isSome=true from rfl]
   change Calls Tryz.prog 48 #[.int .u8 109] w _
   go_enter Tryz.func48,Tryz.ntmps48
   go_wp2_with fail
   refine bodyPost_ret (v:= .tuple #[.string ⟨#[]⟩,.bool true]) (by simp[results,Tryz.results48]) rfl ⟨rfl,rfl⟩
 ·as_aux_lemma=>
   rw[show iQ 110=⟨#[102,119,78]⟩from rfl,show(bQ 110).isSome=true from rfl]
   change Calls Tryz.prog 48 #[.int .u8 110] w _
   go_enter Tryz.func48,Tryz.ntmps48
   go_wp2_with fail
   refine bodyPost_ret (v:= .tuple #[.string ⟨#[102,119,78]⟩,.bool true]) (by simp[results,Tryz.results48]) rfl ⟨rfl,rfl⟩
 ·as_aux_lemma=>
   rw[show iQ 111=⟨#[81]⟩from rfl,show(bQ 111).isSome=true from rfl]
   change Calls Tryz.prog 48 #[.int .u8 111] w _
   go_enter Tryz.func48,Tryz.ntmps48
   go_wp2_with fail
   refine bodyPost_ret (v:= .tuple #[.string ⟨#[81]⟩,.bool true]) (by simp[results,Tryz.results48]) rfl ⟨rfl,rfl⟩
 ·as_aux_lemma=>
   rw[show iQ 112=⟨#[102,100]⟩from rfl,show(bQ 112).isSome=true from rfl]
   change Calls Tryz.prog 48 #[.int .u8 112] w _
   go_enter Tryz.func48,Tryz.ntmps48
   go_wp2_with fail
   refine bodyPost_ret (v:= .tuple #[.string ⟨#[102,100]⟩,.bool true]) (by simp[results,Tryz.results48]) rfl ⟨rfl,rfl⟩
 ·as_aux_lemma=>
   rw[show iQ 113=⟨#[113,105]⟩from rfl,show(bQ 113).isSome=true from rfl]
   change Calls Tryz.prog 48 #[.int .u8 113] w _
   go_enter Tryz.func48,Tryz.ntmps48
   go_wp2_with fail
   refine bodyPost_ret (v:= .tuple #[.string ⟨#[113,105]⟩,.bool true]) (by simp[results,Tryz.results48]) rfl ⟨rfl,rfl⟩
 ·as_aux_lemma=>
   rw[show iQ 114=⟨#[102,99,112,100]⟩from rfl,show(bQ 114).isSome=true from rfl]
   change Calls Tryz.prog 48 #[.int .u8 114] w _
   go_enter Tryz.func48,Tryz.ntmps48
   go_wp2_with fail
   refine bodyPost_ret (v:= .tuple #[.string ⟨#[102,99,112,100]⟩,.bool true]) (by simp[results,Tryz.results48]) rfl ⟨rfl,rfl⟩
 ·as_aux_lemma=>
   rw[show iQ 115=⟨#[113,105]⟩from rfl,show(bQ 115).isSome=true from rfl]
   change Calls Tryz.prog 48 #[.int .u8 115] w _
   go_enter Tryz.func48,Tryz.ntmps48
   go_wp2_with fail
   refine bodyPost_ret (v:= .tuple #[.string ⟨#[113,105]⟩,.bool true]) (by simp[results,Tryz.results48]) rfl ⟨rfl,rfl⟩
 ·as_aux_lemma=>
   rw[show iQ 116=⟨#[102,79,67]⟩from rfl,show(bQ 116).isSome=true from rfl]
   change Calls Tryz.prog 48 #[.int .u8 116] w _
   go_enter Tryz.func48,Tryz.ntmps48
   go_wp2_with fail
   refine bodyPost_ret (v:= .tuple #[.string ⟨#[102,79,67]⟩,.bool true]) (by simp[results,Tryz.results48]) rfl ⟨rfl,rfl⟩
 ·as_aux_lemma=>
   rw[show iQ 117=⟨#[68]⟩from rfl,show(bQ 117).isSome=true from rfl]
   change Calls Tryz.prog 48 #[.int .u8 117] w _
   go_enter Tryz.func48,Tryz.ntmps48
   go_wp2_with fail
   refine bodyPost_ret (v:= .tuple #[.string ⟨#[68]⟩,.bool true]) (by simp[results,Tryz.results48]) rfl ⟨rfl,rfl⟩
 ·as_aux_lemma=>
   rw[show iQ 118=⟨#[102,79,68]⟩from rfl,show(bQ 118).isSome=true from rfl]
   change Calls Tryz.prog 48 #[.int .u8 118] w _
   go_enter Tryz.func48,Tryz.ntmps48
   go_wp2_with fail
   refine bodyPost_ret (v:= .tuple #[.string ⟨#[102,79,68]⟩,.bool true]) (by simp[results,Tryz.results48]) rfl ⟨rfl,rfl⟩
 ·as_aux_lemma=>
   rw[show iQ 119=⟨#[67]⟩from rfl,show(bQ 119).isSome=true from rfl]
   change Calls Tryz.prog 48 #[.int .u8 119] w _
   go_enter Tryz.func48,Tryz.ntmps48
   go_wp2_with fail
   refine bodyPost_ret (v:= .tuple #[.string ⟨#[67]⟩,.bool true]) (by simp[results,Tryz.results48]) rfl ⟨rfl,rfl⟩
 ·as_aux_lemma=>
   rw[show iQ 120=⟨#[102]⟩from rfl,show(bQ 120).isSome=true from rfl]
   change Calls Tryz.prog 48 #[.int .u8 120] w _
   go_enter Tryz.func48,Tryz.ntmps48
   go_wp2_with fail
   refine bodyPost_ret (v:= .tuple #[.string ⟨#[102]⟩,.bool true]) (by simp[results,Tryz.results48]) rfl ⟨rfl,rfl⟩
 ·as_aux_lemma=>
   rw[show iQ 121=⟨#[]⟩from rfl,show(bQ 121).isSome=true from rfl]
   change Calls Tryz.prog 48 #[.int .u8 121] w _
   go_enter Tryz.func48,Tryz.ntmps48
   go_wp2_with fail
   refine bodyPost_ret (v:= .tuple #[.string ⟨#[]⟩,.bool true]) (by simp[results,Tryz.results48]) rfl ⟨rfl,rfl⟩
 ·as_aux_lemma=>
   rw[show iQ 122=⟨#[102]⟩from rfl,show(bQ 122).isSome=true from rfl]
   change Calls Tryz.prog 48 #[.int .u8 122] w _
   go_enter Tryz.func48,Tryz.ntmps48
   go_wp2_with fail
   refine bodyPost_ret (v:= .tuple #[.string ⟨#[102]⟩,.bool true]) (by simp[results,Tryz.results48]) rfl ⟨rfl,rfl⟩
 ·as_aux_lemma=>
   rw[show iQ 123=⟨#[]⟩from rfl,show(bQ 123).isSome=true from rfl]
   change Calls Tryz.prog 48 #[.int .u8 123] w _
   go_enter Tryz.func48,Tryz.ntmps48
   go_wp2_with fail
   refine bodyPost_ret (v:= .tuple #[.string ⟨#[]⟩,.bool true]) (by simp[results,Tryz.results48]) rfl ⟨rfl,rfl⟩
 ·as_aux_lemma=>
   rw[show iQ 124=⟨#[102]⟩from rfl,show(bQ 124).isSome=true from rfl]
   change Calls Tryz.prog 48 #[.int .u8 124] w _
   go_enter Tryz.func48,Tryz.ntmps48
   go_wp2_with fail
   refine bodyPost_ret (v:= .tuple #[.string ⟨#[102]⟩,.bool true]) (by simp[results,Tryz.results48]) rfl ⟨rfl,rfl⟩
 ·as_aux_lemma=>
   rw[show iQ 125=⟨#[83]⟩from rfl,show(bQ 125).isSome=true from rfl]
   change Calls Tryz.prog 48 #[.int .u8 125] w _
   go_enter Tryz.func48,Tryz.ntmps48
   go_wp2_with fail
   refine bodyPost_ret (v:= .tuple #[.string ⟨#[83]⟩,.bool true]) (by simp[results,Tryz.results48]) rfl ⟨rfl,rfl⟩
 ·as_aux_lemma=>
   rw[show iQ 126=⟨#[102,83]⟩from rfl,show(bQ 126).isSome=true from rfl]
   change Calls Tryz.prog 48 #[.int .u8 126] w _
   go_enter Tryz.func48,Tryz.ntmps48
   go_wp2_with fail
   refine bodyPost_ret (v:= .tuple #[.string ⟨#[102,83]⟩,.bool true]) (by simp[results,Tryz.results48]) rfl ⟨rfl,rfl⟩
 ·as_aux_lemma=>
   rw[show iQ 127=⟨#[]⟩from rfl,show(bQ 127).isSome=true from rfl]
   change Calls Tryz.prog 48 #[.int .u8 127] w _
   go_enter Tryz.func48,Tryz.ntmps48
   go_wp2_with fail
   refine bodyPost_ret (v:= .tuple #[.string ⟨#[]⟩,.bool true]) (by simp[results,Tryz.results48]) rfl ⟨rfl,rfl⟩
 ·as_aux_lemma=>
   rw[show iQ k=⟨#[]⟩from by unfold iQ;rw[hn];rfl,show(bQ k).isSome=false from by rw[hn];rfl]
   obtain⟨VH,VI,VJ,VK,VL,VN,VO,VP,VQ,VR,VT,h112,VU,VW,VX,h116,VY,VZ,h119,PN,V3,h122,V4,V5,V6,V7,h127⟩:=OD hn
   have Xk:((k:Int)==100)=false:=by rw[beq_eq_false_iff_ne];omega
   have Xl:((k:Int)==101)=false:=by rw[beq_eq_false_iff_ne];omega
   have Xm:((k:Int)==102)=false:=by rw[beq_eq_false_iff_ne];omega
   have Xn:((k:Int)==103)=false:=by rw[beq_eq_false_iff_ne];omega
   have Xo:((k:Int)==104)=false:=by rw[beq_eq_false_iff_ne];omega
   have Xp:((k:Int)==105)=false:=by rw[beq_eq_false_iff_ne];omega
   have Xq:((k:Int)==107)=false:=by rw[beq_eq_false_iff_ne];omega
   have Xr:((k:Int)==108)=false:=by rw[beq_eq_false_iff_ne];omega
   have Xt:((k:Int)==109)=false:=by rw[beq_eq_false_iff_ne];omega
   have Xu:((k:Int)==110)=false:=by rw[beq_eq_false_iff_ne];omega
   have Xv:((k:Int)==111)=false:=by rw[beq_eq_false_iff_ne];omega
   have Xw:((k:Int)==112)=false:=by rw[beq_eq_false_iff_ne];omega
   have Xx:((k:Int)==113)=false:=by rw[beq_eq_false_iff_ne];omega
   have Xy:((k:Int)==114)=false:=by rw[beq_eq_false_iff_ne];omega
   have Xz:((k:Int)==115)=false:=by rw[beq_eq_false_iff_ne];omega
   have XA:((k:Int)==116)=false:=by rw[beq_eq_false_iff_ne];omega
   have XB:((k:Int)==117)=false:=by rw[beq_eq_false_iff_ne];omega
   have XC:((k:Int)==118)=false:=by rw[beq_eq_false_iff_ne];omega
   have XD:((k:Int)==119)=false:=by rw[beq_eq_false_iff_ne];omega
   have XE:((k:Int)==120)=false:=by rw[beq_eq_false_iff_ne];omega
   have XF:((k:Int)==121)=false:=by rw[beq_eq_false_iff_ne];omega
   have XG:((k:Int)==122)=false:=by rw[beq_eq_false_iff_ne];omega
   have XH:((k:Int)==123)=false:=by rw[beq_eq_false_iff_ne];omega
   have XI:((k:Int)==124)=false:=by rw[beq_eq_false_iff_ne];omega
   have XJ:((k:Int)==125)=false:=by rw[beq_eq_false_iff_ne];omega
   have XK:((k:Int)==126)=false:=by rw[beq_eq_false_iff_ne];omega
   have XL:((k:Int)==127)=false:=by rw[beq_eq_false_iff_ne];omega
   clear VH VI VJ VK VL VN VO VP VQ VR VT h112 VU VW VX h116 VY VZ h119 PN V3 h122 V4 V5 V6 V7 h127
   have hw:wrap64 (k:Int)=(k:Int):=IntWalk.wrap64_in _ (by omega)
   go_enter Tryz.func48,Tryz.ntmps48
   go_wp2_with fail
   refine bodyPost_ret (v:= .tuple #[.string ⟨#[]⟩,.bool false]) (by simp[results,Tryz.results48]) rfl ⟨rfl,rfl⟩
def Yp:List ByteArray:=[⟨#[118,101,114,115,105,111,110]⟩,⟨#[97,117,116,104]⟩,⟨#[97,116,116,97,99,104]⟩,⟨#[101,114,114,111,114]⟩,⟨#[102,108,117,115,104]⟩,⟨#[119,97,108,107]⟩,⟨#[111,112,101,110]⟩,⟨#[99,114,101,97,116,101]⟩,⟨#[114,101,97,100]⟩,⟨#[119,114,105,116,101]⟩,⟨#[99,108,117,110,107]⟩,⟨#[114,101,109,111,118,101]⟩,⟨#[115,116,97,116]⟩,⟨#[119,115,116,97,116]⟩]
def aag(k:Nat):ByteArray:=if k%2=0 then⟨#[84]⟩else⟨#[82]⟩
theorem ZQ{k:Nat}{fs:List Fld}(h:bQ k=some fs):100≤k∧k<128∧∃x,Yp[(k-100)/2]? =some x∧x.size≤10∧aag k++x=ofL (fO k):=by
 rcases FN k with rfl|rfl|rfl|rfl|rfl|rfl|rfl|rfl|rfl|rfl|rfl|rfl|rfl|rfl|rfl|rfl|rfl|rfl|rfl|rfl|rfl|rfl|rfl|rfl|rfl|rfl|rfl|hn
 all_goals first
  |exact⟨by decide,by decide,_,rfl,by decide,by kernel_rfl⟩
  |(rw[hn]at h;cases h)
theorem YW(k:Nat)(hk:k<256)(w:World):Calls Tryz.prog 36 #[.int .u8 (k:Int)] w fun e w'=>e= .returned (.string (ofL (fO k)))∧Below w.heap.size w w':=by
 have hup:Below w.heap.size w (w.alloc (.cells (h_ Yp).toArray 9)):=(Below.refl _ _).alloc (Nat.le_refl _) _
 have HUP:=hid hup
 have HN:=hid (Blk.new w 9 (h_ Yp).toArray)
 have ZY:=hid (fun w1=>Bv k hk w1)
 clear hup
 go_enter Tryz.func36,Tryz.ntmps36
 go_upto_region 2 with(fail)
 change Code.wp _ _ _ _ (w.alloc (.cells (h_ Yp).toArray 9))
 generalize w.alloc (.cells (h_ Yp).toArray 9)=w1 at HUP HN⊢
 generalize hz:w.heap.size=z at HN⊢
 have HZ:=hid hz
 clear hz
 go_wp2_with fail
 refine(ZY.out w1).mono ?_
 rintro e w' ⟨rfl,rfl⟩
 clear ZY
 cases hf:bQ k with
 |none=>
  rw[show(none:Option (List Fld)).isSome=false from rfl]
  have HR:=hid (Zg hf)
  clear hf
  go_wp2_with fail
  refine bodyPost_ret (v:= .string ⟨#[]⟩) (by simp[results,Tryz.results36]) rfl ⟨by rw[HR.out];rfl, ?_⟩
  exact HUP.out
 |some fs=>
  obtain⟨h1,h2,x,hx,hxs,hr⟩:=ZQ hf
  rw[show(some fs:Option (List Fld)).isSome=true from rfl]
  have HR:=hid hr
  have kx:w1.cell? ⟨z,(k-100)/2,none⟩=some (.string x):=(Blk.cell HN.out ((k-100)/2)).trans (by rw[List.getElem?_toArray,h_,List.getElem?_map,hx];rfl)
  have hw0:wrap64 (k:Int)=(k:Int):=IntWalk.wrap64_in _ (by omega)
  have hw1:(k:Int)-100=(((k-100:Nat)):Int):=by omega
  generalize hn:k-100=n at*
  have hnl:n<28:=by omega
  obtain⟨P,hP⟩:∃P,P=aag k++x:=⟨_,rfl⟩
  rw[←hP]at HR
  clear hf hx hr
  by_cases hpar:k%2=0
  ·have hm:Int.tmod ((k:Int)-100) 2=0:=by rw[hw1];show((n%2:Nat):Int)=0;omega
   have hq:Int.tdiv ((k:Int)-100) 2=((n/2:Nat):Int):=by rw[hw1];rfl
   have hlt:n/2<14:=by omega
   have ha:∀w,(Op.stringOp .add (⟨#[84]⟩:ByteArray) x).run Tryz.prog w= .ok (.string P) w:=fun w=>by
    rw[hP,aag,if_pos hpar]
    exact run_string_add_sum w _ _ (by have:(⟨#[84]⟩:ByteArray).size=1:=rfl;omega)
   have hk1:100≤k∧k<128:=by omega
   have h1:=hk1.1
   have h2:=hk1.2
   clear hP hpar hn hw1 hk1
   generalize n/2=q at*
   go_wp2_with fail
   refine bodyPost_ret (v:= .string P) (by simp[results,Tryz.results36]) rfl ⟨by rw[HR.out], ?_⟩
   exact HUP.out
  ·have hm:Int.tmod ((k:Int)-100) 2=1:=by rw[hw1];show((n%2:Nat):Int)=1;omega
   have hq:Int.tdiv ((k:Int)-100) 2=((n/2:Nat):Int):=by rw[hw1];rfl
   have hlt:n/2<14:=by omega
   have ha:∀w,(Op.stringOp .add (⟨#[82]⟩:ByteArray) x).run Tryz.prog w= .ok (.string P) w:=fun w=>by
    rw[hP,aag,if_neg hpar]
    exact run_string_add_sum w _ _ (by have:(⟨#[82]⟩:ByteArray).size=1:=rfl;omega)
   have hk1:100≤k∧k<128:=by omega
   have h1:=hk1.1
   have h2:=hk1.2
   clear hP hpar hn hw1 hk1
   generalize n/2=q at*
   go_wp2_with fail
   refine bodyPost_ret (v:= .string P) (by simp[results,Tryz.results36]) rfl ⟨by rw[HR.out], ?_⟩
   exact HUP.out
theorem YX(s:ByteArray)(w:World):Calls Tryz.prog 38 #[.string s] w fun e w'=>GV s e∧Below w.heap.size w w':=by
 go_enter Tryz.func38,Tryz.ntmps38
 go_upto_region 2 with(fail)
 go_loopw [4,5] (fun i _ wr=>∃k:Nat,k≤28∧i= .int .i64 ((100+k:Nat):Int)∧Below w.heap.size w wr∧∀j,j<k→fO (100+j)=s.data.toList→s.data.toList=[]) (fun i _ _=>28-((intOf i).toNat-100))
 case atStart=>exact⟨0,by omega,rfl,Below.refl _ _,fun j hj=>absurd hj (Nat.not_lt_zero j)⟩
 case round=>
  obtain⟨k,hk,rfl,hb,hno⟩:=hrel
  have HB:=hid hb
  have HNO:=hid hno
  clear hb hno
  by_cases hlt:k<28
  ·have hw8:IntKind.u8.wrap ((100+k:Nat):Int)=((100+k:Nat):Int):=by rw[IntKind.wrap_u8];omega
   have hw64:wrap64 (((100+k:Nat):Int)+1)=((100+(k+1):Nat):Int):=by rw[IntWalk.wrap64_in _ (by omega)];omega
   have hlk:((100+k:Nat):Int)<128:=by omega
   have HNM:=hid (fun w=>YW (100+k) (by omega) w)
   obtain⟨X,hX⟩:∃X,X=ofL (fO (100+k)):=⟨_,rfl⟩
   have HX:=hid (show X.data.toList=fO (100+k)from by rw[hX];simp[ofL])
   rw[←hX]at HNM
   clear hX
   generalize hn:100+k=n at*
   have HN:=hid hn
   clear hn
   go_wp2_with fail
   refine(HNM.out wr).mono ?_
   rintro e w2 ⟨rfl,hb⟩
   have HB2:=hid (HB.out.trans (hb.mono HB.out.size))
   clear hb HNM
   by_cases he:X.toList=[]
   ·have he0:(X.toList== [])=true:=by rw[beq_iff_eq];exact he
    have he1:X.toList.isEmpty=true:=by rw[he];rfl
    have HE:=hid he
    clear he
    go_wp2_with fail
    go_roundw
    case rel=>
     refine⟨k+1,by omega,by have:=HN.out;congr 1;omega,HB2.out,fun j hj hjs=> ?_⟩
     rcases Nat.lt_succ_iff_lt_or_eq.1 hj with h|h
     ·exact HNO.out j h hjs
     ·rw[h,HN.out,←HX.out,←ByteArray.toList_eq,HE.out]at hjs
      exact hjs.symm
    case measure=>have:=HN.out;simp[intOf];omega
   ·have he0:(X.toList== [])=false:=by rw[beq_eq_false_iff_ne];exact he
    have he1:X.toList.isEmpty=false:=by cases h:X.toList with|nil=>exact absurd h he|cons _ _=>rfl
    have HE:=hid he
    clear he
    by_cases hxs:X=s
    ·have HXS:=hid hxs
     subst hxs
     go_wp2_with fail
     refine bodyPost_ret (v:= .tuple #[.int .u8 (n:Int),.bool true]) (by simp[results,Tryz.results38]) rfl ⟨?_, ?_⟩
     ·unfold GV
      rw[ZE HX.out.symm (by rw[←ByteArray.toList_eq];exact HE.out)]
     ·exact HB2.out
    ·have hxq:(X.toList==s.toList)=false:=by rw[Nv];exact decide_eq_false hxs
     have HXS:=hid hxs
     clear hxs
     go_wp2_with fail
     go_roundw
     case rel=>
      refine⟨k+1,by omega,by have:=HN.out;congr 1;omega,HB2.out,fun j hj hjs=> ?_⟩
      rcases Nat.lt_succ_iff_lt_or_eq.1 hj with h|h
      ·exact HNO.out j h hjs
      ·rw[h,HN.out,←HX.out]at hjs
       exact absurd (ByteArray.ext (Array.toList_inj.1 hjs)) HXS.out
     case measure=>have:=HN.out;simp[intOf];omega
  ·have hkk:k=28:=by omega
   subst hkk
   have HKO:=hid (Zh HNO.out)
   clear hlt hk
   go_wp2_with fail
   refine bodyPost_ret (v:= .tuple #[.int .u8 0,.bool false]) (by simp[results,Tryz.results38]) rfl ⟨?_, ?_⟩
   ·unfold GV
    rw[HKO.out]
   ·exact HB.out
theorem jL(f:Fld)(w:World):Calls Tryz.prog 91 #[.int .u8 (f.rX.toNat:Int)] w fun e w'=>e= .returned (.int .i64 (f.width:Int))∧w=w':=by
 obtain⟨i,hi⟩:∃i:Int,i=(f.rX.toNat:Int):=⟨_,rfl⟩
 rw[←hi]
 cases f
 all_goals as_aux_lemma=>
  simp[Fld.rX]at hi
  subst hi
  go_enter Tryz.func91,Tryz.ntmps91
  go_wp2_with fail
  go_ret
  exact⟨rfl,rfl⟩
theorem jV(f:Fld)(w:World):Calls Tryz.prog 93 #[.int .u8 (f.rX.toNat:Int)] w fun e w'=>e= .returned (.bool f.isText)∧w=w':=by
 obtain⟨i,hi⟩:∃i:Int,i=(f.rX.toNat:Int):=⟨_,rfl⟩
 rw[←hi]
 cases f
 all_goals as_aux_lemma=>
  simp[Fld.rX]at hi
  subst hi
  go_enter Tryz.func93,Tryz.ntmps93
  go_wp2_with fail
  go_ret
  exact⟨rfl,rfl⟩
def Fld.cx:Fld→Nat
 | .bI=>2
 | .dB=>4
 | .fid=>9
 | .aU=>10
 | .aQ=>17
 | .perm=>19
 | .count=>21
 | .aT=>8
 | .mode=>16
 | .offset=>20
 | .version=>3
 | .uname=>5
 | .bF=>6
 | .bH=>7
 | .name=>18
 |_=>0
def Fld.ik:Fld→IntKind
 | .aT=> .u16| .mode=> .u8| .offset=> .u64|_=> .u32
def Pz(m:Mg)(vn vq vd:Value)(w:World)(e:Ending)(w':World):Prop:=e= .returned (iM m vn vq vd)∧Below w.heap.size w w'
theorem uZ(w:World)(m:Mg)(vn vq vd:Value):Below w.heap.size w (al (al w (aF m vn vq vd) 41) (mgN (head 0 0)) 41)∧aK (al (al w (aF m vn vq vd) 41) (mgN (head 0 0)) 41) w.heap.size m vn vq vd∧aK (al (al w (aF m vn vq vd) 41) (mgN (head 0 0)) 41) (w.heap.size+1) (head 0 0) (.slice none 0 0) (.slice none 0 0) (.slice none 0 0):=by
 refine⟨((Below.refl _ _).alloc (Nat.le_refl _) _).alloc (by rw[World.size_alloc];omega) _,(Blk.new w _ _).alloc _, ?_⟩
 have h:aK (al (al w (aF m vn vq vd) 41) (mgN (head 0 0)) 41) (al w (aF m vn vq vd) 41).heap.size (head 0 0) (.slice none 0 0) (.slice none 0 0) (.slice none 0 0):=Blk.new _ _ _
 rwa[World.size_alloc]at h
theorem uT(f:Fld)(hf:0<f.width)(n:Nat)(hn:n<256^f.width)(m:Mg)(vn vq vd:Value)(h1:vn.oneCell'=true)(h2:vq.oneCell'=true)(h3:vd.oneCell'=true)(w:World):Calls Tryz.prog 92 #[iM m vn vq vd,.int .u8 (f.rX.toNat:Int),.int .u64 (n:Int)] w (Pz (m.aG n f) vn vq vd w):=by
 obtain⟨hu,hm,hz⟩:=uZ w m vn vq vd
 have HU:=hid hu
 have HM:=hid hm
 have HZ:=hid hz
 clear hu hm hz
 obtain⟨i,hi⟩:∃i:Int,i=(f.rX.toNat:Int):=⟨_,rfl⟩
 rw[←hi]
 obtain⟨M,hM⟩:∃M,M=m.aG n f:=⟨_,rfl⟩
 rw[←hM]
 have HS:=hid (show∀w z,aK w z m vn vq vd→aK (w.setCell ⟨z,f.cx,none⟩ (.int f.ik (n:Int))) z M vn vq vd from fun w z h=>by
  rw[hM]
  cases f<;>first|exact absurd hf (by decide)|exact Blk.aW h _ _)
 have HK:=hid (show∀w z,aK w z m vn vq vd→w.cell? ⟨z,f.cx,none⟩=some (.int f.ik (m.num f:Int))∧w.frozen? ⟨z,f.cx,none⟩=false from fun w z h=>by
  cases f<;>first|exact absurd hf (by decide)|exact⟨Blk.cell h _,Blk.frozen h _⟩)
 clear hM
 have hw:f.ik.wrap (n:Int)=(n:Int):=by
  cases f<;>first|exact absurd hf (by decide)|(simp[Fld.width]at hn;simp only[Fld.ik];(first|rw[IntKind.wrap_u32]|rw[IntKind.wrap_u16]|rw[IntKind.wrap_u8]|rw[IntKind.wrap_u64]);omega)
 cases f
 all_goals try exact absurd hf (by decide)
 all_goals as_aux_lemma=>
  simp[Fld.rX]at hi
  subst hi
  simp[Fld.width]at hn
  simp only[Fld.ik]at hw
  go_enter Tryz.func92,Tryz.ntmps92
  go_upto_region 1 with(fail)
  change Code.wp _ _ _ _ (al (al w (aF m vn vq vd) 41) (mgN (head 0 0)) 41)
  generalize(al (al w (aF m vn vq vd) 41) (mgN (head 0 0)) 41)=w1 at HU HM HZ⊢
  generalize hq:w.heap.size+1=q at HZ⊢
  have HQ:=hid hq;clear hq
  generalize hz:w.heap.size=z at HM HU⊢
  have HZZ:=hid hz;clear hz
  obtain⟨k1,f1⟩:=HK.out w1 z HM.out
  have ht:=HS.out w1 z HM.out
  simp only[Fld.cx,Fld.ik,Mg.num]at k1 f1 ht
  have HT:=hid ht;clear ht
  have hne:q≠z:=by have:=HQ.out;have:=HZZ.out;omega
  have HZ2:=hid (show∀o v,aK (w1.setCell ⟨z,o,none⟩ v) q (head 0 0) (.slice none 0 0) (.slice none 0 0) (.slice none 0 0)from fun o v=>Blk.far HZ.out hne _)
  have HU2:=hid (show∀o v,Below z w (w1.setCell ⟨z,o,none⟩ v)from fun o v=>HU.out.setCell (Nat.le_refl _) _)
  clear hne
  go_wp2_with(first|(refine wlw HT.out 0 (aF M vn vq vd) rfl rfl _ _ rfl rfl _ Tryz.underlying41 rfl aB ?_)|(refine dA (HZ2.out _ _) 0 (aF M vn vq vd) _ (bW ..) (Nat.le_refl 36) (bT _ h1 h2 h3) rfl _ _ _ rfl rfl rfl aB ?_;intro wz hs ho;have HZF:=hid hs;have HOF:=hid ((ho (fun i=>i=q) rfl _ (Off.refl _ _)).below (B:=z) (fun i hi=>(by have hi:i=q:=hi;have:=HQ.out;have:=HZZ.out;omega)) (by have:=Blk.lt HT.out;omega));clear hs ho))
  refine bodyPost_ret (bf (l:=aF M vn vq vd) rfl Tryz.underlying41 rfl aB rfl HZF.out) rfl ⟨rfl, ?_⟩
  rw[HZZ.out]
  exact(HU2.out _ _).trans HOF.out
theorem yP(f:Fld)(hf:f.isText=true)(s:ByteArray)(m:Mg)(vn vq vd:Value)(h1:vn.oneCell'=true)(h2:vq.oneCell'=true)(h3:vd.oneCell'=true)(w:World):Calls Tryz.prog 95 #[iM m vn vq vd,.int .u8 (f.rX.toNat:Int),.string s] w (Pz (m.bV s f) vn vq vd w):=by
 obtain⟨hu,hm,hz⟩:=uZ w m vn vq vd
 have HU:=hid hu
 have HM:=hid hm
 have HZ:=hid hz
 clear hu hm hz
 obtain⟨i,hi⟩:∃i:Int,i=(f.rX.toNat:Int):=⟨_,rfl⟩
 rw[←hi]
 obtain⟨M,hM⟩:∃M,M=m.bV s f:=⟨_,rfl⟩
 rw[←hM]
 have HS:=hid (show∀w z,aK w z m vn vq vd→aK (w.setCell ⟨z,f.cx,none⟩ (.string s)) z M vn vq vd from fun w z h=>by
  rw[hM]
  cases f<;>first|exact absurd hf (by decide)|exact Blk.aW h _ _)
 have HK:=hid (show∀w z,aK w z m vn vq vd→w.cell? ⟨z,f.cx,none⟩=some (.string (m.txt f))∧w.frozen? ⟨z,f.cx,none⟩=false from fun w z h=>by
  cases f<;>first|exact absurd hf (by decide)|exact⟨Blk.cell h _,Blk.frozen h _⟩)
 clear hM
 cases f
 all_goals try exact absurd hf (by decide)
 all_goals as_aux_lemma=>
  simp[Fld.rX]at hi
  subst hi
  go_enter Tryz.func95,Tryz.ntmps95
  go_upto_region 1 with(fail)
  change Code.wp _ _ _ _ (al (al w (aF m vn vq vd) 41) (mgN (head 0 0)) 41)
  generalize(al (al w (aF m vn vq vd) 41) (mgN (head 0 0)) 41)=w1 at HU HM HZ⊢
  generalize hq:w.heap.size+1=q at HZ⊢
  have HQ:=hid hq;clear hq
  generalize hz:w.heap.size=z at HM HU⊢
  have HZZ:=hid hz;clear hz
  obtain⟨k1,f1⟩:=HK.out w1 z HM.out
  have ht:=HS.out w1 z HM.out
  simp only[Fld.cx,Mg.txt]at k1 f1 ht
  have HT:=hid ht;clear ht
  have hne:q≠z:=by have:=HQ.out;have:=HZZ.out;omega
  have HZ2:=hid (show∀o v,aK (w1.setCell ⟨z,o,none⟩ v) q (head 0 0) (.slice none 0 0) (.slice none 0 0) (.slice none 0 0)from fun o v=>Blk.far HZ.out hne _)
  have HU2:=hid (show∀o v,Below z w (w1.setCell ⟨z,o,none⟩ v)from fun o v=>HU.out.setCell (Nat.le_refl _) _)
  clear hne
  go_wp2_with(first|(refine wlw HT.out 0 (aF M vn vq vd) rfl rfl _ _ rfl rfl _ Tryz.underlying41 rfl aB ?_)|(refine dA (HZ2.out _ _) 0 (aF M vn vq vd) _ (bW ..) (Nat.le_refl 36) (bT _ h1 h2 h3) rfl _ _ _ rfl rfl rfl aB ?_;intro wz hs ho;have HZF:=hid hs;have HOF:=hid ((ho (fun i=>i=q) rfl _ (Off.refl _ _)).below (B:=z) (fun i hi=>(by have hi:i=q:=hi;have:=HQ.out;have:=HZZ.out;omega)) (by have:=Blk.lt HT.out;omega));clear hs ho))
  refine bodyPost_ret (bf (l:=aF M vn vq vd) rfl Tryz.underlying41 rfl aB rfl HZF.out) rfl ⟨rfl, ?_⟩
  rw[HZZ.out]
  exact(HU2.out _ _).trans HOF.out
theorem Bys.sub{w:World}{B:Nat}{A:Option Addr}{c:Nat}{l:List UInt8}(k n m:Nat)(h:Bys w B (.slice A l.length c) l)(hk:k+n≤l.length)(hm:k+n≤m)(hmc:m≤c):Bys w B (AY A k n m) ((l.drop k).take n):=by
 obtain⟨A',c',e,h1,h2,h3⟩:=h
 injection e with e1 e2 e3
 subst e1 e3
 have hl:((l.drop k).take n).length=n:=by rw[List.length_take,List.length_drop];omega
 refine⟨if m=k then A else A.map (·.add k),m-k,(by rw[hl]),(by rw[hl];omega),(by omega),(by rw[jQ,Nat.mul_one]),fun hn=> ?_⟩
 rw[hl]at hn
 obtain⟨ad,rfl,hb,hc⟩:=h3.2 (by omega)
 rw[if_neg (by omega)]
 refine⟨ad.add k,rfl,by rw[nR];exact hb,fun j u hj=> ?_⟩
 have hj':j<n:=by
  have:=(List.getElem?_eq_some_iff.1 hj).1
  rw[jQ,hl]at this
  exact this
 rw[lU]
 refine hc (k+j) u ?_
 rw[aX,List.getElem?_map]at hj⊢
 rw[List.getElem?_take_of_lt hj',List.getElem?_drop]at hj
 exact hj
def BdS(w:World)(p:Nat)(hv:Value)(x:List UInt8)(st:Option (List UInt8)):Prop:=
 ∃(a:Nat) (b:Bool),Blk w p 97 #[hv,.int .i64 (a:Int),.bool b]∧a≤x.length∧x.length≤16777216∧st=if b then none else some (x.drop a)
theorem BdS.below{w w':World}{p:Nat}{hv:Value}{x:List UInt8}{st:Option (List UInt8)}(h:BdS w p hv x st)(hb:Below w.heap.size w w'):BdS w' p hv x st:=by
 obtain⟨a,b,h1,h2⟩:=h
 exact⟨a,b,Blk.below h1 hb (Blk.lt h1),h2⟩
theorem BdS.off{S:Nat→Prop}{w w':World}{p:Nat}{hv:Value}{x:List UInt8}{st:Option (List UInt8)}(h:BdS w p hv x st)(ho:Off S w w')(hp:¬S p):BdS w' p hv x st:=by
 obtain⟨a,b,h1,h2⟩:=h
 exact⟨a,b,ho.blk h1 hp,h2⟩
def Wj(p B:Nat)(hv:Value)(x:List UInt8)(r:List UInt8×Option (List UInt8))(w:World)(e:Ending)(w':World):Prop:=
 (∃v,e= .returned v∧Bys w' B v r.1)∧BdS w' p hv x r.2∧Off (fun i=>i=p) w w'
theorem oH{w:World}{p B:Nat}{hv:Value}{x:List UInt8}{st:Option (List UInt8)}(n:Nat)(hn:n<18446744073709551616)(hx:Bys w B hv x)(hpB:B≤p)(h:BdS w p hv x st):
  Calls Tryz.prog 90 #[.pointer (some ⟨p,0,none⟩),.int .u64 (n:Int)] w (Wj p B hv x (dn st n) w):=by
 obtain⟨a,b,hb,ha,hz,rfl⟩:=h
 have HX:=hid hx
 obtain⟨A,c,rfl,hc,hm, -⟩:=hx
 have HB:=hid hb
 have HM:=hid hm
 clear hm
 have k0:w.cell? ⟨p,0,none⟩=some (.slice A x.length c):=hb.cell 0
 have k1:w.cell? ⟨p,1,none⟩=some (.int .i64 (a:Int)):=hb.cell 1
 have k2:w.cell? ⟨p,2,none⟩=some (.bool b):=hb.cell 2
 have j0:w.drew.cell? ⟨p,0,none⟩=some (.slice A x.length c):=hb.cell 0
 have j1:w.drew.cell? ⟨p,1,none⟩=some (.int .i64 (a:Int)):=hb.cell 1
 have j2:w.drew.cell? ⟨p,2,none⟩=some (.bool b):=hb.cell 2
 have f2:w.drew.frozen? ⟨p,2,none⟩=false:=hb.frozen 2
 clear hb
 go_enter Tryz.func90,Tryz.ntmps90
 go_upto_region 1 with(fail)
 cases b with
 |true=>
  have HBS:=hid (show∀w':World,Blk w' p 97 #[.slice A x.length c,.int .i64 (a:Int),.bool true]→BdS w' p (.slice A x.length c) x none from fun w' h=>⟨a,true,h,ha,hz,rfl⟩)
  have HOB:=hid (show Off (fun i=>i=p) w (w.setCell ⟨p,2,none⟩ (.bool true)).drew from((Off.refl (fun i=>i=p) w).setCell (p:=⟨p,2,none⟩) rfl (.bool true)).drew)
  go_region
  go_wp2_with fail
  refine bodyPost_ret (v:= .slice none 0 0) (by simp[results,Tryz.results90]) rfl ⟨⟨_,rfl,Bys.nil_ _ _⟩, ?_, ?_⟩
  ·rw[jB (fun r h=>by cases h)]
   exact HBS.out _ (Blk.aW HB.out 2 (.bool true))
  ·exact HOB.out
 |false=>
  have HRR:=hid (show(if false=true then none else some (x.drop a))=some (x.drop a)from rfl)
  by_cases hle:n≤x.length-a
  ·have HRO:=hid (show dn (some (x.drop a)) n=((x.drop a).take n,some (x.drop (a+n)))from by
    rw[gU (by rw[List.length_drop];exact hle),List.drop_drop])
   have hu:IntKind.u64.wrap ((x.length:Int)-(a:Int))=((x.length-a:Nat):Int):=by rw[IntKind.wrap_u64];omega
   go_region
   clear k0 k1 k2 hu
   have HBD:=hid (show Blk w.drew p 97 #[.slice A x.length c,.int .i64 (a:Int),.bool false]from HB.out)
   have HOF:=hid (Off.of_below (S:=fun i=>i=p) (aC w))
   have HXD:=hid (HX.out.below ((aC w).mono (by have:=Blk.lt HB.out;omega)))
   generalize w.drew=w1 at HBD HOF HXD j0 j1 j2 f2⊢
   have i0:w1.drew.cell? ⟨p,0,none⟩=some (.slice A x.length c):=HBD.out.cell 0
   have i1:w1.drew.cell? ⟨p,1,none⟩=some (.int .i64 (a:Int)):=HBD.out.cell 1
   have hw:wrap64 (n:Int)=(n:Int):=IntWalk.wrap64_in _ (by omega)
   have hw2:wrap64 ((a:Int)+(n:Int))=((a+n:Nat):Int):=by rw[IntWalk.wrap64_in _ (by omega)];omega
   have hac:a+n≤c:=by omega
   go_upto_region 4 with(fail)
   go_region
   rw[show a+n-a=n from by omega]
   generalize hV:Value.slice (if c=a then A else A.map (fun x=>x.add a)) n (c-a)=V
   have HBE:=hid (show Blk w1.drew p 97 #[.slice A x.length c,.int .i64 (a:Int),.bool false]from HBD.out)
   have HOE:=hid (HOF.out.trans (Off.of_below (S:=fun i=>i=p) (aC w1)))
   have HV:=hid (show Bys w1.drew B V ((x.drop a).take n)from by
    rw[←hV]
    exact Bys.sub a n c (HXD.out.below ((aC w1).mono (by have:=Blk.lt HBD.out;omega))) (by omega) hac (Nat.le_refl _))
   clear hV j0 j1 j2 f2 i0 hw hw2 hac HBD HOF HXD
   generalize w1.drew=w2 at HBE HOE HV i1⊢
   have f1:w2.frozen? ⟨p,1,none⟩=false:=HBE.out.frozen 1
   have hw:wrap64 (n:Int)=(n:Int):=IntWalk.wrap64_in _ (by omega)
   go_wp2_with fail
   refine bodyPost_ret (v:=V) (by simp[results,Tryz.results90]) rfl ?_
   rw[HRO.out]
   refine⟨⟨_,rfl, ?_⟩,⟨a+n,false, ?_,by omega,hz,rfl⟩,HOE.out.setCell (p:=⟨p,1,none⟩) rfl _⟩
   ·exact HV.out.keep fun q hq=>World.cell?_of_block (Below.heap_setCell _ _ _ _ (by show q.block≠p;omega))
   ·rw[show(a:Int)+(n:Int)=((a+n:Nat):Int)from by omega]
    exact Blk.aW HBE.out 1 (.int .i64 ((a+n:Nat):Int))
  ·have hgt:x.length-a<n:=by omega
   have HRO:=hid (show dn (some (x.drop a)) n=([],none)from jB (fun r h=>by injection h with h;rw[←h,List.length_drop];omega))
   have HBS:=hid (show∀w':World,Blk w' p 97 #[.slice A x.length c,.int .i64 (a:Int),.bool true]→BdS w' p (.slice A x.length c) x none from fun w' h=>⟨a,true,h,ha,hz,rfl⟩)
   have hu:IntKind.u64.wrap ((x.length:Int)-(a:Int))=((x.length-a:Nat):Int):=by rw[IntKind.wrap_u64];omega
   have HOB:=hid (show Off (fun i=>i=p) w (w.setCell ⟨p,2,none⟩ (.bool true)).drew from((Off.refl (fun i=>i=p) w).setCell (p:=⟨p,2,none⟩) rfl (.bool true)).drew)
   go_region
   go_wp2_with fail
   refine bodyPost_ret (v:= .slice none 0 0) (by simp[results,Tryz.results90]) rfl ?_
   rw[HRO.out]
   exact⟨⟨_,rfl,Bys.nil_ _ _⟩,HBS.out _ (Blk.aW HB.out 2 (.bool true)),HOB.out⟩
theorem zN{l:List UInt8}{j:Nat}{c:UInt8}(h:l[j]? =some c):aH (l.drop j)=aH (l.drop (j+1))*256+c.toNat:=by
 obtain⟨hj,rfl⟩:=List.getElem?_eq_some_iff.1 h
 rw[List.drop_eq_getElem_cons hj]
 show l[j].toNat+256*aH (l.drop (j+1))=_
 omega
theorem iy{w:World}{p B:Nat}{hv:Value}{x:List UInt8}{st:Option (List UInt8)}(k:Nat)(hk:k≤8)(hx:Bys w B hv x)(hpB:B≤p)(h:BdS w p hv x st):
  Calls Tryz.prog 47 #[.pointer (some ⟨p,0,none⟩),.int .i64 (k:Int)] w fun e w'=>e= .returned (.int .u64 (aH (dn st k).1:Int))∧BdS w' p hv x (dn st k).2∧Off (fun i=>i=p) w w':=by
 have Na:=hid (oH k (by omega) hx hpB h)
 have HL:=hid (show(dn st k).1.length≤8 from by
  unfold dn
  cases st with
  |none=>exact Nat.zero_le _
  |some r=>
   dsimp only
   unfold gJ
   split<;>rename_i hh
   ·exact Nat.zero_le _
   ·split at hh
    ·injection hh with hh
     injection hh with hh
     rw[←hh,List.length_take]
     omega
    ·cases hh)
 have hw:IntKind.u64.wrap (k:Int)=(k:Int):=by rw[IntKind.wrap_u64];omega
 clear hx hpB h
 go_enter Tryz.func47,Tryz.ntmps47
 go_wp2_with fail
 refine Na.out.mono ?_
 rintro e w1 ⟨⟨v,rfl,hv⟩,hs,ho⟩
 have HS:=hid (And.intro hs ho)
 clear hs ho Na
 generalize hl:(dn st k).1=l at*
 have HLL:=hid hl
 clear hl
 have HV:=hid hv
 obtain⟨A,c,rfl, -⟩:=hv
 have hl8:=HL.out
 go_upto_region 4 with(fail)
 go_loopw [6,7] (fun n i wr=>wr=w1∧∃j:Nat,j≤l.length∧i= .int .i64 ((j:Int)-1)∧n= .int .u64 (aH (l.drop j):Int)) (fun _ i _=>(intOf i+1).toNat)
 case atStart=>exact⟨rfl,l.length,Nat.le_refl _,by go_num,by rw[List.drop_length];rfl⟩
 case round=>
  obtain⟨rfl,j,hj,rfl,rfl⟩:=hrel
  cases j with
  |zero=>
   have HN:=hid (show aH (l.drop 0)=aH l from rfl)
   go_wp2_with fail
   refine bodyPost_ret (v:= .int .u64 (aH (l.drop 0):Int)) (by simp[results,Tryz.results47]) rfl ?_
   rw[HLL.out]
   exact⟨rfl,HS.out.1,HS.out.2⟩
  |succ j=>
   obtain⟨b,hb⟩:∃b,l[j]? =some b:=⟨l[j],List.getElem?_eq_getElem _⟩
   obtain⟨ad,rfl, -,kx⟩:=HV.out.at2 hb
   have HD:=hid (zN hb)
   have hb8:b.toNat<256:=b.toNat_lt
   have hlt:aH (l.drop (j+1))<72057594037927936:=Nat.lt_of_lt_of_le (dD _) (show 256^_≤256^7 from Nat.pow_le_pow_right (by decide) (by rw[List.length_drop];omega))
   clear hb
   generalize hT:aH (l.drop (j+1))=T at*
   clear hT
   go_wp2_with fail
   go_roundw
   case rel=>
    refine⟨by trivial,j,by omega,by go_num, ?_⟩
    rw[HD.out]
    show Value.int _ _=Value.int _ _
    congr 1
   case measure=>first|(simp[intOf];done)|(simp[intOf];omega)
theorem D5(v:Value)(l:List ByteArray)(w:World)(hl:iW w w.heap.size v l)(hz:∀s∈l,s.size≤16777216):
  Calls Tryz.prog 107 #[v] w fun e w'=>e= .returned (.bool (l.all good))∧w=w':=by
 have HL:=hid hl
 have HZ:=hid hz
 obtain⟨A,c,rfl,h1,h2, -⟩:=hl
 have h3:l.length≤9223372036854775807:=by unfold maxLen at h2;omega
 clear h1 h2 hz
 go_enter Tryz.func107,Tryz.ntmps107
 go_upto_region 2 with(fail)
 go_loopw [3,4] (fun i _ wr=>wr=w∧∃k:Nat,k≤l.length∧i= .int .i64 (k:Int)∧l.all good=(l.drop k).all good) (fun i _ _=>l.length-(intOf i).toNat)
 case atStart=>exact⟨rfl,0,Nat.zero_le _,rfl,rfl⟩
 case round=>
  obtain⟨rfl,k,hk,rfl,hg⟩:=hrel
  have HG:=hid hg
  clear hg
  by_cases hlt:k<l.length
  ·obtain⟨x,hx⟩:∃x,l[k]? =some x:=⟨l[k],List.getElem?_eq_getElem _⟩
   obtain⟨ad,rfl, -,kx⟩:=HL.out.at_ hx
   have hxs:=HZ.out x (List.mem_of_getElem? hx)
   have HD:=hid (show(l.drop k).all good=(good x&&(l.drop (k+1)).all good)from by
    obtain⟨hh,rfl⟩:=List.getElem?_eq_some_iff.1 hx
    rw[List.drop_eq_getElem_cons hh,List.all_cons])
   clear hx
   go_wp2_with fail
   refine(qM x wr hxs).mono ?_
   rintro e w2 ⟨rfl,rfl⟩
   cases hq:good x with
   |true=>
    have HQ:=hid (show l.all good=(l.drop (k+1)).all good from by rw[HG.out,HD.out,hq];rfl)
    clear hq
    go_wp2_with fail
    go_roundw
    case rel=>exact⟨by trivial,k+1,by omega,by go_num,HQ.out⟩
    case measure=>simp[intOf];omega
   |false=>
    have HQ:=hid (show l.all good=false from by rw[HG.out,HD.out,hq];rfl)
    clear hq
    go_wp2_with fail
    refine bodyPost_ret (v:= .bool false) (by simp[results,Tryz.results107]) rfl ⟨by rw[HQ.out],rfl⟩
  ·have hkk:k=l.length:=by omega
   subst hkk
   rw[List.drop_length]at HG
   clear hlt hk
   go_wp2_with fail
   refine bodyPost_ret (v:= .bool true) (by simp[results,Tryz.results107]) rfl ⟨by rw[HG.out]<;>rfl,rfl⟩
theorem jM(st:Option (List UInt8))(k:Nat):(dn st k).1.length≤k:=by
 cases st with
 |none=>exact Nat.zero_le _
 |some r=>
  by_cases h:k≤r.length
  ·rw[gU h,List.length_take]
   omega
  ·rw[jB (fun q hq=>by injection hq with hq;subst hq;omega)]
   exact Nat.zero_le _
theorem JB(st:Option (List UInt8)):st.bind aN=if good (ofL (dn (dn st 2).2 (aH (dn st 2).1)).1)=true then(dn (dn st 2).2 (aH (dn st 2).1)).2.map (fun r=>(ofL (dn (dn st 2).2 (aH (dn st 2).1)).1,r))else none:=by
 cases st with
 |none=>unfold dn;dsimp only;split<;>rfl
 |some l=>
  show aN l=_
  by_cases h2:2≤l.length
  ·rw[gU h2]
   dsimp only
   have e2:aN l=(match gJ (aH (l.take 2)) (l.drop 2)with|none=>none|some (s,r)=>if good (ofL s)=true then some (ofL s,r)else none):=by
    unfold aN bU
    rw[show gJ 2 l=some (l.take 2,l.drop 2)from if_pos h2]
    rfl
   rw[e2]
   by_cases hn:aH (l.take 2)≤(l.drop 2).length
   ·rw[gU hn,show gJ (aH (l.take 2)) (l.drop 2)=some ((l.drop 2).take (aH (l.take 2)),(l.drop 2).drop (aH (l.take 2)))from if_pos hn]
    rfl
   ·rw[jB (fun q hq=>by injection hq with hq;subst hq;omega),show gJ (aH (l.take 2)) (l.drop 2)=none from if_neg hn]
    dsimp only
    split<;>rfl
  ·rw[jB (st:=some l) (n:=2) (fun q hq=>by injection hq with hq;subst hq;omega)]
   have e2:aN l=none:=by
    unfold aN bU
    rw[show gJ 2 l=none from if_neg h2]
    rfl
   rw[e2]
   split<;>rfl
def Wn(p:Nat)(hv:Value)(x:List UInt8)(st:Option (List UInt8))(w:World)(e:Ending)(w':World):Prop:=
 ∃s,e= .returned (.string s)∧s.size≤65535∧Off (fun i=>i=p∨w.heap.size≤i) w w'∧match st.bind aN with
  |some (t,r)=>s=t∧BdS w' p hv x (some r)
  |none=>BdS w' p hv x none
theorem xW{w:World}{p B:Nat}{hv:Value}{x:List UInt8}{st:Option (List UInt8)}(hx:Bys w B hv x)(hpB:B≤p)(h:BdS w p hv x st):
  Calls Tryz.prog 94 #[.pointer (some ⟨p,0,none⟩)] w (Wn p hv x st w):=by
 have HX:=hid hx
 have HPB:=hid hpB
 have HPL:=hid (show p<w.heap.size from by obtain⟨a,b,hb, -⟩:=h;exact Blk.lt hb)
 have HN:=hid (iy 2 (by decide) hx hpB h)
 have HNL:=hid (show aH (dn st 2).1<65536 from Nat.lt_of_lt_of_le (dD _) (show 256^_≤256^2 from Nat.pow_le_pow_right (by decide) (jM st 2)))
 have HSP:=hid (JB st)
 clear hx hpB h
 go_enter Tryz.func94,Tryz.ntmps94
 go_wp2_with fail
 refine HN.out.mono ?_
 rintro e w1 ⟨rfl,hs,ho⟩
 have HX1:=hid (HX.out.keep fun q hq=>World.cell?_of_block (ho.block _ (by have:=HPB.out;have:=HPL.out;omega) (fun hi=>by have hi:q.block=p:=hi;have:=HPB.out;omega)))
 have Na:=hid (oH (aH (dn st 2).1) (by have:=HNL.out;omega) HX1.out HPB.out hs)
 have HO1:=hid ho
 clear hs ho HN
 go_wp2_with fail
 refine Na.out.mono ?_
 rintro e w2 ⟨⟨v,rfl,hv2⟩,hs,ho⟩
 have hcv:=jH hv2
 have HRL:=hid (jM (dn st 2).2 (aH (dn st 2).1))
 have HO2:=hid (HO1.out.trans ho)
 have HS2:=hid hs
 have HLT:=hid (show p<w2.heap.size from by obtain⟨a,b,hb, -⟩:=hs;exact Blk.lt hb)
 have HSZ:=hid (HO1.out.trans ho).size
 clear hs ho Na
 generalize hR:dn (dn st 2).2 (aH (dn st 2).1)=R at*
 clear hR
 generalize hn:aH (dn st 2).1=n at*
 clear hn
 obtain⟨S,hS⟩:∃S,S=ofL R.1:=⟨_,rfl⟩
 have HSS:=hid (show S.size≤65535 from by rw[hS,dU];have:=HRL.out;have:=HNL.out;omega)
 have HSE:=hid hS
 rw[←hS]at hcv
 clear hS
 have hup:Below w2.heap.size w2 (al w2 (h_ [S]) 9):=(Below.refl _ _).alloc (Nat.le_refl _) _
 have HN3:=hid (show iW (al w2 (h_ [S]) 9) (al w2 (h_ [S]) 9).heap.size (.slice (some ⟨w2.heap.size,0,none⟩) 1 1) [S]from by rw[World.size_alloc];exact iW.new w2 _ [S] (show 1≤maxLen by decide))
 have HS3:=hid (HS2.out.below hup)
 have HO3:=hid (show Off (fun i=>i=p∨w.heap.size≤i) w (al w2 (h_ [S]) 9)from(HO2.out.mono fun _ _ hi=> .inl hi).trans (Off.of_below hup))
 clear hup
 go_wp2_with fail
 change Calls _ _ _ (al w2 (h_ [S]) 9) _
 refine(D5 _ [S] _ HN3.out (fun s hs=>by rw[List.mem_singleton]at hs;subst hs;have:=HSS.out;omega)).mono ?_
 rintro e w4 ⟨rfl,rfl⟩
 rw[show([S]:List ByteArray).all good=good S from by rw[List.all_cons,List.all_nil,Bool.and_true]]
 generalize(al w2 (h_ [S]) 9)=w3 at HN3 HS3 HO3⊢
 rw[←HSE.out]at HSP
 cases hg:good S with
 |true=>
  rw[hg,if_pos rfl]at HSP
  clear hg hcv
  go_wp2_with fail
  refine bodyPost_ret (v:= .string S) (by simp[results,Tryz.results94]) rfl ⟨S,rfl,HSS.out,HO3.out, ?_⟩
  rw[HSP.out]
  have hs3:=HS3.out
  cases hr2:R.2 with
  |none=>rw[hr2]at hs3;exact hs3
  |some r=>rw[hr2]at hs3;exact⟨rfl,hs3⟩
 |false=>
  rw[hg,if_neg (by decide)]at HSP
  clear hg hcv
  obtain⟨a,b,hb,ha,hz,hst⟩:=HS3.out
  have HBK:=hid (Blk.aW hb 2 (.bool true))
  have HAZ:=hid (And.intro ha hz)
  have k2:w3.cell? ⟨p,2,none⟩=some (.bool b):=hb.cell 2
  have f2:w3.frozen? ⟨p,2,none⟩=false:=hb.frozen 2
  clear hb ha hz hst
  go_wp2_with fail
  refine bodyPost_ret (v:= .string S) (by simp[results,Tryz.results94]) rfl ⟨S,rfl,HSS.out,HO3.out.setCell (p:=⟨p,2,none⟩) (.inl rfl) _, ?_⟩
  rw[HSP.out]
  exact⟨a,true,HBK.out,HAZ.out.1,HAZ.out.2,rfl⟩
end Go.Proofs.YtkblmloobkiloaaGreatDoor
