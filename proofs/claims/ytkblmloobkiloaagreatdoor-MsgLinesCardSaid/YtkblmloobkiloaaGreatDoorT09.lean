/-
  MF: what the laws of package msg need of them.
-/
import Derived.Test.YtkblmloobkiloaaGreatDoorT00
import Derived.Test.YtkblmloobkiloaaGreatDoorT08
import Derived.Laws.EntriesVeiled
set_option maxRecDepth 100000
set_option maxHeartbeats 1600000
namespace Go.Proofs.YtkblmloobkiloaaGreatDoor
open Go.Lib (hid)
open Go.RowKit
abbrev cap1(b:Nat):Array Value:= #[.pointer (some ⟨b,0,none⟩)]
abbrev fv(k:Nat)(c:Array Value):Value:= .func (.func k) #[] c
def Fld.kg:Fld→Nat
 | .bI=>126
 | .version=>132
 | .dB=>126
 | .uname=>132
 | .bF=>132
 | .bH=>132
 | .aT=>126
 | .fid=>126
 | .aU=>126
 | .names=>207
 | .aV=>220
 | .qid=>126
 | .mode=>126
 | .aQ=>126
 | .name=>132
 | .perm=>126
 | .offset=>126
 | .count=>126
 | .data=>126
 | .stat=>233
def Fld.kp:Fld→Nat
 | .bI=>127
 | .version=>134
 | .dB=>127
 | .uname=>134
 | .bF=>134
 | .bH=>134
 | .aT=>143
 | .fid=>127
 | .aU=>127
 | .names=>210
 | .aV=>221
 | .qid=>170
 | .mode=>148
 | .aQ=>127
 | .name=>134
 | .perm=>127
 | .offset=>153
 | .count=>127
 | .data=>160
 | .stat=>234
def Fld.kt:Fld→Nat
 | .bI=>128
 | .version=>136
 | .dB=>128
 | .uname=>136
 | .bF=>136
 | .bH=>136
 | .aT=>144
 | .fid=>128
 | .aU=>128
 | .names=>212
 | .aV=>224
 | .qid=>172
 | .mode=>149
 | .aQ=>128
 | .name=>136
 | .perm=>128
 | .offset=>155
 | .count=>128
 | .data=>162
 | .stat=>236
def Fld.km:Fld→Nat
 | .bI=>129
 | .version=>138
 | .dB=>129
 | .uname=>138
 | .bF=>138
 | .bH=>138
 | .aT=>145
 | .fid=>129
 | .aU=>129
 | .names=>214
 | .aV=>227
 | .qid=>174
 | .mode=>150
 | .aQ=>129
 | .name=>138
 | .perm=>129
 | .offset=>157
 | .count=>129
 | .data=>164
 | .stat=>238
def Fld.kr:Fld→Nat
 | .bI=>130
 | .version=>139
 | .dB=>130
 | .uname=>139
 | .bF=>139
 | .bH=>139
 | .aT=>146
 | .fid=>130
 | .aU=>130
 | .names=>216
 | .aV=>229
 | .qid=>175
 | .mode=>151
 | .aQ=>130
 | .name=>139
 | .perm=>130
 | .offset=>158
 | .count=>130
 | .data=>166
 | .stat=>239
def Fld.ks:Fld→Nat
 | .bI=>131
 | .version=>141
 | .dB=>131
 | .uname=>141
 | .bF=>141
 | .bH=>141
 | .aT=>147
 | .fid=>131
 | .aU=>131
 | .names=>218
 | .aV=>231
 | .qid=>177
 | .mode=>152
 | .aQ=>131
 | .name=>141
 | .perm=>131
 | .offset=>159
 | .count=>131
 | .data=>168
 | .stat=>241
def Fld.ka:Fld→Nat
 | .bI=>75
 | .dB=>76
 | .fid=>77
 | .aU=>78
 | .aQ=>79
 | .perm=>80
 | .count=>81
 | .version=>83
 | .uname=>84
 | .bF=>85
 | .bH=>86
 | .name=>87
 |_=>0
def Fld.jJ:Fld→ByteArray
 | .bI=>⟨#[109,115,105,122,101]⟩
 | .version=>⟨#[118,101,114,115,105,111,110]⟩
 | .dB=>⟨#[97,102,105,100]⟩
 | .uname=>⟨#[117,110,97,109,101]⟩
 | .bF=>⟨#[97,110,97,109,101]⟩
 | .bH=>⟨#[101,110,97,109,101]⟩
 | .aT=>⟨#[111,108,100,116,97,103]⟩
 | .fid=>⟨#[102,105,100]⟩
 | .aU=>⟨#[110,101,119,102,105,100]⟩
 | .names=>⟨#[110,97,109,101,115]⟩
 | .aV=>⟨#[113,105,100,115]⟩
 | .qid=>⟨#[113,105,100]⟩
 | .mode=>⟨#[109,111,100,101]⟩
 | .aQ=>⟨#[105,111,117,110,105,116]⟩
 | .name=>⟨#[110,97,109,101]⟩
 | .perm=>⟨#[112,101,114,109]⟩
 | .offset=>⟨#[111,102,102,115,101,116]⟩
 | .count=>⟨#[99,111,117,110,116]⟩
 | .data=>⟨#[100,97,116,97]⟩
 | .stat=>⟨#[115,116,97,116]⟩
theorem CP(f:Fld):f.jJ=ofL f.word:=by cases f<;>rfl
def Fld.far:Fld→Bool
 | .bI| .dB| .fid| .aU| .aQ| .perm| .count| .version| .uname| .bF| .bH| .name=>true
 |_=>false
def Fld.cap(f:Fld)(b:Nat):Array Value:=if f.far then cap1 b else #[]
def Fld.sO(f:Fld)(b:Nat):Array Value:=if f.isText then cap1 b else #[]
abbrev U1(f:Fld)(b:Nat):List Value:=[.string f.jJ,fv f.kg (f.sO b),fv f.kp (f.cap b),fv f.kt (f.cap b),fv f.km (f.cap b),fv f.kr (f.cap b),fv f.ks (f.cap b)]
abbrev aY:List Value:=[.string ⟨#[]⟩,.nilFunc,.nilFunc,.nilFunc,.nilFunc,.nilFunc,.nilFunc]
def yC(w:World)(f:Fld)(b:Nat):Prop:=(f.isText=true→Blk w b 138 #[fv f.ka #[]])∧(f.far=true→f.isText=false→Blk w b 135 #[fv f.ka #[]])
theorem b_:(Tryz.prog.info? 90).map (·.size)=some 7:=by kernel_rfl
theorem dh(a b c d e f g:Value):over aY.toArray 0 [a,b,c,d,e,f,g]= #[a,b,c,d,e,f,g]:=by kernel_rfl
theorem bg{fn:Func}{tmps:Array Value}{w:World}{q i:Nat}{l:List Value}(hr:fn.results= #[.cell i 90])(hl:l.length=7)(h2:tmps.getD i undef= .pointer (some ⟨q,0,none⟩))(hk:Blk w q 90 l.toArray):
  (results fn tmps).run Tryz.prog w= .ok (.agg l.toArray) w:=by
 have h2':tmps[i]?.getD undef= .pointer (some ⟨q,0,none⟩):=by simpa using h2
 have hl7:(loadVar 90 ⟨q,0,none⟩).run Tryz.prog w= .ok (.agg l.toArray) w:=
  run_loadVar_mid w q 0 90 l _ (Blk.range hk 0 l (by simp)) Tryz.underlying90 rfl (by rw[hl];exact b_)
 simp[results,hr,h2',asAddr,hl7]
theorem gK(s:ByteArray)(k:Nat)(w:World):
  Calls Tryz.prog 74 #[.string s,fv k #[]] w fun e w'=>e= .returned (.agg #[.string s,fv 126 #[],fv 127 (cap1 w.heap.size),fv 128 (cap1 w.heap.size),fv 129 (cap1 w.heap.size),fv 130 (cap1 w.heap.size),fv 131 (cap1 w.heap.size)])∧Below w.heap.size w w'∧Blk w' w.heap.size 135 #[fv k #[]]:=by
 have hmf:=iF
 go_enter Tryz.func74,Tryz.ntmps74
 go_upto_region 1 with(fail)
 have HC:=hid ((Blk.new w 135 #[fv k #[]]).alloc (.cells aY.toArray 90))
 have HN:=hid (show Blk ((w.alloc (.cells #[fv k #[]] 135)).alloc (.cells aY.toArray 90)) (w.heap.size+1) 90 aY.toArray from by
  have h:=Blk.new (w.alloc (.cells #[fv k #[]] 135)) 90 aY.toArray
  rw[World.size_alloc]at h
  exact h)
 have HB:=hid (((Below.refl w.heap.size w).alloc (Nat.le_refl _) (.cells #[fv k #[]] 135)).alloc (by simp) (.cells aY.toArray 90))
 change Code.wp _ _ _ _ ((w.alloc (.cells #[fv k #[]] 135)).alloc (.cells aY.toArray 90))
 generalize(w.alloc (.cells #[fv k #[]] 135)).alloc (.cells aY.toArray 90)=w1 at HC HN HB⊢
 have HCL:=hid (show([.string s,fv 126 #[],fv 127 (cap1 w.heap.size),fv 128 (cap1 w.heap.size),fv 129 (cap1 w.heap.size),fv 130 (cap1 w.heap.size),fv 131 (cap1 w.heap.size)]:List Value).toArray.all (·.oneCell')=true from by simp[Value.oneCell'])
 go_wp2_with(refine dA HN.out 0 [.string s,fv 126 #[],fv 127 (cap1 w.heap.size),fv 128 (cap1 w.heap.size),fv 129 (cap1 w.heap.size),fv 130 (cap1 w.heap.size),fv 131 (cap1 w.heap.size)] _ (dh _ _ _ _ _ _ _) (Nat.le_refl 7) HCL.out rfl _ _ _ rfl rfl rfl b_ ?_;intro w2 hs ho;have HX:=hid hs;have HO:=hid (ho (fun i=>i=w.heap.size+1) rfl w1 (Off.refl _ _));clear hs ho)
 refine bodyPost_ret (bg rfl rfl rfl HX.out) rfl ⟨rfl,HB.out.trans (HO.out.below (fun i hi=>by omega) HB.out.size),HO.out.blk HC.out (by omega)⟩
theorem lq(s:ByteArray)(k:Nat)(w:World):
  Calls Tryz.prog 82 #[.string s,fv k #[]] w fun e w'=>e= .returned (.agg #[.string s,fv 132 (cap1 w.heap.size),fv 134 (cap1 w.heap.size),fv 136 (cap1 w.heap.size),fv 138 (cap1 w.heap.size),fv 139 (cap1 w.heap.size),fv 141 (cap1 w.heap.size)])∧Below w.heap.size w w'∧Blk w' w.heap.size 138 #[fv k #[]]:=by
 have hmf:=iF
 go_enter Tryz.func82,Tryz.ntmps82
 go_upto_region 1 with(fail)
 have HC:=hid ((Blk.new w 138 #[fv k #[]]).alloc (.cells aY.toArray 90))
 have HN:=hid (show Blk ((w.alloc (.cells #[fv k #[]] 138)).alloc (.cells aY.toArray 90)) (w.heap.size+1) 90 aY.toArray from by
  have h:=Blk.new (w.alloc (.cells #[fv k #[]] 138)) 90 aY.toArray
  rw[World.size_alloc]at h
  exact h)
 have HB:=hid (((Below.refl w.heap.size w).alloc (Nat.le_refl _) (.cells #[fv k #[]] 138)).alloc (by simp) (.cells aY.toArray 90))
 change Code.wp _ _ _ _ ((w.alloc (.cells #[fv k #[]] 138)).alloc (.cells aY.toArray 90))
 generalize(w.alloc (.cells #[fv k #[]] 138)).alloc (.cells aY.toArray 90)=w1 at HC HN HB⊢
 have HCL:=hid (show([.string s,fv 132 (cap1 w.heap.size),fv 134 (cap1 w.heap.size),fv 136 (cap1 w.heap.size),fv 138 (cap1 w.heap.size),fv 139 (cap1 w.heap.size),fv 141 (cap1 w.heap.size)]:List Value).toArray.all (·.oneCell')=true from by simp[Value.oneCell'])
 go_wp2_with(refine dA HN.out 0 [.string s,fv 132 (cap1 w.heap.size),fv 134 (cap1 w.heap.size),fv 136 (cap1 w.heap.size),fv 138 (cap1 w.heap.size),fv 139 (cap1 w.heap.size),fv 141 (cap1 w.heap.size)] _ (dh _ _ _ _ _ _ _) (Nat.le_refl 7) HCL.out rfl _ _ _ rfl rfl rfl b_ ?_;intro w2 hs ho;have HX:=hid hs;have HO:=hid (ho (fun i=>i=w.heap.size+1) rfl w1 (Off.refl _ _));clear hs ho)
 refine bodyPost_ret (bg rfl rfl rfl HX.out) rfl ⟨rfl,HB.out.trans (HO.out.below (fun i hi=>by omega) HB.out.size),HO.out.blk HC.out (by omega)⟩
theorem uG(w:World):Calls Tryz.prog 179 #[.int .u8 9] w fun e w'=>e= .returned (.agg #[.string ⟨#[110,97,109,101,115]⟩,fv 207 #[],fv 210 #[],fv 212 #[],fv 214 #[],fv 216 #[],fv 218 #[]])∧Below w.heap.size w w':=by
 have hmf:=iF
 have HN:=hid (Blk.new w 90 aY.toArray)
 have HB:=hid ((Below.refl w.heap.size w).alloc (Nat.le_refl _) (.cells aY.toArray 90))
 have HCL:=hid (show([.string ⟨#[110,97,109,101,115]⟩,fv 207 #[],fv 210 #[],fv 212 #[],fv 214 #[],fv 216 #[],fv 218 #[]]:List Value).toArray.all (·.oneCell')=true from by simp[Value.oneCell'])
 go_enter Tryz.func179,Tryz.ntmps179
 go_upto_region 1 with(fail)
 change Code.wp _ _ _ _ (w.alloc (.cells aY.toArray 90))
 generalize w.alloc (.cells aY.toArray 90)=w1 at HN HB⊢
 go_wp2_with(refine dA HN.out 0 [.string ⟨#[110,97,109,101,115]⟩,fv 207 #[],fv 210 #[],fv 212 #[],fv 214 #[],fv 216 #[],fv 218 #[]] _ (dh _ _ _ _ _ _ _) (Nat.le_refl 7) HCL.out rfl _ _ _ rfl rfl rfl b_ ?_;intro w2 hs ho;have HX:=hid hs;have HO:=hid (ho (fun i=>i=w.heap.size) rfl w1 (Off.refl _ _));clear hs ho)
 exact bodyPost_ret (bg rfl rfl rfl HX.out) rfl ⟨rfl,HB.out.trans (HO.out.below (fun i hi=>by omega) HB.out.size)⟩
theorem wu(w:World):Calls Tryz.prog 179 #[.int .u8 10] w fun e w'=>e= .returned (.agg #[.string ⟨#[113,105,100,115]⟩,fv 220 #[],fv 221 #[],fv 224 #[],fv 227 #[],fv 229 #[],fv 231 #[]])∧Below w.heap.size w w':=by
 have hmf:=iF
 have HN:=hid (Blk.new w 90 aY.toArray)
 have HB:=hid ((Below.refl w.heap.size w).alloc (Nat.le_refl _) (.cells aY.toArray 90))
 have HCL:=hid (show([.string ⟨#[113,105,100,115]⟩,fv 220 #[],fv 221 #[],fv 224 #[],fv 227 #[],fv 229 #[],fv 231 #[]]:List Value).toArray.all (·.oneCell')=true from by simp[Value.oneCell'])
 go_enter Tryz.func179,Tryz.ntmps179
 go_upto_region 1 with(fail)
 change Code.wp _ _ _ _ (w.alloc (.cells aY.toArray 90))
 generalize w.alloc (.cells aY.toArray 90)=w1 at HN HB⊢
 go_wp2_with(refine dA HN.out 0 [.string ⟨#[113,105,100,115]⟩,fv 220 #[],fv 221 #[],fv 224 #[],fv 227 #[],fv 229 #[],fv 231 #[]] _ (dh _ _ _ _ _ _ _) (Nat.le_refl 7) HCL.out rfl _ _ _ rfl rfl rfl b_ ?_;intro w2 hs ho;have HX:=hid hs;have HO:=hid (ho (fun i=>i=w.heap.size) rfl w1 (Off.refl _ _));clear hs ho)
 exact bodyPost_ret (bg rfl rfl rfl HX.out) rfl ⟨rfl,HB.out.trans (HO.out.below (fun i hi=>by omega) HB.out.size)⟩
theorem wB(w:World):Calls Tryz.prog 179 #[.int .u8 19] w fun e w'=>e= .returned (.agg #[.string ⟨#[115,116,97,116]⟩,fv 233 #[],fv 234 #[],fv 236 #[],fv 238 #[],fv 239 #[],fv 241 #[]])∧Below w.heap.size w w':=by
 have hmf:=iF
 have HN:=hid (Blk.new w 90 aY.toArray)
 have HB:=hid ((Below.refl w.heap.size w).alloc (Nat.le_refl _) (.cells aY.toArray 90))
 have HCL:=hid (show([.string ⟨#[115,116,97,116]⟩,fv 233 #[],fv 234 #[],fv 236 #[],fv 238 #[],fv 239 #[],fv 241 #[]]:List Value).toArray.all (·.oneCell')=true from by simp[Value.oneCell'])
 go_enter Tryz.func179,Tryz.ntmps179
 go_upto_region 1 with(fail)
 change Code.wp _ _ _ _ (w.alloc (.cells aY.toArray 90))
 generalize w.alloc (.cells aY.toArray 90)=w1 at HN HB⊢
 go_wp2_with(refine dA HN.out 0 [.string ⟨#[115,116,97,116]⟩,fv 233 #[],fv 234 #[],fv 236 #[],fv 238 #[],fv 239 #[],fv 241 #[]] _ (dh _ _ _ _ _ _ _) (Nat.le_refl 7) HCL.out rfl _ _ _ rfl rfl rfl b_ ?_;intro w2 hs ho;have HX:=hid hs;have HO:=hid (ho (fun i=>i=w.heap.size) rfl w1 (Off.refl _ _));clear hs ho)
 exact bodyPost_ret (bg rfl rfl rfl HX.out) rfl ⟨rfl,HB.out.trans (HO.out.below (fun i hi=>by omega) HB.out.size)⟩
theorem rM(w:World):Calls Tryz.prog 88 #[.int .u8 6] w fun e w'=>e= .returned (.agg #[.string ⟨#[111,108,100,116,97,103]⟩,fv 126 #[],fv 143 #[],fv 144 #[],fv 145 #[],fv 146 #[],fv 147 #[]])∧Below w.heap.size w w':=by
 have hmf:=iF
 have HN:=hid (Blk.new w 90 aY.toArray)
 have HB:=hid ((Below.refl w.heap.size w).alloc (Nat.le_refl _) (.cells aY.toArray 90))
 have HCL:=hid (show([.string ⟨#[111,108,100,116,97,103]⟩,fv 126 #[],fv 143 #[],fv 144 #[],fv 145 #[],fv 146 #[],fv 147 #[]]:List Value).toArray.all (·.oneCell')=true from by simp[Value.oneCell'])
 go_enter Tryz.func88,Tryz.ntmps88
 go_upto_region 1 with(fail)
 change Code.wp _ _ _ _ (w.alloc (.cells aY.toArray 90))
 generalize w.alloc (.cells aY.toArray 90)=w1 at HN HB⊢
 go_wp2_with(refine dA HN.out 0 [.string ⟨#[111,108,100,116,97,103]⟩,fv 126 #[],fv 143 #[],fv 144 #[],fv 145 #[],fv 146 #[],fv 147 #[]] _ (dh _ _ _ _ _ _ _) (Nat.le_refl 7) HCL.out rfl _ _ _ rfl rfl rfl b_ ?_;intro w2 hs ho;have HX:=hid hs;have HO:=hid (ho (fun i=>i=w.heap.size) rfl w1 (Off.refl _ _));clear hs ho)
 exact bodyPost_ret (bg rfl rfl rfl HX.out) rfl ⟨rfl,HB.out.trans (HO.out.below (fun i hi=>by omega) HB.out.size)⟩
theorem uH(w:World):Calls Tryz.prog 88 #[.int .u8 12] w fun e w'=>e= .returned (.agg #[.string ⟨#[109,111,100,101]⟩,fv 126 #[],fv 148 #[],fv 149 #[],fv 150 #[],fv 151 #[],fv 152 #[]])∧Below w.heap.size w w':=by
 have hmf:=iF
 have HN:=hid (Blk.new w 90 aY.toArray)
 have HB:=hid ((Below.refl w.heap.size w).alloc (Nat.le_refl _) (.cells aY.toArray 90))
 have HCL:=hid (show([.string ⟨#[109,111,100,101]⟩,fv 126 #[],fv 148 #[],fv 149 #[],fv 150 #[],fv 151 #[],fv 152 #[]]:List Value).toArray.all (·.oneCell')=true from by simp[Value.oneCell'])
 go_enter Tryz.func88,Tryz.ntmps88
 go_upto_region 1 with(fail)
 change Code.wp _ _ _ _ (w.alloc (.cells aY.toArray 90))
 generalize w.alloc (.cells aY.toArray 90)=w1 at HN HB⊢
 go_wp2_with(refine dA HN.out 0 [.string ⟨#[109,111,100,101]⟩,fv 126 #[],fv 148 #[],fv 149 #[],fv 150 #[],fv 151 #[],fv 152 #[]] _ (dh _ _ _ _ _ _ _) (Nat.le_refl 7) HCL.out rfl _ _ _ rfl rfl rfl b_ ?_;intro w2 hs ho;have HX:=hid hs;have HO:=hid (ho (fun i=>i=w.heap.size) rfl w1 (Off.refl _ _));clear hs ho)
 exact bodyPost_ret (bg rfl rfl rfl HX.out) rfl ⟨rfl,HB.out.trans (HO.out.below (fun i hi=>by omega) HB.out.size)⟩
theorem rO(w:World):Calls Tryz.prog 88 #[.int .u8 16] w fun e w'=>e= .returned (.agg #[.string ⟨#[111,102,102,115,101,116]⟩,fv 126 #[],fv 153 #[],fv 155 #[],fv 157 #[],fv 158 #[],fv 159 #[]])∧Below w.heap.size w w':=by
 have hmf:=iF
 have HN:=hid (Blk.new w 90 aY.toArray)
 have HB:=hid ((Below.refl w.heap.size w).alloc (Nat.le_refl _) (.cells aY.toArray 90))
 have HCL:=hid (show([.string ⟨#[111,102,102,115,101,116]⟩,fv 126 #[],fv 153 #[],fv 155 #[],fv 157 #[],fv 158 #[],fv 159 #[]]:List Value).toArray.all (·.oneCell')=true from by simp[Value.oneCell'])
 go_enter Tryz.func88,Tryz.ntmps88
 go_upto_region 1 with(fail)
 change Code.wp _ _ _ _ (w.alloc (.cells aY.toArray 90))
 generalize w.alloc (.cells aY.toArray 90)=w1 at HN HB⊢
 go_wp2_with(refine dA HN.out 0 [.string ⟨#[111,102,102,115,101,116]⟩,fv 126 #[],fv 153 #[],fv 155 #[],fv 157 #[],fv 158 #[],fv 159 #[]] _ (dh _ _ _ _ _ _ _) (Nat.le_refl 7) HCL.out rfl _ _ _ rfl rfl rfl b_ ?_;intro w2 hs ho;have HX:=hid hs;have HO:=hid (ho (fun i=>i=w.heap.size) rfl w1 (Off.refl _ _));clear hs ho)
 exact bodyPost_ret (bg rfl rfl rfl HX.out) rfl ⟨rfl,HB.out.trans (HO.out.below (fun i hi=>by omega) HB.out.size)⟩
theorem uI(w:World):Calls Tryz.prog 88 #[.int .u8 18] w fun e w'=>e= .returned (.agg #[.string ⟨#[100,97,116,97]⟩,fv 126 #[],fv 160 #[],fv 162 #[],fv 164 #[],fv 166 #[],fv 168 #[]])∧Below w.heap.size w w':=by
 have hmf:=iF
 have HN:=hid (Blk.new w 90 aY.toArray)
 have HB:=hid ((Below.refl w.heap.size w).alloc (Nat.le_refl _) (.cells aY.toArray 90))
 have HCL:=hid (show([.string ⟨#[100,97,116,97]⟩,fv 126 #[],fv 160 #[],fv 162 #[],fv 164 #[],fv 166 #[],fv 168 #[]]:List Value).toArray.all (·.oneCell')=true from by simp[Value.oneCell'])
 go_enter Tryz.func88,Tryz.ntmps88
 go_upto_region 1 with(fail)
 change Code.wp _ _ _ _ (w.alloc (.cells aY.toArray 90))
 generalize w.alloc (.cells aY.toArray 90)=w1 at HN HB⊢
 go_wp2_with(refine dA HN.out 0 [.string ⟨#[100,97,116,97]⟩,fv 126 #[],fv 160 #[],fv 162 #[],fv 164 #[],fv 166 #[],fv 168 #[]] _ (dh _ _ _ _ _ _ _) (Nat.le_refl 7) HCL.out rfl _ _ _ rfl rfl rfl b_ ?_;intro w2 hs ho;have HX:=hid hs;have HO:=hid (ho (fun i=>i=w.heap.size) rfl w1 (Off.refl _ _));clear hs ho)
 exact bodyPost_ret (bg rfl rfl rfl HX.out) rfl ⟨rfl,HB.out.trans (HO.out.below (fun i hi=>by omega) HB.out.size)⟩
theorem wC(w:World):Calls Tryz.prog 88 #[.int .u8 11] w fun e w'=>e= .returned (.agg #[.string ⟨#[113,105,100]⟩,fv 126 #[],fv 170 #[],fv 172 #[],fv 174 #[],fv 175 #[],fv 177 #[]])∧Below w.heap.size w w':=by
 have hmf:=iF
 have HN:=hid (Blk.new w 90 aY.toArray)
 have HB:=hid ((Below.refl w.heap.size w).alloc (Nat.le_refl _) (.cells aY.toArray 90))
 have HCL:=hid (show([.string ⟨#[113,105,100]⟩,fv 126 #[],fv 170 #[],fv 172 #[],fv 174 #[],fv 175 #[],fv 177 #[]]:List Value).toArray.all (·.oneCell')=true from by simp[Value.oneCell'])
 go_enter Tryz.func88,Tryz.ntmps88
 go_upto_region 1 with(fail)
 change Code.wp _ _ _ _ (w.alloc (.cells aY.toArray 90))
 generalize w.alloc (.cells aY.toArray 90)=w1 at HN HB⊢
 go_wp2_with(refine dA HN.out 0 [.string ⟨#[113,105,100]⟩,fv 126 #[],fv 170 #[],fv 172 #[],fv 174 #[],fv 175 #[],fv 177 #[]] _ (dh _ _ _ _ _ _ _) (Nat.le_refl 7) HCL.out rfl _ _ _ rfl rfl rfl b_ ?_;intro w2 hs ho;have HX:=hid hs;have HO:=hid (ho (fun i=>i=w.heap.size) rfl w1 (Off.refl _ _));clear hs ho)
 exact bodyPost_ret (bg rfl rfl rfl HX.out) rfl ⟨rfl,HB.out.trans (HO.out.below (fun i hi=>by omega) HB.out.size)⟩
theorem sQ(w:World):Calls Tryz.prog 88 #[.int .u8 9] w fun e w'=>e= .returned (.agg #[.string ⟨#[110,97,109,101,115]⟩,fv 207 #[],fv 210 #[],fv 212 #[],fv 214 #[],fv 216 #[],fv 218 #[]])∧Below w.heap.size w w':=by
 have hmf:=iF
 have HN:=hid (Blk.new w 90 aY.toArray)
 have HB:=hid ((Below.refl w.heap.size w).alloc (Nat.le_refl _) (.cells aY.toArray 90))
 have hsz:(w.alloc (.cells aY.toArray 90)).heap.size=w.heap.size+1:=World.size_alloc _ _
 go_enter Tryz.func88,Tryz.ntmps88
 go_upto_region 1 with(fail)
 change Code.wp _ _ _ _ (w.alloc (.cells aY.toArray 90))
 generalize w.alloc (.cells aY.toArray 90)=w1 at HN HB hsz⊢
 go_wp2_with fail
 refine(uG w1).mono ?_
 rintro e w2 ⟨rfl,hb⟩
 have HN2:=hid (HN.out.below hb (by omega))
 have HB2:=hid (HB.out.trans (hb.mono (by omega)))
 have hs2:w.heap.size+1≤w2.heap.size:=by have:=hb.size;omega
 clear hb HN HB
 have HCL:=hid (show([.string ⟨#[110,97,109,101,115]⟩,fv 207 #[],fv 210 #[],fv 212 #[],fv 214 #[],fv 216 #[],fv 218 #[]]:List Value).toArray.all (·.oneCell')=true from by simp[Value.oneCell'])
 go_wp2_with(refine dA HN2.out 0 [.string ⟨#[110,97,109,101,115]⟩,fv 207 #[],fv 210 #[],fv 212 #[],fv 214 #[],fv 216 #[],fv 218 #[]] _ (dh _ _ _ _ _ _ _) (Nat.le_refl 7) HCL.out rfl _ _ _ rfl rfl rfl b_ ?_;intro w3 hs ho;have HX:=hid hs;have HO:=hid (ho (fun i=>i=w.heap.size) rfl w2 (Off.refl _ _));clear hs ho)
 have hend:=HB2.out.trans (HO.out.below (B:=w.heap.size) (fun i hi=>by omega) (by omega))
 exact bodyPost_ret (bg rfl rfl rfl HX.out) rfl ⟨rfl,hend⟩
theorem uJ(w:World):Calls Tryz.prog 88 #[.int .u8 10] w fun e w'=>e= .returned (.agg #[.string ⟨#[113,105,100,115]⟩,fv 220 #[],fv 221 #[],fv 224 #[],fv 227 #[],fv 229 #[],fv 231 #[]])∧Below w.heap.size w w':=by
 have hmf:=iF
 have HN:=hid (Blk.new w 90 aY.toArray)
 have HB:=hid ((Below.refl w.heap.size w).alloc (Nat.le_refl _) (.cells aY.toArray 90))
 have hsz:(w.alloc (.cells aY.toArray 90)).heap.size=w.heap.size+1:=World.size_alloc _ _
 go_enter Tryz.func88,Tryz.ntmps88
 go_upto_region 1 with(fail)
 change Code.wp _ _ _ _ (w.alloc (.cells aY.toArray 90))
 generalize w.alloc (.cells aY.toArray 90)=w1 at HN HB hsz⊢
 go_wp2_with fail
 refine(wu w1).mono ?_
 rintro e w2 ⟨rfl,hb⟩
 have HN2:=hid (HN.out.below hb (by omega))
 have HB2:=hid (HB.out.trans (hb.mono (by omega)))
 have hs2:w.heap.size+1≤w2.heap.size:=by have:=hb.size;omega
 clear hb HN HB
 have HCL:=hid (show([.string ⟨#[113,105,100,115]⟩,fv 220 #[],fv 221 #[],fv 224 #[],fv 227 #[],fv 229 #[],fv 231 #[]]:List Value).toArray.all (·.oneCell')=true from by simp[Value.oneCell'])
 go_wp2_with(refine dA HN2.out 0 [.string ⟨#[113,105,100,115]⟩,fv 220 #[],fv 221 #[],fv 224 #[],fv 227 #[],fv 229 #[],fv 231 #[]] _ (dh _ _ _ _ _ _ _) (Nat.le_refl 7) HCL.out rfl _ _ _ rfl rfl rfl b_ ?_;intro w3 hs ho;have HX:=hid hs;have HO:=hid (ho (fun i=>i=w.heap.size) rfl w2 (Off.refl _ _));clear hs ho)
 have hend:=HB2.out.trans (HO.out.below (B:=w.heap.size) (fun i hi=>by omega) (by omega))
 exact bodyPost_ret (bg rfl rfl rfl HX.out) rfl ⟨rfl,hend⟩
theorem uK(w:World):Calls Tryz.prog 88 #[.int .u8 19] w fun e w'=>e= .returned (.agg #[.string ⟨#[115,116,97,116]⟩,fv 233 #[],fv 234 #[],fv 236 #[],fv 238 #[],fv 239 #[],fv 241 #[]])∧Below w.heap.size w w':=by
 have hmf:=iF
 have HN:=hid (Blk.new w 90 aY.toArray)
 have HB:=hid ((Below.refl w.heap.size w).alloc (Nat.le_refl _) (.cells aY.toArray 90))
 have hsz:(w.alloc (.cells aY.toArray 90)).heap.size=w.heap.size+1:=World.size_alloc _ _
 go_enter Tryz.func88,Tryz.ntmps88
 go_upto_region 1 with(fail)
 change Code.wp _ _ _ _ (w.alloc (.cells aY.toArray 90))
 generalize w.alloc (.cells aY.toArray 90)=w1 at HN HB hsz⊢
 go_wp2_with fail
 refine(wB w1).mono ?_
 rintro e w2 ⟨rfl,hb⟩
 have HN2:=hid (HN.out.below hb (by omega))
 have HB2:=hid (HB.out.trans (hb.mono (by omega)))
 have hs2:w.heap.size+1≤w2.heap.size:=by have:=hb.size;omega
 clear hb HN HB
 have HCL:=hid (show([.string ⟨#[115,116,97,116]⟩,fv 233 #[],fv 234 #[],fv 236 #[],fv 238 #[],fv 239 #[],fv 241 #[]]:List Value).toArray.all (·.oneCell')=true from by simp[Value.oneCell'])
 go_wp2_with(refine dA HN2.out 0 [.string ⟨#[115,116,97,116]⟩,fv 233 #[],fv 234 #[],fv 236 #[],fv 238 #[],fv 239 #[],fv 241 #[]] _ (dh _ _ _ _ _ _ _) (Nat.le_refl 7) HCL.out rfl _ _ _ rfl rfl rfl b_ ?_;intro w3 hs ho;have HX:=hid hs;have HO:=hid (ho (fun i=>i=w.heap.size) rfl w2 (Off.refl _ _));clear hs ho)
 have hend:=HB2.out.trans (HO.out.below (B:=w.heap.size) (fun i hi=>by omega) (by omega))
 exact bodyPost_ret (bg rfl rfl rfl HX.out) rfl ⟨rfl,hend⟩
theorem wE(w:World):Calls Tryz.prog 44 #[.int .u8 6] w fun e w'=>e= .returned (.agg #[.string ⟨#[111,108,100,116,97,103]⟩,fv 126 #[],fv 143 #[],fv 144 #[],fv 145 #[],fv 146 #[],fv 147 #[]])∧Below w.heap.size w w':=by
 have hmf:=iF
 have HN:=hid (Blk.new w 90 aY.toArray)
 have HB:=hid ((Below.refl w.heap.size w).alloc (Nat.le_refl _) (.cells aY.toArray 90))
 have hsz:(w.alloc (.cells aY.toArray 90)).heap.size=w.heap.size+1:=World.size_alloc _ _
 go_enter Tryz.func44,Tryz.ntmps44
 go_upto_region 1 with(fail)
 change Code.wp _ _ _ _ (w.alloc (.cells aY.toArray 90))
 generalize w.alloc (.cells aY.toArray 90)=w1 at HN HB hsz⊢
 go_wp2_with fail
 refine(rM w1).mono ?_
 rintro e w2 ⟨rfl,hb⟩
 have HN2:=hid (HN.out.below hb (by omega))
 have HB2:=hid (HB.out.trans (hb.mono (by omega)))
 have hs2:w.heap.size+1≤w2.heap.size:=by have:=hb.size;omega
 clear hb HN HB
 have HCL:=hid (show([.string ⟨#[111,108,100,116,97,103]⟩,fv 126 #[],fv 143 #[],fv 144 #[],fv 145 #[],fv 146 #[],fv 147 #[]]:List Value).toArray.all (·.oneCell')=true from by simp[Value.oneCell'])
 go_wp2_with(refine dA HN2.out 0 [.string ⟨#[111,108,100,116,97,103]⟩,fv 126 #[],fv 143 #[],fv 144 #[],fv 145 #[],fv 146 #[],fv 147 #[]] _ (dh _ _ _ _ _ _ _) (Nat.le_refl 7) HCL.out rfl _ _ _ rfl rfl rfl b_ ?_;intro w3 hs ho;have HX:=hid hs;have HO:=hid (ho (fun i=>i=w.heap.size) rfl w2 (Off.refl _ _));clear hs ho)
 have hend:=HB2.out.trans (HO.out.below (B:=w.heap.size) (fun i hi=>by omega) (by omega))
 exact bodyPost_ret (bg rfl rfl rfl HX.out) rfl ⟨rfl,hend⟩
theorem yD(w:World):Calls Tryz.prog 44 #[.int .u8 9] w fun e w'=>e= .returned (.agg #[.string ⟨#[110,97,109,101,115]⟩,fv 207 #[],fv 210 #[],fv 212 #[],fv 214 #[],fv 216 #[],fv 218 #[]])∧Below w.heap.size w w':=by
 have hmf:=iF
 have HN:=hid (Blk.new w 90 aY.toArray)
 have HB:=hid ((Below.refl w.heap.size w).alloc (Nat.le_refl _) (.cells aY.toArray 90))
 have hsz:(w.alloc (.cells aY.toArray 90)).heap.size=w.heap.size+1:=World.size_alloc _ _
 go_enter Tryz.func44,Tryz.ntmps44
 go_upto_region 1 with(fail)
 change Code.wp _ _ _ _ (w.alloc (.cells aY.toArray 90))
 generalize w.alloc (.cells aY.toArray 90)=w1 at HN HB hsz⊢
 go_wp2_with fail
 refine(sQ w1).mono ?_
 rintro e w2 ⟨rfl,hb⟩
 have HN2:=hid (HN.out.below hb (by omega))
 have HB2:=hid (HB.out.trans (hb.mono (by omega)))
 have hs2:w.heap.size+1≤w2.heap.size:=by have:=hb.size;omega
 clear hb HN HB
 have HCL:=hid (show([.string ⟨#[110,97,109,101,115]⟩,fv 207 #[],fv 210 #[],fv 212 #[],fv 214 #[],fv 216 #[],fv 218 #[]]:List Value).toArray.all (·.oneCell')=true from by simp[Value.oneCell'])
 go_wp2_with(refine dA HN2.out 0 [.string ⟨#[110,97,109,101,115]⟩,fv 207 #[],fv 210 #[],fv 212 #[],fv 214 #[],fv 216 #[],fv 218 #[]] _ (dh _ _ _ _ _ _ _) (Nat.le_refl 7) HCL.out rfl _ _ _ rfl rfl rfl b_ ?_;intro w3 hs ho;have HX:=hid hs;have HO:=hid (ho (fun i=>i=w.heap.size) rfl w2 (Off.refl _ _));clear hs ho)
 have hend:=HB2.out.trans (HO.out.below (B:=w.heap.size) (fun i hi=>by omega) (by omega))
 exact bodyPost_ret (bg rfl rfl rfl HX.out) rfl ⟨rfl,hend⟩
theorem AA(w:World):Calls Tryz.prog 44 #[.int .u8 10] w fun e w'=>e= .returned (.agg #[.string ⟨#[113,105,100,115]⟩,fv 220 #[],fv 221 #[],fv 224 #[],fv 227 #[],fv 229 #[],fv 231 #[]])∧Below w.heap.size w w':=by
 have hmf:=iF
 have HN:=hid (Blk.new w 90 aY.toArray)
 have HB:=hid ((Below.refl w.heap.size w).alloc (Nat.le_refl _) (.cells aY.toArray 90))
 have hsz:(w.alloc (.cells aY.toArray 90)).heap.size=w.heap.size+1:=World.size_alloc _ _
 go_enter Tryz.func44,Tryz.ntmps44
 go_upto_region 1 with(fail)
 change Code.wp _ _ _ _ (w.alloc (.cells aY.toArray 90))
 generalize w.alloc (.cells aY.toArray 90)=w1 at HN HB hsz⊢
 go_wp2_with fail
 refine(uJ w1).mono ?_
 rintro e w2 ⟨rfl,hb⟩
 have HN2:=hid (HN.out.below hb (by omega))
 have HB2:=hid (HB.out.trans (hb.mono (by omega)))
 have hs2:w.heap.size+1≤w2.heap.size:=by have:=hb.size;omega
 clear hb HN HB
 have HCL:=hid (show([.string ⟨#[113,105,100,115]⟩,fv 220 #[],fv 221 #[],fv 224 #[],fv 227 #[],fv 229 #[],fv 231 #[]]:List Value).toArray.all (·.oneCell')=true from by simp[Value.oneCell'])
 go_wp2_with(refine dA HN2.out 0 [.string ⟨#[113,105,100,115]⟩,fv 220 #[],fv 221 #[],fv 224 #[],fv 227 #[],fv 229 #[],fv 231 #[]] _ (dh _ _ _ _ _ _ _) (Nat.le_refl 7) HCL.out rfl _ _ _ rfl rfl rfl b_ ?_;intro w3 hs ho;have HX:=hid hs;have HO:=hid (ho (fun i=>i=w.heap.size) rfl w2 (Off.refl _ _));clear hs ho)
 have hend:=HB2.out.trans (HO.out.below (B:=w.heap.size) (fun i hi=>by omega) (by omega))
 exact bodyPost_ret (bg rfl rfl rfl HX.out) rfl ⟨rfl,hend⟩
theorem CS(w:World):Calls Tryz.prog 44 #[.int .u8 11] w fun e w'=>e= .returned (.agg #[.string ⟨#[113,105,100]⟩,fv 126 #[],fv 170 #[],fv 172 #[],fv 174 #[],fv 175 #[],fv 177 #[]])∧Below w.heap.size w w':=by
 have hmf:=iF
 have HN:=hid (Blk.new w 90 aY.toArray)
 have HB:=hid ((Below.refl w.heap.size w).alloc (Nat.le_refl _) (.cells aY.toArray 90))
 have hsz:(w.alloc (.cells aY.toArray 90)).heap.size=w.heap.size+1:=World.size_alloc _ _
 go_enter Tryz.func44,Tryz.ntmps44
 go_upto_region 1 with(fail)
 change Code.wp _ _ _ _ (w.alloc (.cells aY.toArray 90))
 generalize w.alloc (.cells aY.toArray 90)=w1 at HN HB hsz⊢
 go_wp2_with fail
 refine(wC w1).mono ?_
 rintro e w2 ⟨rfl,hb⟩
 have HN2:=hid (HN.out.below hb (by omega))
 have HB2:=hid (HB.out.trans (hb.mono (by omega)))
 have hs2:w.heap.size+1≤w2.heap.size:=by have:=hb.size;omega
 clear hb HN HB
 have HCL:=hid (show([.string ⟨#[113,105,100]⟩,fv 126 #[],fv 170 #[],fv 172 #[],fv 174 #[],fv 175 #[],fv 177 #[]]:List Value).toArray.all (·.oneCell')=true from by simp[Value.oneCell'])
 go_wp2_with(refine dA HN2.out 0 [.string ⟨#[113,105,100]⟩,fv 126 #[],fv 170 #[],fv 172 #[],fv 174 #[],fv 175 #[],fv 177 #[]] _ (dh _ _ _ _ _ _ _) (Nat.le_refl 7) HCL.out rfl _ _ _ rfl rfl rfl b_ ?_;intro w3 hs ho;have HX:=hid hs;have HO:=hid (ho (fun i=>i=w.heap.size) rfl w2 (Off.refl _ _));clear hs ho)
 have hend:=HB2.out.trans (HO.out.below (B:=w.heap.size) (fun i hi=>by omega) (by omega))
 exact bodyPost_ret (bg rfl rfl rfl HX.out) rfl ⟨rfl,hend⟩
theorem AB(w:World):Calls Tryz.prog 44 #[.int .u8 12] w fun e w'=>e= .returned (.agg #[.string ⟨#[109,111,100,101]⟩,fv 126 #[],fv 148 #[],fv 149 #[],fv 150 #[],fv 151 #[],fv 152 #[]])∧Below w.heap.size w w':=by
 have hmf:=iF
 have HN:=hid (Blk.new w 90 aY.toArray)
 have HB:=hid ((Below.refl w.heap.size w).alloc (Nat.le_refl _) (.cells aY.toArray 90))
 have hsz:(w.alloc (.cells aY.toArray 90)).heap.size=w.heap.size+1:=World.size_alloc _ _
 go_enter Tryz.func44,Tryz.ntmps44
 go_upto_region 1 with(fail)
 change Code.wp _ _ _ _ (w.alloc (.cells aY.toArray 90))
 generalize w.alloc (.cells aY.toArray 90)=w1 at HN HB hsz⊢
 go_wp2_with fail
 refine(uH w1).mono ?_
 rintro e w2 ⟨rfl,hb⟩
 have HN2:=hid (HN.out.below hb (by omega))
 have HB2:=hid (HB.out.trans (hb.mono (by omega)))
 have hs2:w.heap.size+1≤w2.heap.size:=by have:=hb.size;omega
 clear hb HN HB
 have HCL:=hid (show([.string ⟨#[109,111,100,101]⟩,fv 126 #[],fv 148 #[],fv 149 #[],fv 150 #[],fv 151 #[],fv 152 #[]]:List Value).toArray.all (·.oneCell')=true from by simp[Value.oneCell'])
 go_wp2_with(refine dA HN2.out 0 [.string ⟨#[109,111,100,101]⟩,fv 126 #[],fv 148 #[],fv 149 #[],fv 150 #[],fv 151 #[],fv 152 #[]] _ (dh _ _ _ _ _ _ _) (Nat.le_refl 7) HCL.out rfl _ _ _ rfl rfl rfl b_ ?_;intro w3 hs ho;have HX:=hid hs;have HO:=hid (ho (fun i=>i=w.heap.size) rfl w2 (Off.refl _ _));clear hs ho)
 have hend:=HB2.out.trans (HO.out.below (B:=w.heap.size) (fun i hi=>by omega) (by omega))
 exact bodyPost_ret (bg rfl rfl rfl HX.out) rfl ⟨rfl,hend⟩
theorem wF(w:World):Calls Tryz.prog 44 #[.int .u8 16] w fun e w'=>e= .returned (.agg #[.string ⟨#[111,102,102,115,101,116]⟩,fv 126 #[],fv 153 #[],fv 155 #[],fv 157 #[],fv 158 #[],fv 159 #[]])∧Below w.heap.size w w':=by
 have hmf:=iF
 have HN:=hid (Blk.new w 90 aY.toArray)
 have HB:=hid ((Below.refl w.heap.size w).alloc (Nat.le_refl _) (.cells aY.toArray 90))
 have hsz:(w.alloc (.cells aY.toArray 90)).heap.size=w.heap.size+1:=World.size_alloc _ _
 go_enter Tryz.func44,Tryz.ntmps44
 go_upto_region 1 with(fail)
 change Code.wp _ _ _ _ (w.alloc (.cells aY.toArray 90))
 generalize w.alloc (.cells aY.toArray 90)=w1 at HN HB hsz⊢
 go_wp2_with fail
 refine(rO w1).mono ?_
 rintro e w2 ⟨rfl,hb⟩
 have HN2:=hid (HN.out.below hb (by omega))
 have HB2:=hid (HB.out.trans (hb.mono (by omega)))
 have hs2:w.heap.size+1≤w2.heap.size:=by have:=hb.size;omega
 clear hb HN HB
 have HCL:=hid (show([.string ⟨#[111,102,102,115,101,116]⟩,fv 126 #[],fv 153 #[],fv 155 #[],fv 157 #[],fv 158 #[],fv 159 #[]]:List Value).toArray.all (·.oneCell')=true from by simp[Value.oneCell'])
 go_wp2_with(refine dA HN2.out 0 [.string ⟨#[111,102,102,115,101,116]⟩,fv 126 #[],fv 153 #[],fv 155 #[],fv 157 #[],fv 158 #[],fv 159 #[]] _ (dh _ _ _ _ _ _ _) (Nat.le_refl 7) HCL.out rfl _ _ _ rfl rfl rfl b_ ?_;intro w3 hs ho;have HX:=hid hs;have HO:=hid (ho (fun i=>i=w.heap.size) rfl w2 (Off.refl _ _));clear hs ho)
 have hend:=HB2.out.trans (HO.out.below (B:=w.heap.size) (fun i hi=>by omega) (by omega))
 exact bodyPost_ret (bg rfl rfl rfl HX.out) rfl ⟨rfl,hend⟩
theorem AL(w:World):Calls Tryz.prog 44 #[.int .u8 18] w fun e w'=>e= .returned (.agg #[.string ⟨#[100,97,116,97]⟩,fv 126 #[],fv 160 #[],fv 162 #[],fv 164 #[],fv 166 #[],fv 168 #[]])∧Below w.heap.size w w':=by
 have hmf:=iF
 have HN:=hid (Blk.new w 90 aY.toArray)
 have HB:=hid ((Below.refl w.heap.size w).alloc (Nat.le_refl _) (.cells aY.toArray 90))
 have hsz:(w.alloc (.cells aY.toArray 90)).heap.size=w.heap.size+1:=World.size_alloc _ _
 go_enter Tryz.func44,Tryz.ntmps44
 go_upto_region 1 with(fail)
 change Code.wp _ _ _ _ (w.alloc (.cells aY.toArray 90))
 generalize w.alloc (.cells aY.toArray 90)=w1 at HN HB hsz⊢
 go_wp2_with fail
 refine(uI w1).mono ?_
 rintro e w2 ⟨rfl,hb⟩
 have HN2:=hid (HN.out.below hb (by omega))
 have HB2:=hid (HB.out.trans (hb.mono (by omega)))
 have hs2:w.heap.size+1≤w2.heap.size:=by have:=hb.size;omega
 clear hb HN HB
 have HCL:=hid (show([.string ⟨#[100,97,116,97]⟩,fv 126 #[],fv 160 #[],fv 162 #[],fv 164 #[],fv 166 #[],fv 168 #[]]:List Value).toArray.all (·.oneCell')=true from by simp[Value.oneCell'])
 go_wp2_with(refine dA HN2.out 0 [.string ⟨#[100,97,116,97]⟩,fv 126 #[],fv 160 #[],fv 162 #[],fv 164 #[],fv 166 #[],fv 168 #[]] _ (dh _ _ _ _ _ _ _) (Nat.le_refl 7) HCL.out rfl _ _ _ rfl rfl rfl b_ ?_;intro w3 hs ho;have HX:=hid hs;have HO:=hid (ho (fun i=>i=w.heap.size) rfl w2 (Off.refl _ _));clear hs ho)
 have hend:=HB2.out.trans (HO.out.below (B:=w.heap.size) (fun i hi=>by omega) (by omega))
 exact bodyPost_ret (bg rfl rfl rfl HX.out) rfl ⟨rfl,hend⟩
theorem AO(w:World):Calls Tryz.prog 44 #[.int .u8 19] w fun e w'=>e= .returned (.agg #[.string ⟨#[115,116,97,116]⟩,fv 233 #[],fv 234 #[],fv 236 #[],fv 238 #[],fv 239 #[],fv 241 #[]])∧Below w.heap.size w w':=by
 have hmf:=iF
 have HN:=hid (Blk.new w 90 aY.toArray)
 have HB:=hid ((Below.refl w.heap.size w).alloc (Nat.le_refl _) (.cells aY.toArray 90))
 have hsz:(w.alloc (.cells aY.toArray 90)).heap.size=w.heap.size+1:=World.size_alloc _ _
 go_enter Tryz.func44,Tryz.ntmps44
 go_upto_region 1 with(fail)
 change Code.wp _ _ _ _ (w.alloc (.cells aY.toArray 90))
 generalize w.alloc (.cells aY.toArray 90)=w1 at HN HB hsz⊢
 go_wp2_with fail
 refine(uK w1).mono ?_
 rintro e w2 ⟨rfl,hb⟩
 have HN2:=hid (HN.out.below hb (by omega))
 have HB2:=hid (HB.out.trans (hb.mono (by omega)))
 have hs2:w.heap.size+1≤w2.heap.size:=by have:=hb.size;omega
 clear hb HN HB
 have HCL:=hid (show([.string ⟨#[115,116,97,116]⟩,fv 233 #[],fv 234 #[],fv 236 #[],fv 238 #[],fv 239 #[],fv 241 #[]]:List Value).toArray.all (·.oneCell')=true from by simp[Value.oneCell'])
 go_wp2_with(refine dA HN2.out 0 [.string ⟨#[115,116,97,116]⟩,fv 233 #[],fv 234 #[],fv 236 #[],fv 238 #[],fv 239 #[],fv 241 #[]] _ (dh _ _ _ _ _ _ _) (Nat.le_refl 7) HCL.out rfl _ _ _ rfl rfl rfl b_ ?_;intro w3 hs ho;have HX:=hid hs;have HO:=hid (ho (fun i=>i=w.heap.size) rfl w2 (Off.refl _ _));clear hs ho)
 have hend:=HB2.out.trans (HO.out.below (B:=w.heap.size) (fun i hi=>by omega) (by omega))
 exact bodyPost_ret (bg rfl rfl rfl HX.out) rfl ⟨rfl,hend⟩
theorem yE(w:World):Calls Tryz.prog 44 #[.int .u8 0] w fun e w'=>e= .returned (.agg #[.string ⟨#[109,115,105,122,101]⟩,fv 126 #[],fv 127 (cap1 (w.heap.size+1)),fv 128 (cap1 (w.heap.size+1)),fv 129 (cap1 (w.heap.size+1)),fv 130 (cap1 (w.heap.size+1)),fv 131 (cap1 (w.heap.size+1))])∧Below w.heap.size w w'∧Blk w' (w.heap.size+1) 135 #[fv 75 #[]]:=by
 have hmf:=iF
 have HN:=hid (Blk.new w 90 aY.toArray)
 have HB:=hid ((Below.refl w.heap.size w).alloc (Nat.le_refl _) (.cells aY.toArray 90))
 have hsz:(w.alloc (.cells aY.toArray 90)).heap.size=w.heap.size+1:=World.size_alloc _ _
 go_enter Tryz.func44,Tryz.ntmps44
 go_upto_region 1 with(fail)
 change Code.wp _ _ _ _ (w.alloc (.cells aY.toArray 90))
 generalize w.alloc (.cells aY.toArray 90)=w1 at HN HB hsz⊢
 go_wp2_with fail
 refine(gK ⟨#[109,115,105,122,101]⟩ 75 w1).mono ?_
 rintro e w2 ⟨rfl,hb,hc⟩
 rw[hsz]at hc⊢
 have HN2:=hid (HN.out.below hb (by omega))
 have HB2:=hid (HB.out.trans (hb.mono (by omega)))
 have hs2:w.heap.size+1≤w2.heap.size:=by have:=hb.size;omega
 have HC:=hid hc;clear hc
 clear hb HN HB
 have HCL:=hid (show([.string ⟨#[109,115,105,122,101]⟩,fv 126 #[],fv 127 (cap1 (w.heap.size+1)),fv 128 (cap1 (w.heap.size+1)),fv 129 (cap1 (w.heap.size+1)),fv 130 (cap1 (w.heap.size+1)),fv 131 (cap1 (w.heap.size+1))]:List Value).toArray.all (·.oneCell')=true from by simp[Value.oneCell'])
 go_wp2_with(refine dA HN2.out 0 [.string ⟨#[109,115,105,122,101]⟩,fv 126 #[],fv 127 (cap1 (w.heap.size+1)),fv 128 (cap1 (w.heap.size+1)),fv 129 (cap1 (w.heap.size+1)),fv 130 (cap1 (w.heap.size+1)),fv 131 (cap1 (w.heap.size+1))] _ (dh _ _ _ _ _ _ _) (Nat.le_refl 7) HCL.out rfl _ _ _ rfl rfl rfl b_ ?_;intro w3 hs ho;have HX:=hid hs;have HO:=hid (ho (fun i=>i=w.heap.size) rfl w2 (Off.refl _ _));clear hs ho)
 have hend:=HB2.out.trans (HO.out.below (B:=w.heap.size) (fun i hi=>by omega) (by omega))
 exact bodyPost_ret (bg rfl rfl rfl HX.out) rfl ⟨rfl,hend,HO.out.blk HC.out (by omega)⟩
theorem AP(w:World):Calls Tryz.prog 44 #[.int .u8 2] w fun e w'=>e= .returned (.agg #[.string ⟨#[97,102,105,100]⟩,fv 126 #[],fv 127 (cap1 (w.heap.size+1)),fv 128 (cap1 (w.heap.size+1)),fv 129 (cap1 (w.heap.size+1)),fv 130 (cap1 (w.heap.size+1)),fv 131 (cap1 (w.heap.size+1))])∧Below w.heap.size w w'∧Blk w' (w.heap.size+1) 135 #[fv 76 #[]]:=by
 have hmf:=iF
 have HN:=hid (Blk.new w 90 aY.toArray)
 have HB:=hid ((Below.refl w.heap.size w).alloc (Nat.le_refl _) (.cells aY.toArray 90))
 have hsz:(w.alloc (.cells aY.toArray 90)).heap.size=w.heap.size+1:=World.size_alloc _ _
 go_enter Tryz.func44,Tryz.ntmps44
 go_upto_region 1 with(fail)
 change Code.wp _ _ _ _ (w.alloc (.cells aY.toArray 90))
 generalize w.alloc (.cells aY.toArray 90)=w1 at HN HB hsz⊢
 go_wp2_with fail
 refine(gK ⟨#[97,102,105,100]⟩ 76 w1).mono ?_
 rintro e w2 ⟨rfl,hb,hc⟩
 rw[hsz]at hc⊢
 have HN2:=hid (HN.out.below hb (by omega))
 have HB2:=hid (HB.out.trans (hb.mono (by omega)))
 have hs2:w.heap.size+1≤w2.heap.size:=by have:=hb.size;omega
 have HC:=hid hc;clear hc
 clear hb HN HB
 have HCL:=hid (show([.string ⟨#[97,102,105,100]⟩,fv 126 #[],fv 127 (cap1 (w.heap.size+1)),fv 128 (cap1 (w.heap.size+1)),fv 129 (cap1 (w.heap.size+1)),fv 130 (cap1 (w.heap.size+1)),fv 131 (cap1 (w.heap.size+1))]:List Value).toArray.all (·.oneCell')=true from by simp[Value.oneCell'])
 go_wp2_with(refine dA HN2.out 0 [.string ⟨#[97,102,105,100]⟩,fv 126 #[],fv 127 (cap1 (w.heap.size+1)),fv 128 (cap1 (w.heap.size+1)),fv 129 (cap1 (w.heap.size+1)),fv 130 (cap1 (w.heap.size+1)),fv 131 (cap1 (w.heap.size+1))] _ (dh _ _ _ _ _ _ _) (Nat.le_refl 7) HCL.out rfl _ _ _ rfl rfl rfl b_ ?_;intro w3 hs ho;have HX:=hid hs;have HO:=hid (ho (fun i=>i=w.heap.size) rfl w2 (Off.refl _ _));clear hs ho)
 have hend:=HB2.out.trans (HO.out.below (B:=w.heap.size) (fun i hi=>by omega) (by omega))
 exact bodyPost_ret (bg rfl rfl rfl HX.out) rfl ⟨rfl,hend,HO.out.blk HC.out (by omega)⟩
theorem CU(w:World):Calls Tryz.prog 44 #[.int .u8 7] w fun e w'=>e= .returned (.agg #[.string ⟨#[102,105,100]⟩,fv 126 #[],fv 127 (cap1 (w.heap.size+1)),fv 128 (cap1 (w.heap.size+1)),fv 129 (cap1 (w.heap.size+1)),fv 130 (cap1 (w.heap.size+1)),fv 131 (cap1 (w.heap.size+1))])∧Below w.heap.size w w'∧Blk w' (w.heap.size+1) 135 #[fv 77 #[]]:=by
 have hmf:=iF
 have HN:=hid (Blk.new w 90 aY.toArray)
 have HB:=hid ((Below.refl w.heap.size w).alloc (Nat.le_refl _) (.cells aY.toArray 90))
 have hsz:(w.alloc (.cells aY.toArray 90)).heap.size=w.heap.size+1:=World.size_alloc _ _
 go_enter Tryz.func44,Tryz.ntmps44
 go_upto_region 1 with(fail)
 change Code.wp _ _ _ _ (w.alloc (.cells aY.toArray 90))
 generalize w.alloc (.cells aY.toArray 90)=w1 at HN HB hsz⊢
 go_wp2_with fail
 refine(gK ⟨#[102,105,100]⟩ 77 w1).mono ?_
 rintro e w2 ⟨rfl,hb,hc⟩
 rw[hsz]at hc⊢
 have HN2:=hid (HN.out.below hb (by omega))
 have HB2:=hid (HB.out.trans (hb.mono (by omega)))
 have hs2:w.heap.size+1≤w2.heap.size:=by have:=hb.size;omega
 have HC:=hid hc;clear hc
 clear hb HN HB
 have HCL:=hid (show([.string ⟨#[102,105,100]⟩,fv 126 #[],fv 127 (cap1 (w.heap.size+1)),fv 128 (cap1 (w.heap.size+1)),fv 129 (cap1 (w.heap.size+1)),fv 130 (cap1 (w.heap.size+1)),fv 131 (cap1 (w.heap.size+1))]:List Value).toArray.all (·.oneCell')=true from by simp[Value.oneCell'])
 go_wp2_with(refine dA HN2.out 0 [.string ⟨#[102,105,100]⟩,fv 126 #[],fv 127 (cap1 (w.heap.size+1)),fv 128 (cap1 (w.heap.size+1)),fv 129 (cap1 (w.heap.size+1)),fv 130 (cap1 (w.heap.size+1)),fv 131 (cap1 (w.heap.size+1))] _ (dh _ _ _ _ _ _ _) (Nat.le_refl 7) HCL.out rfl _ _ _ rfl rfl rfl b_ ?_;intro w3 hs ho;have HX:=hid hs;have HO:=hid (ho (fun i=>i=w.heap.size) rfl w2 (Off.refl _ _));clear hs ho)
 have hend:=HB2.out.trans (HO.out.below (B:=w.heap.size) (fun i hi=>by omega) (by omega))
 exact bodyPost_ret (bg rfl rfl rfl HX.out) rfl ⟨rfl,hend,HO.out.blk HC.out (by omega)⟩
theorem wG(w:World):Calls Tryz.prog 44 #[.int .u8 8] w fun e w'=>e= .returned (.agg #[.string ⟨#[110,101,119,102,105,100]⟩,fv 126 #[],fv 127 (cap1 (w.heap.size+1)),fv 128 (cap1 (w.heap.size+1)),fv 129 (cap1 (w.heap.size+1)),fv 130 (cap1 (w.heap.size+1)),fv 131 (cap1 (w.heap.size+1))])∧Below w.heap.size w w'∧Blk w' (w.heap.size+1) 135 #[fv 78 #[]]:=by
 have hmf:=iF
 have HN:=hid (Blk.new w 90 aY.toArray)
 have HB:=hid ((Below.refl w.heap.size w).alloc (Nat.le_refl _) (.cells aY.toArray 90))
 have hsz:(w.alloc (.cells aY.toArray 90)).heap.size=w.heap.size+1:=World.size_alloc _ _
 go_enter Tryz.func44,Tryz.ntmps44
 go_upto_region 1 with(fail)
 change Code.wp _ _ _ _ (w.alloc (.cells aY.toArray 90))
 generalize w.alloc (.cells aY.toArray 90)=w1 at HN HB hsz⊢
 go_wp2_with fail
 refine(gK ⟨#[110,101,119,102,105,100]⟩ 78 w1).mono ?_
 rintro e w2 ⟨rfl,hb,hc⟩
 rw[hsz]at hc⊢
 have HN2:=hid (HN.out.below hb (by omega))
 have HB2:=hid (HB.out.trans (hb.mono (by omega)))
 have hs2:w.heap.size+1≤w2.heap.size:=by have:=hb.size;omega
 have HC:=hid hc;clear hc
 clear hb HN HB
 have HCL:=hid (show([.string ⟨#[110,101,119,102,105,100]⟩,fv 126 #[],fv 127 (cap1 (w.heap.size+1)),fv 128 (cap1 (w.heap.size+1)),fv 129 (cap1 (w.heap.size+1)),fv 130 (cap1 (w.heap.size+1)),fv 131 (cap1 (w.heap.size+1))]:List Value).toArray.all (·.oneCell')=true from by simp[Value.oneCell'])
 go_wp2_with(refine dA HN2.out 0 [.string ⟨#[110,101,119,102,105,100]⟩,fv 126 #[],fv 127 (cap1 (w.heap.size+1)),fv 128 (cap1 (w.heap.size+1)),fv 129 (cap1 (w.heap.size+1)),fv 130 (cap1 (w.heap.size+1)),fv 131 (cap1 (w.heap.size+1))] _ (dh _ _ _ _ _ _ _) (Nat.le_refl 7) HCL.out rfl _ _ _ rfl rfl rfl b_ ?_;intro w3 hs ho;have HX:=hid hs;have HO:=hid (ho (fun i=>i=w.heap.size) rfl w2 (Off.refl _ _));clear hs ho)
 have hend:=HB2.out.trans (HO.out.below (B:=w.heap.size) (fun i hi=>by omega) (by omega))
 exact bodyPost_ret (bg rfl rfl rfl HX.out) rfl ⟨rfl,hend,HO.out.blk HC.out (by omega)⟩
theorem wH(w:World):Calls Tryz.prog 44 #[.int .u8 13] w fun e w'=>e= .returned (.agg #[.string ⟨#[105,111,117,110,105,116]⟩,fv 126 #[],fv 127 (cap1 (w.heap.size+1)),fv 128 (cap1 (w.heap.size+1)),fv 129 (cap1 (w.heap.size+1)),fv 130 (cap1 (w.heap.size+1)),fv 131 (cap1 (w.heap.size+1))])∧Below w.heap.size w w'∧Blk w' (w.heap.size+1) 135 #[fv 79 #[]]:=by
 have hmf:=iF
 have HN:=hid (Blk.new w 90 aY.toArray)
 have HB:=hid ((Below.refl w.heap.size w).alloc (Nat.le_refl _) (.cells aY.toArray 90))
 have hsz:(w.alloc (.cells aY.toArray 90)).heap.size=w.heap.size+1:=World.size_alloc _ _
 go_enter Tryz.func44,Tryz.ntmps44
 go_upto_region 1 with(fail)
 change Code.wp _ _ _ _ (w.alloc (.cells aY.toArray 90))
 generalize w.alloc (.cells aY.toArray 90)=w1 at HN HB hsz⊢
 go_wp2_with fail
 refine(gK ⟨#[105,111,117,110,105,116]⟩ 79 w1).mono ?_
 rintro e w2 ⟨rfl,hb,hc⟩
 rw[hsz]at hc⊢
 have HN2:=hid (HN.out.below hb (by omega))
 have HB2:=hid (HB.out.trans (hb.mono (by omega)))
 have hs2:w.heap.size+1≤w2.heap.size:=by have:=hb.size;omega
 have HC:=hid hc;clear hc
 clear hb HN HB
 have HCL:=hid (show([.string ⟨#[105,111,117,110,105,116]⟩,fv 126 #[],fv 127 (cap1 (w.heap.size+1)),fv 128 (cap1 (w.heap.size+1)),fv 129 (cap1 (w.heap.size+1)),fv 130 (cap1 (w.heap.size+1)),fv 131 (cap1 (w.heap.size+1))]:List Value).toArray.all (·.oneCell')=true from by simp[Value.oneCell'])
 go_wp2_with(refine dA HN2.out 0 [.string ⟨#[105,111,117,110,105,116]⟩,fv 126 #[],fv 127 (cap1 (w.heap.size+1)),fv 128 (cap1 (w.heap.size+1)),fv 129 (cap1 (w.heap.size+1)),fv 130 (cap1 (w.heap.size+1)),fv 131 (cap1 (w.heap.size+1))] _ (dh _ _ _ _ _ _ _) (Nat.le_refl 7) HCL.out rfl _ _ _ rfl rfl rfl b_ ?_;intro w3 hs ho;have HX:=hid hs;have HO:=hid (ho (fun i=>i=w.heap.size) rfl w2 (Off.refl _ _));clear hs ho)
 have hend:=HB2.out.trans (HO.out.below (B:=w.heap.size) (fun i hi=>by omega) (by omega))
 exact bodyPost_ret (bg rfl rfl rfl HX.out) rfl ⟨rfl,hend,HO.out.blk HC.out (by omega)⟩
theorem AQ(w:World):Calls Tryz.prog 44 #[.int .u8 15] w fun e w'=>e= .returned (.agg #[.string ⟨#[112,101,114,109]⟩,fv 126 #[],fv 127 (cap1 (w.heap.size+1)),fv 128 (cap1 (w.heap.size+1)),fv 129 (cap1 (w.heap.size+1)),fv 130 (cap1 (w.heap.size+1)),fv 131 (cap1 (w.heap.size+1))])∧Below w.heap.size w w'∧Blk w' (w.heap.size+1) 135 #[fv 80 #[]]:=by
 have hmf:=iF
 have HN:=hid (Blk.new w 90 aY.toArray)
 have HB:=hid ((Below.refl w.heap.size w).alloc (Nat.le_refl _) (.cells aY.toArray 90))
 have hsz:(w.alloc (.cells aY.toArray 90)).heap.size=w.heap.size+1:=World.size_alloc _ _
 go_enter Tryz.func44,Tryz.ntmps44
 go_upto_region 1 with(fail)
 change Code.wp _ _ _ _ (w.alloc (.cells aY.toArray 90))
 generalize w.alloc (.cells aY.toArray 90)=w1 at HN HB hsz⊢
 go_wp2_with fail
 refine(gK ⟨#[112,101,114,109]⟩ 80 w1).mono ?_
 rintro e w2 ⟨rfl,hb,hc⟩
 rw[hsz]at hc⊢
 have HN2:=hid (HN.out.below hb (by omega))
 have HB2:=hid (HB.out.trans (hb.mono (by omega)))
 have hs2:w.heap.size+1≤w2.heap.size:=by have:=hb.size;omega
 have HC:=hid hc;clear hc
 clear hb HN HB
 have HCL:=hid (show([.string ⟨#[112,101,114,109]⟩,fv 126 #[],fv 127 (cap1 (w.heap.size+1)),fv 128 (cap1 (w.heap.size+1)),fv 129 (cap1 (w.heap.size+1)),fv 130 (cap1 (w.heap.size+1)),fv 131 (cap1 (w.heap.size+1))]:List Value).toArray.all (·.oneCell')=true from by simp[Value.oneCell'])
 go_wp2_with(refine dA HN2.out 0 [.string ⟨#[112,101,114,109]⟩,fv 126 #[],fv 127 (cap1 (w.heap.size+1)),fv 128 (cap1 (w.heap.size+1)),fv 129 (cap1 (w.heap.size+1)),fv 130 (cap1 (w.heap.size+1)),fv 131 (cap1 (w.heap.size+1))] _ (dh _ _ _ _ _ _ _) (Nat.le_refl 7) HCL.out rfl _ _ _ rfl rfl rfl b_ ?_;intro w3 hs ho;have HX:=hid hs;have HO:=hid (ho (fun i=>i=w.heap.size) rfl w2 (Off.refl _ _));clear hs ho)
 have hend:=HB2.out.trans (HO.out.below (B:=w.heap.size) (fun i hi=>by omega) (by omega))
 exact bodyPost_ret (bg rfl rfl rfl HX.out) rfl ⟨rfl,hend,HO.out.blk HC.out (by omega)⟩
theorem yF(w:World):Calls Tryz.prog 44 #[.int .u8 17] w fun e w'=>e= .returned (.agg #[.string ⟨#[99,111,117,110,116]⟩,fv 126 #[],fv 127 (cap1 (w.heap.size+1)),fv 128 (cap1 (w.heap.size+1)),fv 129 (cap1 (w.heap.size+1)),fv 130 (cap1 (w.heap.size+1)),fv 131 (cap1 (w.heap.size+1))])∧Below w.heap.size w w'∧Blk w' (w.heap.size+1) 135 #[fv 81 #[]]:=by
 have hmf:=iF
 have HN:=hid (Blk.new w 90 aY.toArray)
 have HB:=hid ((Below.refl w.heap.size w).alloc (Nat.le_refl _) (.cells aY.toArray 90))
 have hsz:(w.alloc (.cells aY.toArray 90)).heap.size=w.heap.size+1:=World.size_alloc _ _
 go_enter Tryz.func44,Tryz.ntmps44
 go_upto_region 1 with(fail)
 change Code.wp _ _ _ _ (w.alloc (.cells aY.toArray 90))
 generalize w.alloc (.cells aY.toArray 90)=w1 at HN HB hsz⊢
 go_wp2_with fail
 refine(gK ⟨#[99,111,117,110,116]⟩ 81 w1).mono ?_
 rintro e w2 ⟨rfl,hb,hc⟩
 rw[hsz]at hc⊢
 have HN2:=hid (HN.out.below hb (by omega))
 have HB2:=hid (HB.out.trans (hb.mono (by omega)))
 have hs2:w.heap.size+1≤w2.heap.size:=by have:=hb.size;omega
 have HC:=hid hc;clear hc
 clear hb HN HB
 have HCL:=hid (show([.string ⟨#[99,111,117,110,116]⟩,fv 126 #[],fv 127 (cap1 (w.heap.size+1)),fv 128 (cap1 (w.heap.size+1)),fv 129 (cap1 (w.heap.size+1)),fv 130 (cap1 (w.heap.size+1)),fv 131 (cap1 (w.heap.size+1))]:List Value).toArray.all (·.oneCell')=true from by simp[Value.oneCell'])
 go_wp2_with(refine dA HN2.out 0 [.string ⟨#[99,111,117,110,116]⟩,fv 126 #[],fv 127 (cap1 (w.heap.size+1)),fv 128 (cap1 (w.heap.size+1)),fv 129 (cap1 (w.heap.size+1)),fv 130 (cap1 (w.heap.size+1)),fv 131 (cap1 (w.heap.size+1))] _ (dh _ _ _ _ _ _ _) (Nat.le_refl 7) HCL.out rfl _ _ _ rfl rfl rfl b_ ?_;intro w3 hs ho;have HX:=hid hs;have HO:=hid (ho (fun i=>i=w.heap.size) rfl w2 (Off.refl _ _));clear hs ho)
 have hend:=HB2.out.trans (HO.out.below (B:=w.heap.size) (fun i hi=>by omega) (by omega))
 exact bodyPost_ret (bg rfl rfl rfl HX.out) rfl ⟨rfl,hend,HO.out.blk HC.out (by omega)⟩
theorem uM(w:World):Calls Tryz.prog 44 #[.int .u8 1] w fun e w'=>e= .returned (.agg #[.string ⟨#[118,101,114,115,105,111,110]⟩,fv 132 (cap1 (w.heap.size+1)),fv 134 (cap1 (w.heap.size+1)),fv 136 (cap1 (w.heap.size+1)),fv 138 (cap1 (w.heap.size+1)),fv 139 (cap1 (w.heap.size+1)),fv 141 (cap1 (w.heap.size+1))])∧Below w.heap.size w w'∧Blk w' (w.heap.size+1) 138 #[fv 83 #[]]:=by
 have hmf:=iF
 have HN:=hid (Blk.new w 90 aY.toArray)
 have HB:=hid ((Below.refl w.heap.size w).alloc (Nat.le_refl _) (.cells aY.toArray 90))
 have hsz:(w.alloc (.cells aY.toArray 90)).heap.size=w.heap.size+1:=World.size_alloc _ _
 go_enter Tryz.func44,Tryz.ntmps44
 go_upto_region 1 with(fail)
 change Code.wp _ _ _ _ (w.alloc (.cells aY.toArray 90))
 generalize w.alloc (.cells aY.toArray 90)=w1 at HN HB hsz⊢
 go_wp2_with fail
 refine(lq ⟨#[118,101,114,115,105,111,110]⟩ 83 w1).mono ?_
 rintro e w2 ⟨rfl,hb,hc⟩
 rw[hsz]at hc⊢
 have HN2:=hid (HN.out.below hb (by omega))
 have HB2:=hid (HB.out.trans (hb.mono (by omega)))
 have hs2:w.heap.size+1≤w2.heap.size:=by have:=hb.size;omega
 have HC:=hid hc;clear hc
 clear hb HN HB
 have HCL:=hid (show([.string ⟨#[118,101,114,115,105,111,110]⟩,fv 132 (cap1 (w.heap.size+1)),fv 134 (cap1 (w.heap.size+1)),fv 136 (cap1 (w.heap.size+1)),fv 138 (cap1 (w.heap.size+1)),fv 139 (cap1 (w.heap.size+1)),fv 141 (cap1 (w.heap.size+1))]:List Value).toArray.all (·.oneCell')=true from by simp[Value.oneCell'])
 go_wp2_with(refine dA HN2.out 0 [.string ⟨#[118,101,114,115,105,111,110]⟩,fv 132 (cap1 (w.heap.size+1)),fv 134 (cap1 (w.heap.size+1)),fv 136 (cap1 (w.heap.size+1)),fv 138 (cap1 (w.heap.size+1)),fv 139 (cap1 (w.heap.size+1)),fv 141 (cap1 (w.heap.size+1))] _ (dh _ _ _ _ _ _ _) (Nat.le_refl 7) HCL.out rfl _ _ _ rfl rfl rfl b_ ?_;intro w3 hs ho;have HX:=hid hs;have HO:=hid (ho (fun i=>i=w.heap.size) rfl w2 (Off.refl _ _));clear hs ho)
 have hend:=HB2.out.trans (HO.out.below (B:=w.heap.size) (fun i hi=>by omega) (by omega))
 exact bodyPost_ret (bg rfl rfl rfl HX.out) rfl ⟨rfl,hend,HO.out.blk HC.out (by omega)⟩
theorem yG(w:World):Calls Tryz.prog 44 #[.int .u8 3] w fun e w'=>e= .returned (.agg #[.string ⟨#[117,110,97,109,101]⟩,fv 132 (cap1 (w.heap.size+1)),fv 134 (cap1 (w.heap.size+1)),fv 136 (cap1 (w.heap.size+1)),fv 138 (cap1 (w.heap.size+1)),fv 139 (cap1 (w.heap.size+1)),fv 141 (cap1 (w.heap.size+1))])∧Below w.heap.size w w'∧Blk w' (w.heap.size+1) 138 #[fv 84 #[]]:=by
 have hmf:=iF
 have HN:=hid (Blk.new w 90 aY.toArray)
 have HB:=hid ((Below.refl w.heap.size w).alloc (Nat.le_refl _) (.cells aY.toArray 90))
 have hsz:(w.alloc (.cells aY.toArray 90)).heap.size=w.heap.size+1:=World.size_alloc _ _
 go_enter Tryz.func44,Tryz.ntmps44
 go_upto_region 1 with(fail)
 change Code.wp _ _ _ _ (w.alloc (.cells aY.toArray 90))
 generalize w.alloc (.cells aY.toArray 90)=w1 at HN HB hsz⊢
 go_wp2_with fail
 refine(lq ⟨#[117,110,97,109,101]⟩ 84 w1).mono ?_
 rintro e w2 ⟨rfl,hb,hc⟩
 rw[hsz]at hc⊢
 have HN2:=hid (HN.out.below hb (by omega))
 have HB2:=hid (HB.out.trans (hb.mono (by omega)))
 have hs2:w.heap.size+1≤w2.heap.size:=by have:=hb.size;omega
 have HC:=hid hc;clear hc
 clear hb HN HB
 have HCL:=hid (show([.string ⟨#[117,110,97,109,101]⟩,fv 132 (cap1 (w.heap.size+1)),fv 134 (cap1 (w.heap.size+1)),fv 136 (cap1 (w.heap.size+1)),fv 138 (cap1 (w.heap.size+1)),fv 139 (cap1 (w.heap.size+1)),fv 141 (cap1 (w.heap.size+1))]:List Value).toArray.all (·.oneCell')=true from by simp[Value.oneCell'])
 go_wp2_with(refine dA HN2.out 0 [.string ⟨#[117,110,97,109,101]⟩,fv 132 (cap1 (w.heap.size+1)),fv 134 (cap1 (w.heap.size+1)),fv 136 (cap1 (w.heap.size+1)),fv 138 (cap1 (w.heap.size+1)),fv 139 (cap1 (w.heap.size+1)),fv 141 (cap1 (w.heap.size+1))] _ (dh _ _ _ _ _ _ _) (Nat.le_refl 7) HCL.out rfl _ _ _ rfl rfl rfl b_ ?_;intro w3 hs ho;have HX:=hid hs;have HO:=hid (ho (fun i=>i=w.heap.size) rfl w2 (Off.refl _ _));clear hs ho)
 have hend:=HB2.out.trans (HO.out.below (B:=w.heap.size) (fun i hi=>by omega) (by omega))
 exact bodyPost_ret (bg rfl rfl rfl HX.out) rfl ⟨rfl,hend,HO.out.blk HC.out (by omega)⟩
theorem yH(w:World):Calls Tryz.prog 44 #[.int .u8 4] w fun e w'=>e= .returned (.agg #[.string ⟨#[97,110,97,109,101]⟩,fv 132 (cap1 (w.heap.size+1)),fv 134 (cap1 (w.heap.size+1)),fv 136 (cap1 (w.heap.size+1)),fv 138 (cap1 (w.heap.size+1)),fv 139 (cap1 (w.heap.size+1)),fv 141 (cap1 (w.heap.size+1))])∧Below w.heap.size w w'∧Blk w' (w.heap.size+1) 138 #[fv 85 #[]]:=by
 have hmf:=iF
 have HN:=hid (Blk.new w 90 aY.toArray)
 have HB:=hid ((Below.refl w.heap.size w).alloc (Nat.le_refl _) (.cells aY.toArray 90))
 have hsz:(w.alloc (.cells aY.toArray 90)).heap.size=w.heap.size+1:=World.size_alloc _ _
 go_enter Tryz.func44,Tryz.ntmps44
 go_upto_region 1 with(fail)
 change Code.wp _ _ _ _ (w.alloc (.cells aY.toArray 90))
 generalize w.alloc (.cells aY.toArray 90)=w1 at HN HB hsz⊢
 go_wp2_with fail
 refine(lq ⟨#[97,110,97,109,101]⟩ 85 w1).mono ?_
 rintro e w2 ⟨rfl,hb,hc⟩
 rw[hsz]at hc⊢
 have HN2:=hid (HN.out.below hb (by omega))
 have HB2:=hid (HB.out.trans (hb.mono (by omega)))
 have hs2:w.heap.size+1≤w2.heap.size:=by have:=hb.size;omega
 have HC:=hid hc;clear hc
 clear hb HN HB
 have HCL:=hid (show([.string ⟨#[97,110,97,109,101]⟩,fv 132 (cap1 (w.heap.size+1)),fv 134 (cap1 (w.heap.size+1)),fv 136 (cap1 (w.heap.size+1)),fv 138 (cap1 (w.heap.size+1)),fv 139 (cap1 (w.heap.size+1)),fv 141 (cap1 (w.heap.size+1))]:List Value).toArray.all (·.oneCell')=true from by simp[Value.oneCell'])
 go_wp2_with(refine dA HN2.out 0 [.string ⟨#[97,110,97,109,101]⟩,fv 132 (cap1 (w.heap.size+1)),fv 134 (cap1 (w.heap.size+1)),fv 136 (cap1 (w.heap.size+1)),fv 138 (cap1 (w.heap.size+1)),fv 139 (cap1 (w.heap.size+1)),fv 141 (cap1 (w.heap.size+1))] _ (dh _ _ _ _ _ _ _) (Nat.le_refl 7) HCL.out rfl _ _ _ rfl rfl rfl b_ ?_;intro w3 hs ho;have HX:=hid hs;have HO:=hid (ho (fun i=>i=w.heap.size) rfl w2 (Off.refl _ _));clear hs ho)
 have hend:=HB2.out.trans (HO.out.below (B:=w.heap.size) (fun i hi=>by omega) (by omega))
 exact bodyPost_ret (bg rfl rfl rfl HX.out) rfl ⟨rfl,hend,HO.out.blk HC.out (by omega)⟩
theorem yI(w:World):Calls Tryz.prog 44 #[.int .u8 5] w fun e w'=>e= .returned (.agg #[.string ⟨#[101,110,97,109,101]⟩,fv 132 (cap1 (w.heap.size+1)),fv 134 (cap1 (w.heap.size+1)),fv 136 (cap1 (w.heap.size+1)),fv 138 (cap1 (w.heap.size+1)),fv 139 (cap1 (w.heap.size+1)),fv 141 (cap1 (w.heap.size+1))])∧Below w.heap.size w w'∧Blk w' (w.heap.size+1) 138 #[fv 86 #[]]:=by
 have hmf:=iF
 have HN:=hid (Blk.new w 90 aY.toArray)
 have HB:=hid ((Below.refl w.heap.size w).alloc (Nat.le_refl _) (.cells aY.toArray 90))
 have hsz:(w.alloc (.cells aY.toArray 90)).heap.size=w.heap.size+1:=World.size_alloc _ _
 go_enter Tryz.func44,Tryz.ntmps44
 go_upto_region 1 with(fail)
 change Code.wp _ _ _ _ (w.alloc (.cells aY.toArray 90))
 generalize w.alloc (.cells aY.toArray 90)=w1 at HN HB hsz⊢
 go_wp2_with fail
 refine(lq ⟨#[101,110,97,109,101]⟩ 86 w1).mono ?_
 rintro e w2 ⟨rfl,hb,hc⟩
 rw[hsz]at hc⊢
 have HN2:=hid (HN.out.below hb (by omega))
 have HB2:=hid (HB.out.trans (hb.mono (by omega)))
 have hs2:w.heap.size+1≤w2.heap.size:=by have:=hb.size;omega
 have HC:=hid hc;clear hc
 clear hb HN HB
 have HCL:=hid (show([.string ⟨#[101,110,97,109,101]⟩,fv 132 (cap1 (w.heap.size+1)),fv 134 (cap1 (w.heap.size+1)),fv 136 (cap1 (w.heap.size+1)),fv 138 (cap1 (w.heap.size+1)),fv 139 (cap1 (w.heap.size+1)),fv 141 (cap1 (w.heap.size+1))]:List Value).toArray.all (·.oneCell')=true from by simp[Value.oneCell'])
 go_wp2_with(refine dA HN2.out 0 [.string ⟨#[101,110,97,109,101]⟩,fv 132 (cap1 (w.heap.size+1)),fv 134 (cap1 (w.heap.size+1)),fv 136 (cap1 (w.heap.size+1)),fv 138 (cap1 (w.heap.size+1)),fv 139 (cap1 (w.heap.size+1)),fv 141 (cap1 (w.heap.size+1))] _ (dh _ _ _ _ _ _ _) (Nat.le_refl 7) HCL.out rfl _ _ _ rfl rfl rfl b_ ?_;intro w3 hs ho;have HX:=hid hs;have HO:=hid (ho (fun i=>i=w.heap.size) rfl w2 (Off.refl _ _));clear hs ho)
 have hend:=HB2.out.trans (HO.out.below (B:=w.heap.size) (fun i hi=>by omega) (by omega))
 exact bodyPost_ret (bg rfl rfl rfl HX.out) rfl ⟨rfl,hend,HO.out.blk HC.out (by omega)⟩
theorem AU(w:World):Calls Tryz.prog 44 #[.int .u8 14] w fun e w'=>e= .returned (.agg #[.string ⟨#[110,97,109,101]⟩,fv 132 (cap1 (w.heap.size+1)),fv 134 (cap1 (w.heap.size+1)),fv 136 (cap1 (w.heap.size+1)),fv 138 (cap1 (w.heap.size+1)),fv 139 (cap1 (w.heap.size+1)),fv 141 (cap1 (w.heap.size+1))])∧Below w.heap.size w w'∧Blk w' (w.heap.size+1) 138 #[fv 87 #[]]:=by
 have hmf:=iF
 have HN:=hid (Blk.new w 90 aY.toArray)
 have HB:=hid ((Below.refl w.heap.size w).alloc (Nat.le_refl _) (.cells aY.toArray 90))
 have hsz:(w.alloc (.cells aY.toArray 90)).heap.size=w.heap.size+1:=World.size_alloc _ _
 go_enter Tryz.func44,Tryz.ntmps44
 go_upto_region 1 with(fail)
 change Code.wp _ _ _ _ (w.alloc (.cells aY.toArray 90))
 generalize w.alloc (.cells aY.toArray 90)=w1 at HN HB hsz⊢
 go_wp2_with fail
 refine(lq ⟨#[110,97,109,101]⟩ 87 w1).mono ?_
 rintro e w2 ⟨rfl,hb,hc⟩
 rw[hsz]at hc⊢
 have HN2:=hid (HN.out.below hb (by omega))
 have HB2:=hid (HB.out.trans (hb.mono (by omega)))
 have hs2:w.heap.size+1≤w2.heap.size:=by have:=hb.size;omega
 have HC:=hid hc;clear hc
 clear hb HN HB
 have HCL:=hid (show([.string ⟨#[110,97,109,101]⟩,fv 132 (cap1 (w.heap.size+1)),fv 134 (cap1 (w.heap.size+1)),fv 136 (cap1 (w.heap.size+1)),fv 138 (cap1 (w.heap.size+1)),fv 139 (cap1 (w.heap.size+1)),fv 141 (cap1 (w.heap.size+1))]:List Value).toArray.all (·.oneCell')=true from by simp[Value.oneCell'])
 go_wp2_with(refine dA HN2.out 0 [.string ⟨#[110,97,109,101]⟩,fv 132 (cap1 (w.heap.size+1)),fv 134 (cap1 (w.heap.size+1)),fv 136 (cap1 (w.heap.size+1)),fv 138 (cap1 (w.heap.size+1)),fv 139 (cap1 (w.heap.size+1)),fv 141 (cap1 (w.heap.size+1))] _ (dh _ _ _ _ _ _ _) (Nat.le_refl 7) HCL.out rfl _ _ _ rfl rfl rfl b_ ?_;intro w3 hs ho;have HX:=hid hs;have HO:=hid (ho (fun i=>i=w.heap.size) rfl w2 (Off.refl _ _));clear hs ho)
 have hend:=HB2.out.trans (HO.out.below (B:=w.heap.size) (fun i hi=>by omega) (by omega))
 exact bodyPost_ret (bg rfl rfl rfl HX.out) rfl ⟨rfl,hend,HO.out.blk HC.out (by omega)⟩
theorem yJ(f:Fld)(w:World):Calls Tryz.prog 44 #[.int .u8 (f.ix:Int)] w fun e w'=>e= .returned (.agg (U1 f (w.heap.size+1)).toArray)∧Below w.heap.size w w'∧yC w' f (w.heap.size+1):=by
 cases f
 case bI=>refine(yE w).mono ?_;rintro e w' ⟨rfl,hb,hc⟩;exact⟨rfl,hb,⟨(by intro h;cases h),fun _ _=>hc⟩⟩
 case version=>refine(uM w).mono ?_;rintro e w' ⟨rfl,hb,hc⟩;exact⟨rfl,hb,⟨fun _=>hc,(by intro _ h;cases h)⟩⟩
 case dB=>refine(AP w).mono ?_;rintro e w' ⟨rfl,hb,hc⟩;exact⟨rfl,hb,⟨(by intro h;cases h),fun _ _=>hc⟩⟩
 case uname=>refine(yG w).mono ?_;rintro e w' ⟨rfl,hb,hc⟩;exact⟨rfl,hb,⟨fun _=>hc,(by intro _ h;cases h)⟩⟩
 case bF=>refine(yH w).mono ?_;rintro e w' ⟨rfl,hb,hc⟩;exact⟨rfl,hb,⟨fun _=>hc,(by intro _ h;cases h)⟩⟩
 case bH=>refine(yI w).mono ?_;rintro e w' ⟨rfl,hb,hc⟩;exact⟨rfl,hb,⟨fun _=>hc,(by intro _ h;cases h)⟩⟩
 case aT=>refine(wE w).mono ?_;rintro e w' ⟨rfl,hb⟩;exact⟨rfl,hb,⟨(by intro h;cases h),(by intro h;cases h)⟩⟩
 case fid=>refine(CU w).mono ?_;rintro e w' ⟨rfl,hb,hc⟩;exact⟨rfl,hb,⟨(by intro h;cases h),fun _ _=>hc⟩⟩
 case aU=>refine(wG w).mono ?_;rintro e w' ⟨rfl,hb,hc⟩;exact⟨rfl,hb,⟨(by intro h;cases h),fun _ _=>hc⟩⟩
 case names=>refine(yD w).mono ?_;rintro e w' ⟨rfl,hb⟩;exact⟨rfl,hb,⟨(by intro h;cases h),(by intro h;cases h)⟩⟩
 case aV=>refine(AA w).mono ?_;rintro e w' ⟨rfl,hb⟩;exact⟨rfl,hb,⟨(by intro h;cases h),(by intro h;cases h)⟩⟩
 case qid=>refine(CS w).mono ?_;rintro e w' ⟨rfl,hb⟩;exact⟨rfl,hb,⟨(by intro h;cases h),(by intro h;cases h)⟩⟩
 case mode=>refine(AB w).mono ?_;rintro e w' ⟨rfl,hb⟩;exact⟨rfl,hb,⟨(by intro h;cases h),(by intro h;cases h)⟩⟩
 case aQ=>refine(wH w).mono ?_;rintro e w' ⟨rfl,hb,hc⟩;exact⟨rfl,hb,⟨(by intro h;cases h),fun _ _=>hc⟩⟩
 case name=>refine(AU w).mono ?_;rintro e w' ⟨rfl,hb,hc⟩;exact⟨rfl,hb,⟨fun _=>hc,(by intro _ h;cases h)⟩⟩
 case perm=>refine(AQ w).mono ?_;rintro e w' ⟨rfl,hb,hc⟩;exact⟨rfl,hb,⟨(by intro h;cases h),fun _ _=>hc⟩⟩
 case offset=>refine(wF w).mono ?_;rintro e w' ⟨rfl,hb⟩;exact⟨rfl,hb,⟨(by intro h;cases h),(by intro h;cases h)⟩⟩
 case count=>refine(yF w).mono ?_;rintro e w' ⟨rfl,hb,hc⟩;exact⟨rfl,hb,⟨(by intro h;cases h),fun _ _=>hc⟩⟩
 case data=>refine(AL w).mono ?_;rintro e w' ⟨rfl,hb⟩;exact⟨rfl,hb,⟨(by intro h;cases h),(by intro h;cases h)⟩⟩
 case stat=>refine(AO w).mono ?_;rintro e w' ⟨rfl,hb⟩;exact⟨rfl,hb,⟨(by intro h;cases h),(by intro h;cases h)⟩⟩
end Go.Proofs.YtkblmloobkiloaaGreatDoor
