/-
  M2 MG: what the laws of package msg need of them.
-/
import Derived.Test.YtkblmloobkiloaaGreatDoorK00
import Derived.Test.YtkblmloobkiloaaGreatDoorK02
import Derived.Test.YtkblmloobkiloaaGreatDoorK04
import Derived.StillTailTactics
import Derived.Deep.RegionHeld3
import Derived.BigQuiet
import Derived.Conc.MuLone
set_option maxRecDepth 100000
set_option maxHeartbeats 1600000
namespace Go.Proofs.YtkblmloobkiloaaGreatDoor
open Go.Lib (hid)
open Go.Lib (decDigits)
theorem Ij(m:Mg)(f:Fld):(m.bytes f).length=m.long f:=by
 cases f
 case bI=>exact bK _ _
 case version=>exact ji _
 case dB=>exact bK _ _
 case uname=>exact ji _
 case bF=>exact ji _
 case bH=>exact ji _
 case aT=>exact bK _ _
 case fid=>exact bK _ _
 case aU=>exact bK _ _
 case names=>
  show(le 2 m.names.length++m.names.flatMap fP).length=2+(m.names.map fun s=>2+s.size).sum
  rw[List.length_append,bK,List.length_flatMap]
  congr 2
  exact List.map_congr_left fun s _=>ji s
 case aV=>
  show(le 2 m.aV.length++m.aV.flatMap kR).length=2+13*m.aV.length
  rw[List.length_append,bK,List.length_flatMap]
  congr 1
  induction m.aV with
  |nil=>rfl
  |cons q l ih=>rw[List.map_cons,List.sum_cons,ih,nH,List.length_cons];omega
 case qid=>exact nH _
 case mode=>exact bK _ _
 case aQ=>exact bK _ _
 case name=>exact ji _
 case perm=>exact bK _ _
 case offset=>exact bK _ _
 case count=>exact bK _ _
 case data=>show(le 4 _++_).length=_;rw[List.length_append,bK];rfl
 case stat=>show(le 2 _++_).length=_;rw[List.length_append,bK,pW];rfl
theorem En{α:Type}{f:α→Nat}{x:α}{l:List α}(h:x∈l):f x≤(l.map f).sum:=by
 induction l with
 |nil=>cases h
 |cons y l ih=>
  rw[List.map_cons,List.sum_cons]
  rcases List.mem_cons.1 h with rfl|h
  ·omega
  ·have:=ih h;omega
theorem vI(c m:Mg)(f:Fld):(c.move m f).bytes f=m.bytes f:=by
 cases f<;>rfl
theorem y5(c m:Mg)(f:Fld):(c.move m f).good f=m.good f:=by
 cases f<;>rfl
theorem y7(c m:Mg)(f:Fld):(c.move m f).long f=m.long f:=by
 cases f<;>rfl
def Alike(a b:Mg)(f:Fld):Prop:=∀d:Mg,d.move a f=d.move b f
theorem Alike.bytes{a b:Mg}{f:Fld}(h:Alike a b f):a.bytes f=b.bytes f:=by rw[←vI a a f,←vI a b f,h]
theorem Alike.good{a b:Mg}{f:Fld}(h:Alike a b f):a.good f=b.good f:=by rw[←y5 a a f,←y5 a b f,h]
theorem Alike.long{a b:Mg}{f:Fld}(h:Alike a b f):a.long f=b.long f:=by rw[←y7 a a f,←y7 a b f,h]
def Fld.J6:Fld→Bool
 | .stat=>true
 |_=>false
def Gu:List Fld→Bool
 | []=>true
 |f::fs=>(!f.J6||fs.isEmpty)&&Gu fs
instance:DecidableEq Fld:=fun a b=>by
 cases a<;>cases b<;>first|exact isTrue rfl|exact isFalse (fun h=>by cases h)
theorem iP{k:Nat}{fs:List Fld}(h:bQ k=some fs):Gu fs=true∧fs.Nodup∧100≤k∧k<128:=by
 unfold bQ at h
 split at h<;>first|(obtain rfl:=Option.some.inj h;decide)|(exact absurd h (by simp))
theorem vK(m:Mg)(fs:List Fld):(body m fs).length=(fs.map m.long).sum:=by
 unfold body
 rw[List.length_flatMap]
 congr 1
 exact List.map_congr_left fun f _=>Ij m f
theorem nZ{m:Mg}(h:(refused m).1=0):∃fs,bQ m.kind=some fs∧(∀f∈fs,m.good f=true)∧m.size fs≤65536∧(refused m).2=m.size fs∧enc m=(le 4 (m.size fs)++le 1 m.kind++le 2 m.tag++body m fs,0):=by
 have h0:=h
 unfold refused at h
 cases hk:bQ m.kind with
 |none=>rw[hk]at h;simp at h
 |some fs=>
  rw[hk]at h
  dsimp only at h
  split at h
  ·rename_i hg
   split at h
   ·simp at h
   ·rename_i hs
    refine⟨fs,rfl,List.all_eq_true.1 hg,by omega, ?_, ?_⟩
    ·unfold refused;rw[hk];dsimp only;rw[if_pos hg,if_neg hs]
    ·unfold enc;rw[hk];dsimp only;rw[if_pos h0]
  ·simp at h
theorem qQ{m:Mg}{fs:List Fld}(hk:bQ m.kind=some fs)(hg:∀f∈fs,m.good f=true)(hs:m.size fs≤65536):refused m=(0,m.size fs):=by
 unfold refused
 rw[hk]
 dsimp only
 rw[if_pos (List.all_eq_true.2 hg),if_neg (by omega)]
theorem NQ{m:Mg}(h:(refused m).1=0):(enc m).1.length=(refused m).2:=by
 obtain⟨fs, -, -, -,h2,he⟩:=nZ h
 rw[he,h2]
 simp only[List.length_append,bK,vK,Mg.size]
end Go.Proofs.YtkblmloobkiloaaGreatDoor
namespace Go.Proofs.YtkblmloobkiloaaGreatDoor
open Go.Lib (hid)
open Go.RowKit
def Fld.off:Fld→Nat
 | .bI=>2
 | .version=>3
 | .dB=>4
 | .uname=>5
 | .bF=>6
 | .bH=>7
 | .aT=>8
 | .fid=>9
 | .aU=>10
 | .names=>11
 | .aV=>12
 | .qid=>13
 | .mode=>16
 | .aQ=>17
 | .name=>18
 | .perm=>19
 | .offset=>20
 | .count=>21
 | .data=>22
 | .stat=>23
theorem au{k:Nat}{fn:Func}(h:Tryz.prog.funcs[k]? =some fn)(h1:(fn.name== "runtime.NumGoroutine")=false){bd:Code}(h2:fn.body=some bd)(args:Array Value)(w:World):Sem.run Tryz.prog (callFunc k args) w= .ok (.enter k args) w:=Go.MuLone.run_callFunc_enter h h1 h2 args w
theorem Kv(q:Nat)(w:World):Calls Tryz.prog 75 #[.pointer (some ⟨q,0,none⟩)] w fun e w'=>e= .returned (.pointer (some ⟨q,2,none⟩))∧w=w':=by
 go_enter Tryz.func75,Tryz.ntmps75
 go_wp2_with fail
 go_ret
 exact⟨rfl,rfl⟩
theorem NU(q:Nat)(w:World):Calls Tryz.prog 76 #[.pointer (some ⟨q,0,none⟩)] w fun e w'=>e= .returned (.pointer (some ⟨q,4,none⟩))∧w=w':=by
 go_enter Tryz.func76,Tryz.ntmps76
 go_wp2_with fail
 go_ret
 exact⟨rfl,rfl⟩
theorem PV(q:Nat)(w:World):Calls Tryz.prog 77 #[.pointer (some ⟨q,0,none⟩)] w fun e w'=>e= .returned (.pointer (some ⟨q,9,none⟩))∧w=w':=by
 go_enter Tryz.func77,Tryz.ntmps77
 go_wp2_with fail
 go_ret
 exact⟨rfl,rfl⟩
theorem Iy(q:Nat)(w:World):Calls Tryz.prog 78 #[.pointer (some ⟨q,0,none⟩)] w fun e w'=>e= .returned (.pointer (some ⟨q,10,none⟩))∧w=w':=by
 go_enter Tryz.func78,Tryz.ntmps78
 go_wp2_with fail
 go_ret
 exact⟨rfl,rfl⟩
theorem Iz(q:Nat)(w:World):Calls Tryz.prog 79 #[.pointer (some ⟨q,0,none⟩)] w fun e w'=>e= .returned (.pointer (some ⟨q,17,none⟩))∧w=w':=by
 go_enter Tryz.func79,Tryz.ntmps79
 go_wp2_with fail
 go_ret
 exact⟨rfl,rfl⟩
theorem NV(q:Nat)(w:World):Calls Tryz.prog 80 #[.pointer (some ⟨q,0,none⟩)] w fun e w'=>e= .returned (.pointer (some ⟨q,19,none⟩))∧w=w':=by
 go_enter Tryz.func80,Tryz.ntmps80
 go_wp2_with fail
 go_ret
 exact⟨rfl,rfl⟩
theorem Kw(q:Nat)(w:World):Calls Tryz.prog 81 #[.pointer (some ⟨q,0,none⟩)] w fun e w'=>e= .returned (.pointer (some ⟨q,21,none⟩))∧w=w':=by
 go_enter Tryz.func81,Tryz.ntmps81
 go_wp2_with fail
 go_ret
 exact⟨rfl,rfl⟩
theorem Ez(q:Nat)(w:World):Calls Tryz.prog 83 #[.pointer (some ⟨q,0,none⟩)] w fun e w'=>e= .returned (.pointer (some ⟨q,3,none⟩))∧w=w':=by
 go_enter Tryz.func83,Tryz.ntmps83
 go_wp2_with fail
 go_ret
 exact⟨rfl,rfl⟩
theorem Ky(q:Nat)(w:World):Calls Tryz.prog 84 #[.pointer (some ⟨q,0,none⟩)] w fun e w'=>e= .returned (.pointer (some ⟨q,5,none⟩))∧w=w':=by
 go_enter Tryz.func84,Tryz.ntmps84
 go_wp2_with fail
 go_ret
 exact⟨rfl,rfl⟩
theorem Kz(q:Nat)(w:World):Calls Tryz.prog 85 #[.pointer (some ⟨q,0,none⟩)] w fun e w'=>e= .returned (.pointer (some ⟨q,6,none⟩))∧w=w':=by
 go_enter Tryz.func85,Tryz.ntmps85
 go_wp2_with fail
 go_ret
 exact⟨rfl,rfl⟩
theorem KA(q:Nat)(w:World):Calls Tryz.prog 86 #[.pointer (some ⟨q,0,none⟩)] w fun e w'=>e= .returned (.pointer (some ⟨q,7,none⟩))∧w=w':=by
 go_enter Tryz.func86,Tryz.ntmps86
 go_wp2_with fail
 go_ret
 exact⟨rfl,rfl⟩
theorem NW(q:Nat)(w:World):Calls Tryz.prog 87 #[.pointer (some ⟨q,0,none⟩)] w fun e w'=>e= .returned (.pointer (some ⟨q,18,none⟩))∧w=w':=by
 go_enter Tryz.func87,Tryz.ntmps87
 go_wp2_with fail
 go_ret
 exact⟨rfl,rfl⟩
theorem aZ(f:Fld)(hf:f.far=true)(q:Nat)(w:World):Calls Tryz.prog f.ka #[.pointer (some ⟨q,0,none⟩)] w fun e w'=>e= .returned (.pointer (some ⟨q,f.off,none⟩))∧w=w':=by
 cases f<;>first|cases hf|skip
 case bI=>exact Kv q w
 case version=>exact Ez q w
 case dB=>exact NU q w
 case uname=>exact Ky q w
 case bF=>exact Kz q w
 case bH=>exact KA q w
 case fid=>exact PV q w
 case aU=>exact Iy q w
 case aQ=>exact Iz q w
 case name=>exact NW q w
 case perm=>exact NV q w
 case count=>exact Kw q w
theorem aS(f:Fld)(hf:f.far=true)(args:Array Value)(w:World):Sem.run Tryz.prog (callFunc f.ka args) w= .ok (.enter f.ka args) w:=by
 cases f<;>first|cases hf|skip
 case bI=>exact au Tryz.func75 (by kernel_rfl) rfl args w
 case version=>exact au Tryz.func83 (by kernel_rfl) rfl args w
 case dB=>exact au Tryz.func76 (by kernel_rfl) rfl args w
 case uname=>exact au Tryz.func84 (by kernel_rfl) rfl args w
 case bF=>exact au Tryz.func85 (by kernel_rfl) rfl args w
 case bH=>exact au Tryz.func86 (by kernel_rfl) rfl args w
 case fid=>exact au Tryz.func77 (by kernel_rfl) rfl args w
 case aU=>exact au Tryz.func78 (by kernel_rfl) rfl args w
 case aQ=>exact au Tryz.func79 (by kernel_rfl) rfl args w
 case name=>exact au Tryz.func87 (by kernel_rfl) rfl args w
 case perm=>exact au Tryz.func80 (by kernel_rfl) rfl args w
 case count=>exact au Tryz.func81 (by kernel_rfl) rfl args w
theorem IB(f:Fld)(args:Array Value)(w:World):Sem.run Tryz.prog (callFunc f.kg args) w= .ok (.enter f.kg args) w:=by
 cases f
 case bI=>exact au Tryz.func126 (by kernel_rfl) rfl args w
 case version=>exact au Tryz.func132 (by kernel_rfl) rfl args w
 case dB=>exact au Tryz.func126 (by kernel_rfl) rfl args w
 case uname=>exact au Tryz.func132 (by kernel_rfl) rfl args w
 case bF=>exact au Tryz.func132 (by kernel_rfl) rfl args w
 case bH=>exact au Tryz.func132 (by kernel_rfl) rfl args w
 case aT=>exact au Tryz.func126 (by kernel_rfl) rfl args w
 case fid=>exact au Tryz.func126 (by kernel_rfl) rfl args w
 case aU=>exact au Tryz.func126 (by kernel_rfl) rfl args w
 case names=>exact au Tryz.func207 (by kernel_rfl) rfl args w
 case aV=>exact au Tryz.func220 (by kernel_rfl) rfl args w
 case qid=>exact au Tryz.func126 (by kernel_rfl) rfl args w
 case mode=>exact au Tryz.func126 (by kernel_rfl) rfl args w
 case aQ=>exact au Tryz.func126 (by kernel_rfl) rfl args w
 case name=>exact au Tryz.func132 (by kernel_rfl) rfl args w
 case perm=>exact au Tryz.func126 (by kernel_rfl) rfl args w
 case offset=>exact au Tryz.func126 (by kernel_rfl) rfl args w
 case count=>exact au Tryz.func126 (by kernel_rfl) rfl args w
 case data=>exact au Tryz.func126 (by kernel_rfl) rfl args w
 case stat=>exact au Tryz.func233 (by kernel_rfl) rfl args w
theorem IC(f:Fld)(args:Array Value)(w:World):Sem.run Tryz.prog (callFunc f.kp args) w= .ok (.enter f.kp args) w:=by
 cases f
 case bI=>exact au Tryz.func127 (by kernel_rfl) rfl args w
 case version=>exact au Tryz.func134 (by kernel_rfl) rfl args w
 case dB=>exact au Tryz.func127 (by kernel_rfl) rfl args w
 case uname=>exact au Tryz.func134 (by kernel_rfl) rfl args w
 case bF=>exact au Tryz.func134 (by kernel_rfl) rfl args w
 case bH=>exact au Tryz.func134 (by kernel_rfl) rfl args w
 case aT=>exact au Tryz.func143 (by kernel_rfl) rfl args w
 case fid=>exact au Tryz.func127 (by kernel_rfl) rfl args w
 case aU=>exact au Tryz.func127 (by kernel_rfl) rfl args w
 case names=>exact au Tryz.func210 (by kernel_rfl) rfl args w
 case aV=>exact au Tryz.func221 (by kernel_rfl) rfl args w
 case qid=>exact au Tryz.func170 (by kernel_rfl) rfl args w
 case mode=>exact au Tryz.func148 (by kernel_rfl) rfl args w
 case aQ=>exact au Tryz.func127 (by kernel_rfl) rfl args w
 case name=>exact au Tryz.func134 (by kernel_rfl) rfl args w
 case perm=>exact au Tryz.func127 (by kernel_rfl) rfl args w
 case offset=>exact au Tryz.func153 (by kernel_rfl) rfl args w
 case count=>exact au Tryz.func127 (by kernel_rfl) rfl args w
 case data=>exact au Tryz.func160 (by kernel_rfl) rfl args w
 case stat=>exact au Tryz.func234 (by kernel_rfl) rfl args w
theorem adF(f:Fld)(args:Array Value)(w:World):Sem.run Tryz.prog (callFunc f.km args) w= .ok (.enter f.km args) w:=by
 cases f
 case bI=>exact au Tryz.func129 (by kernel_rfl) rfl args w
 case version=>exact au Tryz.func138 (by kernel_rfl) rfl args w
 case dB=>exact au Tryz.func129 (by kernel_rfl) rfl args w
 case uname=>exact au Tryz.func138 (by kernel_rfl) rfl args w
 case bF=>exact au Tryz.func138 (by kernel_rfl) rfl args w
 case bH=>exact au Tryz.func138 (by kernel_rfl) rfl args w
 case aT=>exact au Tryz.func145 (by kernel_rfl) rfl args w
 case fid=>exact au Tryz.func129 (by kernel_rfl) rfl args w
 case aU=>exact au Tryz.func129 (by kernel_rfl) rfl args w
 case names=>exact au Tryz.func214 (by kernel_rfl) rfl args w
 case aV=>exact au Tryz.func227 (by kernel_rfl) rfl args w
 case qid=>exact au Tryz.func174 (by kernel_rfl) rfl args w
 case mode=>exact au Tryz.func150 (by kernel_rfl) rfl args w
 case aQ=>exact au Tryz.func129 (by kernel_rfl) rfl args w
 case name=>exact au Tryz.func138 (by kernel_rfl) rfl args w
 case perm=>exact au Tryz.func129 (by kernel_rfl) rfl args w
 case offset=>exact au Tryz.func157 (by kernel_rfl) rfl args w
 case count=>exact au Tryz.func129 (by kernel_rfl) rfl args w
 case data=>exact au Tryz.func164 (by kernel_rfl) rfl args w
 case stat=>exact au Tryz.func238 (by kernel_rfl) rfl args w
theorem IG(f:Fld)(args:Array Value)(w:World):Sem.run Tryz.prog (callFunc f.kr args) w= .ok (.enter f.kr args) w:=by
 cases f
 case bI=>exact au Tryz.func130 (by kernel_rfl) rfl args w
 case version=>exact au Tryz.func139 (by kernel_rfl) rfl args w
 case dB=>exact au Tryz.func130 (by kernel_rfl) rfl args w
 case uname=>exact au Tryz.func139 (by kernel_rfl) rfl args w
 case bF=>exact au Tryz.func139 (by kernel_rfl) rfl args w
 case bH=>exact au Tryz.func139 (by kernel_rfl) rfl args w
 case aT=>exact au Tryz.func146 (by kernel_rfl) rfl args w
 case fid=>exact au Tryz.func130 (by kernel_rfl) rfl args w
 case aU=>exact au Tryz.func130 (by kernel_rfl) rfl args w
 case names=>exact au Tryz.func216 (by kernel_rfl) rfl args w
 case aV=>exact au Tryz.func229 (by kernel_rfl) rfl args w
 case qid=>exact au Tryz.func175 (by kernel_rfl) rfl args w
 case mode=>exact au Tryz.func151 (by kernel_rfl) rfl args w
 case aQ=>exact au Tryz.func130 (by kernel_rfl) rfl args w
 case name=>exact au Tryz.func139 (by kernel_rfl) rfl args w
 case perm=>exact au Tryz.func130 (by kernel_rfl) rfl args w
 case offset=>exact au Tryz.func158 (by kernel_rfl) rfl args w
 case count=>exact au Tryz.func130 (by kernel_rfl) rfl args w
 case data=>exact au Tryz.func166 (by kernel_rfl) rfl args w
 case stat=>exact au Tryz.func239 (by kernel_rfl) rfl args w
theorem eG(q:Nat)(w:World):Calls Tryz.prog 126 #[.pointer (some ⟨q,0,none⟩)] w fun e w'=>e= .returned (.bool true)∧w=w':=by
 go_enter Tryz.func126,Tryz.ntmps126
 go_wp2_with fail
 go_ret
 exact⟨rfl,rfl⟩
theorem lu{w:World}{q b o K:Nat}{s:ByteArray}(hent:∀args w,Sem.run Tryz.prog (callFunc K args) w= .ok (.enter K args) w)(hat:∀w,Calls Tryz.prog K #[.pointer (some ⟨q,0,none⟩)] w fun e w'=>e= .returned (.pointer (some ⟨q,o,none⟩))∧w=w')(hc:Blk w b 138 #[fv K #[]])(ks:w.cell? ⟨q,o,none⟩=some (.string s))(hr:Ready w):
  Calls Tryz.prog 132 #[.pointer (some ⟨q,0,none⟩),.pointer (some ⟨b,0,none⟩)] w fun e w'=>e= .returned (.bool (good s))∧Below w.heap.size w w':=by
 have HAT:=hid (hat w)
 have HR:=hid hr
 have kb:w.cell? ⟨b,0,none⟩=_:=hc.cell 0
 clear hat hc hr
 go_enter Tryz.func132,Tryz.ntmps132
 go_wp2_with fail
 refine HAT.out.mono ?_
 rintro e w' ⟨rfl,rfl⟩
 go_wp2_with fail
 refine(gu s w HR.out).mono ?_
 rintro e w' ⟨rfl,hb⟩
 have HB:=hid hb
 clear hb
 go_wp2_with fail
 go_ret
 exact⟨rfl,HB.out⟩
theorem yK(s:ByteArray)(w:World)(hr:Ready w):Calls Tryz.prog 209 #[.string s] w fun e w'=>e= .returned (.bool (!good s))∧Below w.heap.size w w':=by
 have HR:=hid hr;clear hr
 go_enter Tryz.func209,Tryz.ntmps209
 go_wp2_with fail
 refine(gu s w HR.out).mono ?_
 rintro e w' ⟨rfl,hb⟩
 have HB:=hid hb;clear hb
 go_wp2_with fail
 go_ret
 exact⟨rfl,HB.out⟩
theorem wI(vn:Value)(l:List ByteArray)(w:World)(hl:iW w w.heap.size vn l)(hr:Ready w):
  Calls Tryz.prog 255 #[vn,fv 209 #[]] w fun e w'=>(∃i:Int,e= .returned (.int .i64 i)∧(decide (0≤i)= !l.all good))∧Below w.heap.size w w':=by
 have HL:=hid hl
 obtain⟨A,c,rfl,hc,hm, -⟩:=hl
 have hlm:l.length≤9223372036854775807:=by unfold maxLen at hm;omega
 have HR:=hid hr
 clear hr
 go_enter Tryz.func255,Tryz.ntmps255
 go_upto_region 2 with(fail)
 go_loopw [5,8] (fun _ i wr=>∃k:Nat,k≤l.length∧i= .int .i64 k∧(l.take k).all good=true∧Below w.heap.size w wr) (fun _ i _=>l.length-(intOf i).toNat)
 case atStart=>exact⟨0,by omega,rfl,by simp,Below.refl _ _⟩
 case round=>
  obtain⟨k,hk,rfl,ha,hb⟩:=hrel
  have HA:=hid ha;clear ha
  have HBR:=hid hb;clear hb
  by_cases hlt:k<l.length
  ·obtain⟨x,hx⟩:∃x,l[k]? =some x:=⟨l[k],List.getElem?_eq_getElem _⟩
   obtain⟨ad,rfl,hab,kx⟩:=(HL.out.below HBR.out).at_ hx
   have HX:=hid hx
   have hn:=yK x wr (HR.out.below HBR.out (Nat.le_refl _))
   clear hx hab
   cases hgx:good x with
   |true=>
    rw[hgx]at hn
    have HN:=hid hn;clear hn
    have HGX:=hid hgx;clear hgx
    go_wp2_with fail
    refine HN.out.mono ?_
    rintro e w10 ⟨rfl,hb⟩
    have HBX:=hid (HBR.out.trans (hb.mono HBR.out.size))
    clear hb kx
    go_wp2_with fail
    go_roundw
    case rel=>
     refine⟨k+1,by omega,by go_num, ?_,HBX.out⟩
     rw[List.take_add_one,HX.out,Option.toList_some,List.all_append,HA.out]
     simp[HGX.out]
    case measure=>simp[intOf];omega
   |false=>
    rw[hgx]at hn
    have HN:=hid hn;clear hn
    have HGX:=hid hgx;clear hgx
    go_wp2_with fail
    refine HN.out.mono ?_
    rintro e w10 ⟨rfl,hb⟩
    have HBX:=hid (HBR.out.trans (hb.mono HBR.out.size))
    clear hb kx
    go_wp2_with fail
    go_ret
    refine⟨⟨k,rfl, ?_⟩,HBX.out⟩
    have:l.all good=false:=by
     rw[List.all_eq_false]
     exact⟨x,List.mem_of_getElem? HX.out,by rw[HGX.out];decide⟩
    rw[this]
    exact decide_eq_true (by omega)
  ·have hkl:k=l.length:=by omega
   subst hkl
   have HAF:=hid (show l.all good=true from by have h:=HA.out;rw[List.take_length]at h;exact h)
   clear HA
   go_wp2_with fail
   go_ret
   exact⟨⟨-1,rfl,by rw[HAF.out];rfl⟩,HBR.out⟩
theorem AV(vn:Value)(l:List ByteArray)(w:World)(hl:iW w w.heap.size vn l)(hr:Ready w):
  Calls Tryz.prog 208 #[vn,fv 209 #[]] w fun e w'=>e= .returned (.bool (!l.all good))∧Below w.heap.size w w':=by
 have HI:=hid (wI vn l w hl hr)
 clear hl hr
 go_enter Tryz.func208,Tryz.ntmps208
 go_wp2_with fail
 refine HI.out.mono ?_
 rintro e w' ⟨⟨i,rfl,hi⟩,hb⟩
 have HB:=hid hb
 have HII:=hid hi
 clear hb hi
 go_wp2_with fail
 go_ret
 exact⟨cZ HII.out,HB.out⟩
theorem uN{w:World}{q:Nat}{m:Mg}{vn vq vd:Value}(h:aK w q m vn vq vd)(hl:iW w w.heap.size vn m.names)(hr:Ready w):
  Calls Tryz.prog 207 #[.pointer (some ⟨q,0,none⟩)] w fun e w'=>e= .returned (.bool (m.good .names))∧Below w.heap.size w w':=by
 have k11:w.cell? ⟨q,11,none⟩=some vn:=Blk.cell h 11
 have HC:=hid (AV vn m.names w hl hr)
 obtain⟨A,c,rfl,hc,hm, -⟩:=hl
 clear h hr
 by_cases h16:m.names.length≤16
 ·have HG:=hid (show m.good .names=m.names.all good from by show(decide (m.names.length≤16)&&m.names.all good)=_;rw[decide_eq_true h16];rfl)
  go_enter Tryz.func207,Tryz.ntmps207
  go_wp2_with fail
  refine HC.out.mono ?_
  rintro e w' ⟨rfl,hb⟩
  have HB:=hid hb
  clear hb
  go_wp2_with fail
  go_ret
  exact⟨cZ (by rw[HG.out]),HB.out⟩
 ·have HG:=hid (show m.good .names=false from by show(decide (m.names.length≤16)&&m.names.all good)=_;rw[decide_eq_false h16];rfl)
  go_enter Tryz.func207,Tryz.ntmps207
  go_wp2_with fail
  go_ret
  exact⟨cZ HG.out.symm,Below.refl _ _⟩
theorem wJ{w:World}{q:Nat}{m:Mg}{vn vq vd:Value}(h:aK w q m vn vq vd)(hl:lX w w.heap.size vq m.aV):
  Calls Tryz.prog 220 #[.pointer (some ⟨q,0,none⟩)] w fun e w'=>e= .returned (.bool (m.good .aV))∧w=w':=by
 have k12:w.cell? ⟨q,12,none⟩=some vq:=Blk.cell h 12
 obtain⟨A,c,rfl,hc,hm, -⟩:=hl
 have HG:=hid (show m.good .aV=decide ((m.aV.length:Int)≤16)from by show decide (m.aV.length≤16)=_;congr 1;apply propext;omega)
 clear h
 go_enter Tryz.func220,Tryz.ntmps220
 go_wp2_with fail
 go_ret
 exact⟨cZ HG.out.symm,rfl⟩
theorem wK{w:World}{q:Nat}{m:Mg}{vn vq vd:Value}(h:aK w q m vn vq vd)(hr:Ready w):
  Calls Tryz.prog 233 #[.pointer (some ⟨q,0,none⟩)] w fun e w'=>e= .returned (.bool (m.good .stat))∧Below w.heap.size w w':=by
 have HM:=hid h
 have HR:=hid hr
 have HB:=hid (Below.refl w.heap.size w)
 clear h hr
 have HGS:=hid (show m.good .stat=(good m.stat.name&&good m.stat.uid&&good m.stat.gid&&good m.stat.fE)from rfl)
 go_enter Tryz.func233,Tryz.ntmps233
 have k32:w.cell? ⟨q,32,none⟩=some (.string m.stat.name):=Blk.cell (Blk.below HM.out HB.out (Blk.lt HM.out)) 32
 go_wp2_with fail
 refine(gu m.stat.name w (HR.out.below HB.out (Nat.le_refl _))).mono ?_
 rintro e w1 ⟨rfl,hb⟩
 have HB1:=hid (HB.out.trans (hb.mono HB.out.size))
 clear hb k32
 cases hg0:good m.stat.name with
 |false=>
  have HGF:=hid (show m.good .stat=false from by rw[HGS.out,hg0];rfl)
  clear hg0
  go_wp2_with fail
  go_ret
  exact⟨cZ HGF.out.symm,HB1.out⟩
 |true=>
  have HG0:=hid hg0
  clear hg0
  have k33:w1.cell? ⟨q,33,none⟩=some (.string m.stat.uid):=Blk.cell (Blk.below HM.out HB1.out (Blk.lt HM.out)) 33
  go_wp2_with fail
  refine(gu m.stat.uid w1 (HR.out.below HB1.out (Nat.le_refl _))).mono ?_
  rintro e w2 ⟨rfl,hb⟩
  have HB2:=hid (HB1.out.trans (hb.mono HB1.out.size))
  clear hb k33
  cases hg1:good m.stat.uid with
  |false=>
   have HGF:=hid (show m.good .stat=false from by rw[HGS.out,HG0.out,hg1];rfl)
   clear hg1
   go_wp2_with fail
   go_ret
   exact⟨cZ HGF.out.symm,HB2.out⟩
  |true=>
   have HG1:=hid hg1
   clear hg1
   have k34:w2.cell? ⟨q,34,none⟩=some (.string m.stat.gid):=Blk.cell (Blk.below HM.out HB2.out (Blk.lt HM.out)) 34
   go_wp2_with fail
   refine(gu m.stat.gid w2 (HR.out.below HB2.out (Nat.le_refl _))).mono ?_
   rintro e w3 ⟨rfl,hb⟩
   have HB3:=hid (HB2.out.trans (hb.mono HB2.out.size))
   clear hb k34
   cases hg2:good m.stat.gid with
   |false=>
    have HGF:=hid (show m.good .stat=false from by rw[HGS.out,HG0.out,HG1.out,hg2];rfl)
    clear hg2
    go_wp2_with fail
    go_ret
    exact⟨cZ HGF.out.symm,HB3.out⟩
   |true=>
    have HG2:=hid hg2
    clear hg2
    have k35:w3.cell? ⟨q,35,none⟩=some (.string m.stat.fE):=Blk.cell (Blk.below HM.out HB3.out (Blk.lt HM.out)) 35
    go_wp2_with fail
    refine(gu m.stat.fE w3 (HR.out.below HB3.out (Nat.le_refl _))).mono ?_
    rintro e w4 ⟨rfl,hb⟩
    have HB4:=hid (HB3.out.trans (hb.mono HB3.out.size))
    clear hb k35
    cases hg3:good m.stat.fE with
    |false=>
     have HGF:=hid (show m.good .stat=false from by rw[HGS.out,HG0.out,HG1.out,HG2.out,hg3];rfl)
     clear hg3
     go_wp2_with fail
     go_ret
     exact⟨cZ HGF.out.symm,HB4.out⟩
    |true=>
     have HG3:=hid hg3
     clear hg3
     have HGT:=hid (show m.good .stat=true from by rw[HGS.out,HG0.out,HG1.out,HG2.out,HG3.out];rfl)
     go_wp2_with fail
     go_ret
     exact⟨cZ HGT.out.symm,HB4.out⟩
theorem CV(f:Fld){w:World}{q b:Nat}{m:Mg}{vn vq vd:Value}(h:aK w q m vn vq vd)(hl:Lists w w.heap.size m vn vq vd)(hc:yC w f b)(hr:Ready w):
  Calls Tryz.prog f.kg (#[.pointer (some ⟨q,0,none⟩)]++f.sO b) w fun e w'=>e= .returned (.bool (m.good f))∧Below w.heap.size w w':=by
 cases f
 case bI=>refine(eG q w).mono ?_;rintro e w' ⟨he,rfl⟩;exact⟨he,Below.refl _ _⟩
 case version=>exact lu (aS .version rfl) (aZ .version rfl q) (hc.1 rfl) (Blk.cell h 3) hr
 case dB=>refine(eG q w).mono ?_;rintro e w' ⟨he,rfl⟩;exact⟨he,Below.refl _ _⟩
 case uname=>exact lu (aS .uname rfl) (aZ .uname rfl q) (hc.1 rfl) (Blk.cell h 5) hr
 case bF=>exact lu (aS .bF rfl) (aZ .bF rfl q) (hc.1 rfl) (Blk.cell h 6) hr
 case bH=>exact lu (aS .bH rfl) (aZ .bH rfl q) (hc.1 rfl) (Blk.cell h 7) hr
 case aT=>refine(eG q w).mono ?_;rintro e w' ⟨he,rfl⟩;exact⟨he,Below.refl _ _⟩
 case fid=>refine(eG q w).mono ?_;rintro e w' ⟨he,rfl⟩;exact⟨he,Below.refl _ _⟩
 case aU=>refine(eG q w).mono ?_;rintro e w' ⟨he,rfl⟩;exact⟨he,Below.refl _ _⟩
 case names=>exact uN h hl.n hr
 case aV=>refine(wJ h hl.q).mono ?_;rintro e w' ⟨he,rfl⟩;exact⟨he,Below.refl _ _⟩
 case qid=>refine(eG q w).mono ?_;rintro e w' ⟨he,rfl⟩;exact⟨he,Below.refl _ _⟩
 case mode=>refine(eG q w).mono ?_;rintro e w' ⟨he,rfl⟩;exact⟨he,Below.refl _ _⟩
 case aQ=>refine(eG q w).mono ?_;rintro e w' ⟨he,rfl⟩;exact⟨he,Below.refl _ _⟩
 case name=>exact lu (aS .name rfl) (aZ .name rfl q) (hc.1 rfl) (Blk.cell h 18) hr
 case perm=>refine(eG q w).mono ?_;rintro e w' ⟨he,rfl⟩;exact⟨he,Below.refl _ _⟩
 case offset=>refine(eG q w).mono ?_;rintro e w' ⟨he,rfl⟩;exact⟨he,Below.refl _ _⟩
 case count=>refine(eG q w).mono ?_;rintro e w' ⟨he,rfl⟩;exact⟨he,Below.refl _ _⟩
 case data=>refine(eG q w).mono ?_;rintro e w' ⟨he,rfl⟩;exact⟨he,Below.refl _ _⟩
 case stat=>exact wK h hr
theorem jc{w:World}{base p lim q b o K:Nat}{st:Option (List UInt8)}{op:List Nat}{n:Nat}(hn:n<4294967296)(hent:∀args w,Sem.run Tryz.prog (callFunc K args) w= .ok (.enter K args) w)(hat:∀w,Calls Tryz.prog K #[.pointer (some ⟨q,0,none⟩)] w fun e w'=>e= .returned (.pointer (some ⟨q,o,none⟩))∧w=w')(hc:Blk w b 135 #[fv K #[]])(ks:w.cell? ⟨q,o,none⟩=some (.int .u32 (n:Int)))(h:WrS w base p lim st op):
  Calls Tryz.prog 127 #[.pointer (some ⟨p,0,none⟩),.pointer (some ⟨q,0,none⟩),.pointer (some ⟨b,0,none⟩)] w fun e w'=>e= .returned (.tuple #[])∧WrS w' base p lim (dV lim st (le 4 n)) op∧Wk base w w':=by
 have HAT:=hid (hat w)
 have HP:=hid (iY n hn h)
 have kb:w.cell? ⟨b,0,none⟩=_:=hc.cell 0
 clear hat hc h hn
 go_enter Tryz.func127,Tryz.ntmps127
 go_wp2_with fail
 refine HAT.out.mono ?_
 rintro e w' ⟨rfl,rfl⟩
 go_wp2_with fail
 refine HP.out.mono ?_
 rintro e w' ⟨rfl,hs,hb⟩
 have HS:=hid (And.intro hs hb)
 clear hs hb
 go_wp2_with fail
 go_end0
 exact⟨rfl,HS.out⟩
theorem lC{w:World}{base p lim q b o K:Nat}{st:Option (List UInt8)}{op:List Nat}{s:ByteArray}(hz:s.size≤1099511627776)(hent:∀args w,Sem.run Tryz.prog (callFunc K args) w= .ok (.enter K args) w)(hat:∀w,Calls Tryz.prog K #[.pointer (some ⟨q,0,none⟩)] w fun e w'=>e= .returned (.pointer (some ⟨q,o,none⟩))∧w=w')(hc:Blk w b 138 #[fv K #[]])(ks:w.cell? ⟨q,o,none⟩=some (.string s))(hr:Ready w)(h:WrS w base p lim st op):
  Calls Tryz.prog 134 #[.pointer (some ⟨p,0,none⟩),.pointer (some ⟨q,0,none⟩),.pointer (some ⟨b,0,none⟩)] w fun e w'=>e= .returned (.tuple #[])∧WrS w' base p lim (oK lim st s) op∧Wk base w w':=by
 have HAT:=hid (hat w)
 have HP:=hid (nV s hr hz h)
 have kb:w.cell? ⟨b,0,none⟩=_:=hc.cell 0
 clear hat hc h hr hz
 go_enter Tryz.func134,Tryz.ntmps134
 go_wp2_with fail
 refine HAT.out.mono ?_
 rintro e w' ⟨rfl,rfl⟩
 go_wp2_with fail
 refine HP.out.mono ?_
 rintro e w' ⟨rfl,hs,hb⟩
 have HS:=hid (And.intro hs hb)
 clear hs hb
 go_wp2_with fail
 go_end0
 exact⟨rfl,HS.out⟩
theorem EC{w:World}{base p lim q:Nat}{st:Option (List UInt8)}{op:List Nat}{m:Mg}{vn vq vd:Value}(hm:aK w q m vn vq vd)(hn:m.aT<65536)(h:WrS w base p lim st op):
  Calls Tryz.prog 143 #[.pointer (some ⟨p,0,none⟩),.pointer (some ⟨q,0,none⟩)] w fun e w'=>e= .returned (.tuple #[])∧WrS w' base p lim (dV lim st (le 2 m.aT)) op∧Wk base w w':=by
 have k0:w.cell? ⟨q,8,none⟩=_:=Blk.cell hm 8
 have HP:=hid (lg m.aT hn h)
 clear hm h hn
 go_enter Tryz.func143,Tryz.ntmps143
 go_wp2_with fail
 refine HP.out.mono ?_
 rintro e w' ⟨rfl,hs,hb⟩
 have HS:=hid (And.intro hs hb)
 clear hs hb
 go_wp2_with fail
 go_end0
 exact⟨rfl,HS.out⟩
theorem KC{w:World}{base p lim q:Nat}{st:Option (List UInt8)}{op:List Nat}{m:Mg}{vn vq vd:Value}(hm:aK w q m vn vq vd)(hn:m.mode<256)(h:WrS w base p lim st op):
  Calls Tryz.prog 148 #[.pointer (some ⟨p,0,none⟩),.pointer (some ⟨q,0,none⟩)] w fun e w'=>e= .returned (.tuple #[])∧WrS w' base p lim (dV lim st (le 1 m.mode)) op∧Wk base w w':=by
 have k0:w.cell? ⟨q,16,none⟩=_:=Blk.cell hm 16
 have HP:=hid (qO m.mode hn h)
 clear hm h hn
 go_enter Tryz.func148,Tryz.ntmps148
 go_wp2_with fail
 refine HP.out.mono ?_
 rintro e w' ⟨rfl,hs,hb⟩
 have HS:=hid (And.intro hs hb)
 clear hs hb
 go_wp2_with fail
 go_end0
 exact⟨rfl,HS.out⟩
theorem ED{w:World}{base p lim q:Nat}{st:Option (List UInt8)}{op:List Nat}{m:Mg}{vn vq vd:Value}(hm:aK w q m vn vq vd)(hn:m.offset<18446744073709551616)(h:WrS w base p lim st op):
  Calls Tryz.prog 153 #[.pointer (some ⟨p,0,none⟩),.pointer (some ⟨q,0,none⟩)] w fun e w'=>e= .returned (.tuple #[])∧WrS w' base p lim (dV lim st (le 8 m.offset)) op∧Wk base w w':=by
 have k0:w.cell? ⟨q,20,none⟩=_:=Blk.cell hm 20
 have HP:=hid (oU m.offset hn h)
 clear hm h hn
 go_enter Tryz.func153,Tryz.ntmps153
 go_wp2_with fail
 refine HP.out.mono ?_
 rintro e w' ⟨rfl,hs,hb⟩
 have HS:=hid (And.intro hs hb)
 clear hs hb
 go_wp2_with fail
 go_end0
 exact⟨rfl,HS.out⟩
theorem NY{w:World}{base p lim q:Nat}{st:Option (List UInt8)}{op:List Nat}{m:Mg}{vn vq vd:Value}(hm:aK w q m vn vq vd)(hn:m.qid.ok)(h:WrS w base p lim st op):
  Calls Tryz.prog 170 #[.pointer (some ⟨p,0,none⟩),.pointer (some ⟨q,0,none⟩)] w fun e w'=>e= .returned (.tuple #[])∧WrS w' base p lim (dV lim st (kR m.qid)) op∧Wk base w w':=by
 have k0:w.cell? ⟨q,13,none⟩=some (.int .u8 (m.qid.kind:Int)):=Blk.cell hm 13
 have k1:w.cell? ⟨q,14,none⟩=some (.int .u32 (m.qid.vers:Int)):=Blk.cell hm 14
 have k2:w.cell? ⟨q,15,none⟩=some (.int .u64 (m.qid.path:Int)):=Blk.cell hm 15
 have HP:=hid (nX m.qid hn h)
 clear hm h hn
 go_enter Tryz.func170,Tryz.ntmps170
 go_wp2_with fail
 refine HP.out.mono ?_
 rintro e w' ⟨rfl,hs,hb⟩
 have HS:=hid (And.intro hs hb)
 clear hs hb
 go_wp2_with fail
 go_end0
 exact⟨rfl,HS.out⟩
theorem KD{w:World}{base p lim q:Nat}{st:Option (List UInt8)}{op:List Nat}{m:Mg}{vn vq vd:Value}(hm:aK w q m vn vq vd)(hq:q<base)(hd:Bys w base vd m.data)(hn:m.data.length<4294967296)(h:WrS w base p lim st op):
  Calls Tryz.prog 160 #[.pointer (some ⟨p,0,none⟩),.pointer (some ⟨q,0,none⟩)] w fun e w'=>e= .returned (.tuple #[])∧WrS w' base p lim (dV lim st (le 4 m.data.length++m.data)) op∧Wk base w w':=by
 have HD:=hid hd
 have HM:=hid hm
 have HN:=hid hq
 obtain⟨A,c,rfl,hc,hmx, -⟩:=hd
 have k0:w.cell? ⟨q,22,none⟩=some (.slice A m.data.length c):=Blk.cell HM.out 22
 have HP:=hid (iY m.data.length hn h)
 clear hm h hq
 go_enter Tryz.func160,Tryz.ntmps160
 go_wp2_with fail
 refine HP.out.mono ?_
 rintro e w1 ⟨rfl,hs,hb⟩
 have HS:=hid hs
 have HB:=hid hb
 clear hs hb k0
 have k0:w1.cell? ⟨q,22,none⟩=some (.slice A m.data.length c):=Blk.cell (Blk.below HM.out HB.out.low HN.out) 22
 go_wp2_with fail
 refine(B_ (.slice A m.data.length c) m.data (HD.out.below HB.out.low) HS.out).mono ?_
 rintro e w2 ⟨rfl,hs,hb⟩
 have HS2:=hid hs
 have HB2:=hid (HB.out.trans hb)
 clear hs hb k0
 go_wp2_with fail
 go_end0
 refine⟨rfl, ?_,HB2.out⟩
 rw[←jm]
 exact HS2.out
theorem IJ{w:World}{base p lim q:Nat}{st:Option (List UInt8)}{op:List Nat}{m:Mg}{vn vq vd:Value}(hm:aK w q m vn vq vd)(hl:iW w base vn m.names)(h16:m.names.length≤65535)(hg:∀x∈m.names,good x=true∧x.size≤1099511627776)(hr:Ready w)(h8:8≤base)(hlim:lim≤65536)(h:WrS w base p lim st op):
  Calls Tryz.prog 210 #[.pointer (some ⟨p,0,none⟩),.pointer (some ⟨q,0,none⟩)] w fun e w'=>e= .returned (.tuple #[])∧WrS w' base p lim (dV lim st (le 2 m.names.length++m.names.flatMap fP)) op∧Wk base w w':=by
 have hmf:=iF
 have HP:=hid (vZ vn m.names hl h16 hg hr h8 hlim h)
 obtain⟨A,c,rfl,hc,hmx, -⟩:=hl
 have k0:w.cell? ⟨q,11,none⟩=some (.slice A m.names.length c):=Blk.cell hm 11
 clear hm h hr hg
 go_enter Tryz.func210,Tryz.ntmps210
 go_wp2_with fail
 refine HP.out.mono ?_
 rintro e w' ⟨rfl,hs,hb⟩
 have HS:=hid (And.intro hs hb)
 clear hs hb
 go_wp2_with fail
 go_end0
 exact⟨rfl,HS.out⟩
theorem KE{w:World}{base p lim q:Nat}{st:Option (List UInt8)}{op:List Nat}{m:Mg}{vn vq vd:Value}(hm:aK w q m vn vq vd)(hs:m.stat.ok)(hg:m.stat.good=true)(hz:dY m.stat≤1099511627776)(hr:Ready w)(h8:8≤base)(hlim:lim≤65536)(h:WrS w base p lim st op)(hop:op.length<15):
  Calls Tryz.prog 234 #[.pointer (some ⟨p,0,none⟩),.pointer (some ⟨q,0,none⟩)] w fun e w'=>e= .returned (.tuple #[])∧WrS w' base p lim (dV lim st (le 2 (dY m.stat)++kX m.stat)) op∧Wk base w w':=by
 have HP:=hid (yB m.stat hs hg hz hr h8 hlim h hop)
 have HM:=hid hm
 clear hm h hr hg hs hz
 go_enter Tryz.func234,Tryz.ntmps234
 go_wp2_with(refine wlw HM.out 23 (stL m.stat) rfl rfl _ _ rfl rfl _ Tryz.underlying39 rfl bP ?_)
 refine HP.out.mono ?_
 rintro e w' ⟨rfl,hs,hb⟩
 have HS:=hid (And.intro hs hb)
 clear hs hb
 go_wp2_with fail
 go_end0
 exact⟨rfl,HS.out⟩
theorem KF{w:World}{base p lim q:Nat}{st:Option (List UInt8)}{op:List Nat}{m:Mg}{vn vq vd:Value}(hm:aK w q m vn vq vd)(hl:lX w base vq m.aV)(h16:m.aV.length≤65535)(hg:∀x∈m.aV,x.ok)(h:WrS w base p lim st op):
  Calls Tryz.prog 221 #[.pointer (some ⟨p,0,none⟩),.pointer (some ⟨q,0,none⟩)] w fun e w'=>e= .returned (.tuple #[])∧WrS w' base p lim (dV lim st (le 2 m.aV.length++m.aV.flatMap kR)) op∧Wk base w w':=by
 have hmf:=iF
 have hup:Below w.heap.size w (w.alloc (.cells #[.pointer (some ⟨p,0,none⟩)] 117)).drew:=((Below.refl _ _).alloc (Nat.le_refl _) _).drew
 have HS:=hid (h.below hup)
 have HB:=hid (((Wk.refl base w).alloc h.le (.cells #[.pointer (some ⟨p,0,none⟩)] 117)).drew)
 have HC:=hid (show Blk (w.alloc (.cells #[.pointer (some ⟨p,0,none⟩)] 117)).drew w.heap.size 117 #[.pointer (some ⟨p,0,none⟩)]from Blk.new w _ _)
 have HL:=hid (hl.below (hup.mono h.le))
 have HM:=hid (Blk.below hm hup (Blk.lt hm))
 have HG:=hid (And.intro h16 hg)
 obtain⟨A,c,rfl,hc,hmx, -⟩:=hl
 clear hm h hg hup
 go_enter Tryz.func221,Tryz.ntmps221
 go_upto_region 1 with(fail)
 generalize w.alloc (.cells #[.pointer (some ⟨p,0,none⟩)] 117)=w1 at HS HB HC HL HM⊢
 generalize w.heap.size=cb at HC⊢
 have k0:w1.drew.cell? ⟨cb,0,none⟩=some (.pointer (some ⟨p,0,none⟩)):=Blk.cell HC.out 0
 have k1:w1.drew.cell? ⟨q,12,none⟩=some (.slice A m.aV.length c):=Blk.cell HM.out 12
 go_region_held3 (fun w'=>w'.cell? ⟨cb,0,none⟩=some (.pointer (some ⟨p,0,none⟩))∧w'.cell? ⟨q,12,none⟩=some (.slice A m.aV.length c))
  (first|exact⟨k0,k1⟩|exact⟨j0,j1⟩)
  (first
  |(go_at_call 222;refine(wo (.slice A m.aV.length c) m.aV HL.out HG.out.1 HG.out.2 HC.out HS.out).mono ?_;rintro e w' ⟨rfl,hs,hb⟩;have HX:=hid (And.intro hs (HB.out.trans hb));have j0:w'.cell? ⟨cb,0,none⟩=some (.pointer (some ⟨p,0,none⟩)):=(Blk.cell (hb.blk HC.out (by decide) (by decide) (by decide)) 0);have j1:w'.cell? ⟨q,12,none⟩=some (.slice A m.aV.length c):=(Blk.cell (hb.blk HM.out (by decide) (by decide) (by decide)) 12)))
 go_wp2_with fail
 go_end0
 exact⟨rfl,HX.out⟩
theorem EF(f:Fld){w:World}{base p lim q b:Nat}{st:Option (List UInt8)}{op:List Nat}{m:Mg}{vn vq vd:Value}(h:aK w q m vn vq vd)(hq:q<base)(hl:Lists w base m vn vq vd)(hc:yC w f b)(hr:Ready w)(ho:m.ok)(hg:m.good f=true)(hz:m.long f≤1099511627776)(hz4:m.data.length<4294967296)(h8:8≤base)(hlim:lim≤65536)(hop:op.length<15)(hs:WrS w base p lim st op):
  Calls Tryz.prog f.kp (#[.pointer (some ⟨p,0,none⟩),.pointer (some ⟨q,0,none⟩)]++f.cap b) w fun e w'=>e= .returned (.tuple #[])∧WrS w' base p lim (dV lim st (m.bytes f)) op∧Wk base w w':=by
 cases f
 case bI=>exact jc ho.bI (aS .bI rfl) (aZ .bI rfl q) (hc.2 rfl rfl) (Blk.cell h 2) hs
 case version=>
  have hz':2+m.version.size≤1099511627776:=hz
  refine(lC (s:=m.version) (by omega) (aS .version rfl) (aZ .version rfl q) (hc.1 rfl) (Blk.cell h 3) hr hs).mono ?_
  rintro e w' ⟨he,h1,h2⟩
  rw[j_ (s:=m.version) hg hlim]at h1
  exact⟨he,h1,h2⟩
 case dB=>exact jc ho.dB (aS .dB rfl) (aZ .dB rfl q) (hc.2 rfl rfl) (Blk.cell h 4) hs
 case uname=>
  have hz':2+m.uname.size≤1099511627776:=hz
  refine(lC (s:=m.uname) (by omega) (aS .uname rfl) (aZ .uname rfl q) (hc.1 rfl) (Blk.cell h 5) hr hs).mono ?_
  rintro e w' ⟨he,h1,h2⟩
  rw[j_ (s:=m.uname) hg hlim]at h1
  exact⟨he,h1,h2⟩
 case bF=>
  have hz':2+m.bF.size≤1099511627776:=hz
  refine(lC (s:=m.bF) (by omega) (aS .bF rfl) (aZ .bF rfl q) (hc.1 rfl) (Blk.cell h 6) hr hs).mono ?_
  rintro e w' ⟨he,h1,h2⟩
  rw[j_ (s:=m.bF) hg hlim]at h1
  exact⟨he,h1,h2⟩
 case bH=>
  have hz':2+m.bH.size≤1099511627776:=hz
  refine(lC (s:=m.bH) (by omega) (aS .bH rfl) (aZ .bH rfl q) (hc.1 rfl) (Blk.cell h 7) hr hs).mono ?_
  rintro e w' ⟨he,h1,h2⟩
  rw[j_ (s:=m.bH) hg hlim]at h1
  exact⟨he,h1,h2⟩
 case aT=>exact EC h ho.aT hs
 case fid=>exact jc ho.fid (aS .fid rfl) (aZ .fid rfl q) (hc.2 rfl rfl) (Blk.cell h 9) hs
 case aU=>exact jc ho.aU (aS .aU rfl) (aZ .aU rfl q) (hc.2 rfl rfl) (Blk.cell h 10) hs
 case names=>
  have hg':(decide (m.names.length≤16)&&m.names.all good)=true:=hg
  rw[Bool.and_eq_true,decide_eq_true_iff,List.all_eq_true]at hg'
  have hz':2+(m.names.map fun s=>2+s.size).sum≤1099511627776:=hz
  exact IJ h hl.n (by omega) (fun x hx=>⟨hg'.2 x hx,by
   have:2+x.size≤_:=En (f:=fun s:ByteArray=>2+s.size) hx
   omega⟩) hr h8 hlim hs
 case aV=>
  have hg':decide (m.aV.length≤16)=true:=hg
  rw[decide_eq_true_iff]at hg'
  exact KF h hl.q (by omega) ho.aV hs
 case qid=>exact NY h ho.qid hs
 case mode=>exact KC h ho.mode hs
 case aQ=>exact jc ho.aQ (aS .aQ rfl) (aZ .aQ rfl q) (hc.2 rfl rfl) (Blk.cell h 17) hs
 case name=>
  have hz':2+m.name.size≤1099511627776:=hz
  refine(lC (s:=m.name) (by omega) (aS .name rfl) (aZ .name rfl q) (hc.1 rfl) (Blk.cell h 18) hr hs).mono ?_
  rintro e w' ⟨he,h1,h2⟩
  rw[j_ (s:=m.name) hg hlim]at h1
  exact⟨he,h1,h2⟩
 case perm=>exact jc ho.perm (aS .perm rfl) (aZ .perm rfl q) (hc.2 rfl rfl) (Blk.cell h 19) hs
 case offset=>exact ED h ho.offset hs
 case count=>exact jc ho.count (aS .count rfl) (aZ .count rfl q) (hc.2 rfl rfl) (Blk.cell h 21) hs
 case data=>exact KD h hq hl.d hz4 hs
 case stat=>
  have hz':2+dY m.stat≤1099511627776:=hz
  exact KE h ho.stat hg (by omega) hr h8 hlim hs hop
end Go.Proofs.YtkblmloobkiloaaGreatDoor
