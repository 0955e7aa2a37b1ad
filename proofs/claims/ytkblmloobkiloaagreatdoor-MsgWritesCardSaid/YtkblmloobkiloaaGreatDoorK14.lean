/-
  MWL MWK MFR MLO MRX MRY MUE MRZ MUF MSA MSB MUG MUH MSC MSD MUI MUJ MUK: what the laws of package msg need of them.
-/
import Derived.Test.YtkblmloobkiloaaGreatDoorK00
import Derived.Test.YtkblmloobkiloaaGreatDoorK08
import Derived.KernelRfl
import Derived.Test.YtkblmloobkiloaaGreatDoorK12
import Derived.Test.YtkblmloobkiloaaGreatDoorK13
import Derived.Test.YtkblmloobkiloaaGreatDoorK02
import Derived.Test.YtkblmloobkiloaaGreatDoorTie
import Derived.ProofKit
import Derived.OpenShut
import Derived.LaidMore
import Derived.Lay
import Derived.SevenTiedAt
import Derived.Stop.Joined
import Derived.HandedShaped
import Derived.Lib.LaidU8
import Derived.Lib.LaidTab
import Derived.Shelf.Vars
import Derived.Test.YtkblmloobkiloaaGreatDoorK11
import Derived.Test.YtkblmloobkiloaaGreatDoorK06
import Derived.IntWalk
import Derived.Test.YtkblmloobkiloaaGreatDoorK07
set_option maxRecDepth 100000
set_option maxHeartbeats 6400000
namespace Go.Proofs.YtkblmloobkiloaaGreatDoor
open Go.Lib (hid)
open Go.RowKit
theorem iW.new(w:World)(t:TypeId)(l:List ByteArray)(hl:l.length≤maxLen):iW (w.alloc (.cells (h_ l).toArray t)) (w.heap.size+1) (.slice (some ⟨w.heap.size,0,none⟩) l.length l.length) l:=
 ⟨_,_,rfl,Nat.le_refl _,hl,dI w t (h_ l) l.length 1 (by simp)⟩
theorem Bys.new(w:World)(t:TypeId)(l:List UInt8)(hl:l.length≤maxLen):Bys (w.alloc (.cells (aX l).toArray t)) (w.heap.size+1) (.slice (some ⟨w.heap.size,0,none⟩) l.length l.length) l:=
 ⟨_,_,rfl,Nat.le_refl _,hl,dI w t (aX l) l.length 1 (by simp)⟩
end Go.Proofs.YtkblmloobkiloaaGreatDoor
namespace Go.Proofs.YtkblmloobkiloaaGreatDoor
open Go.Lib (hid)
open Go.ChangeShapes Go.WideShapes Go.ChangeAt Go.RowKit
section
variable {H:Type} {enc:TypeId×Value→H}
end
theorem Wi:ownKnob Tryz.prog.godebug=none:=by kernel_rfl
theorem MX:laidOutB Tryz.prog=true:=by kernel_rfl
theorem MZ:(Rows.laid_unicode_utf8_first:DataW Unit)=Lib.firstData:=by kernel_rfl
theorem Jz:(Rows.laid_unicode_utf8_acceptRanges:DataW Unit)=Lib.acceptData:=by kernel_rfl
section
variable {H:Type} {enc:TypeId×Value→H}
theorem xU{a:Assume}{C:Checked}{os:Os}{f:FuncId}{fn:Func}{s:ChangeSpec}{conds:List PathCond}{apart fresh handsOn again:Bool}{X:World→Array Value→Prop}
  (hX:∀(w w':World) (args:Array Value),w.heap=w'.heap→X w args→X w' args)
  (own:ownKnob C.prog.godebug=none) (started:os.Started) (noInit:C.prog.inits.idxOf? f=none) (hfn:C.prog.funcs[f]? =some fn)
  (witness:∃(w:World) (tape:Tape) (i:Input),w.os=os∧(w.forCall tape i).Shaped C.prog∧i.vars=[]∧Input.okWide C.prog (w.forCall tape i) .any w.heap.size f i∧
   ((s.pre enc C.prog fn conds apart (w.forCall tape i).memory i.args∧X (w.forCall tape i).memory i.args)∧sizedMet enc C.prog fn (OpenSpec.ofChange s) apart (w.forCall tape i).memory i.args)∧a.holds C.prog (lone (Frame.enter C.prog f i.args .normal) [] (w.forCall tape i)))
  (contract:∀(W:World) (base:Nat) (args:Array Value) (ds gs:List (DataW H)) (before:List MemPlace),
   (∀(j:Nat) t v,fn.params[j]? =some t→args[j]? =some v→Value.okWide C.prog W .any base t v)→
   DataW.Whole enc C.prog fn.params.toList s.vars apart W args.toList ds gs before→
   (DataW.weightsEach C.prog (fn.params.toList++s.plain.varTypes C.prog) (ds++gs)).all (· ≤reachBytes)=true→
   X W args→W.ShapedOpen C.prog→
   Calls C.prog f args W fun e W'=>∃v,e= .returned v∧s.post enc C.prog fn apart fresh handsOn again W args v W'):
  ReturnsInHanded a C os f .any (fun w args=>(s.pre enc C.prog fn conds apart w args∧X w args)∧sizedMet enc C.prog fn (OpenSpec.ofChange s) apart w args) (s.post enc C.prog fn apart fresh handsOn again):=by
 refine returnsInHanded_of_calls own started noInit witness ?_
 intro w tape i _ hsh _ hok hpre hholds
 obtain⟨_,_,_,fn',hfn',_,_,_,_,hval⟩:=hok
 have e:fn'=fn:=Option.some.inj (hfn'.symm.trans hfn)
 subst e
 obtain⟨⟨⟨ds,gs,before,hw,hc⟩,hx⟩,hz⟩:=hpre
 have hw':=DataW.Whole.of_heap (w':=w.forCall tape i) (by rfl) hw
 refine(contract (w.forCall tape i) w.heap.size i.args ds gs before hval hw' (hz.weights hw) (hX _ _ _ (by rfl) hx) hsh).mono fun e W' ⟨v,he,hp⟩=> ?_
 subst he
 exact ChangeSpec.post_blind hp
end
abbrev DZ:List (String×DataW Unit):=[("math/bits.deBruijn32tab",Rows.laid_math_bits_deBruijn32tab),("math/bits.deBruijn64tab",Rows.laid_math_bits_deBruijn64tab),("internal/strconv.uint64pow10",Rows.laid_internal_strconv_uint64pow10),("unicode/utf8.acceptRanges",Rows.laid_unicode_utf8_acceptRanges),("strconv.ErrRange",Rows.laid_strconv_ErrRange),("strconv.ErrSyntax",Rows.laid_strconv_ErrSyntax),("unicode/utf8.first",Rows.laid_unicode_utf8_first)]
theorem M_{W:World}{g:Nat}{nm:String}{d:DataW Unit}(hg:Tryz.prog.globalNamed nm=some g)(ht:(Tryz.prog.globals[g]?).map (·.type)=some 186)(hd:∃u x,d= .iface u x)(h:Lib.VarReads Tryz.prog W nm d):∃ev,W.cell? ⟨g,0,none⟩=some ev∧(ev= .nilIface∨∃te pe,ev= .iface te pe):=by
 obtain⟨g',t,cs,fuel,p,h1,h2,h3,h4⟩:=h
 obtain rfl:g=g':=Option.some.inj (hg.symm.trans h1)
 obtain rfl:186=t:=Option.some.inj (ht.symm.trans h2)
 obtain⟨u,x,rfl⟩:=hd
 obtain⟨fuel',u,v,hcs, -, -⟩:=iface_of_trod (H:=Unit) Tryz.underlying186 h4
 have hc:=World.var?_cell h1 h3 0
 refine⟨.iface u v, ?_,.inr ⟨u,v,rfl⟩⟩
 rw[hc]
 have:cs= #[.iface u v]:=by
  rw[←Array.toList_inj,hcs]
 rw[this]
 rfl
theorem pow_eq:(Rows.laid_internal_strconv_uint64pow10:DataW Unit)=Lib.tabData .u64 Lib.pow10Tab:=by kernel_rfl
theorem Ui{W:World}(h:Lib.VarReads Tryz.prog W "internal/strconv.uint64pow10" Rows.laid_internal_strconv_uint64pow10):TP W:=by
 rw[pow_eq]at h
 obtain⟨g,t,cs,fuel,p,h1,h2,h3,h4⟩:=h
 obtain rfl:0=g:=Option.some.inj ((show Tryz.prog.globalNamed "internal/strconv.uint64pow10" =some 0 from by kernel_rfl).symm.trans h1)
 obtain rfl:244=t:=Option.some.inj ((show(Tryz.prog.globals[0]?).map (·.type)=some 244 from by kernel_rfl).symm.trans h2)
 have hc:=Lib.cells_of_tab (P:=Tryz.prog) (n:=20) (e:=35) Tryz.underlying244 Tryz.underlying35 (by kernel_rfl) (by kernel_rfl) h4
 unfold TP Lib.TabIs
 rw[h3,←hc]
structure kN(W:World):Prop where
 rd:Ready W
 se:SE W
 tp:TP W
theorem JA{W:World}(hL:laidMetH Tryz.prog DZ W)(hS:W.ShapedOpen Tryz.prog):kN W:=by
 rw[MakeChecks.laidMetH_plain _ _ _ (by kernel_rfl)]at hL
 have h1:=Lib.laidMet.reads hL (.tail _ (.tail _ (.tail _ (.head _))))
 have h2:=Lib.laidMet.reads hL (.tail _ (.tail _ (.tail _ (.tail _ (.tail _ (.tail _ (.head _)))))))
 have h3:=Lib.laidMet.reads hL (.tail _ (.tail _ (.head _)))
 have h4:=Lib.laidMet.reads hL (.tail _ (.tail _ (.tail _ (.tail _ (.tail _ (.head _))))))
 have h5:=Lib.laidMet.reads hL (.tail _ (.tail _ (.tail _ (.tail _ (.head _)))))
 rw[Jz]at h1
 rw[MZ]at h2
 exact⟨⟨utf8Tabs_of_reads Tryz.lays260 ⟨by kernel_rfl,by kernel_rfl,by kernel_rfl,by kernel_rfl,by kernel_rfl,by kernel_rfl,by kernel_rfl⟩ h2 h1,
  cell_of_shapedOpen_int (t:=3) (zero:= #[.int .i64 0]) hS (of_decide_eq_true (by kernel_rfl)) (by kernel_rfl) rfl (by kernel_rfl) (by kernel_rfl) Tryz.underlying3⟩,
  ⟨M_ (by kernel_rfl) (by kernel_rfl) ⟨_,_,rfl⟩ h4,M_ (by kernel_rfl) (by kernel_rfl) ⟨_,_,rfl⟩ h5⟩,Ui h3⟩
theorem kN.low{w w':World}{B:Nat}(h:kN w)(hb:Below B w w')(hB:8≤B):kN w':=⟨h.rd.low hb hB,h.se.low hb hB,h.tp.low hb hB⟩
theorem kN.next{w w':World}(h:kN w)(hb:Below w.heap.size w w'):kN w':=h.low hb h.rd.eight
end Go.Proofs.YtkblmloobkiloaaGreatDoor
namespace Go.Proofs.YtkblmloobkiloaaGreatDoor
open Go.Lib (hid)
open Go.RowKit
structure LS(w0 w:World):Prop where
 up:Below w0.heap.size w0 w
 wd:kN w
theorem LS.next{w0 w w':World}(h:LS w0 w)(hb:Below w.heap.size w w'):LS w0 w':=⟨h.up.trans (hb.mono h.up.size),h.wd.next hb⟩
theorem LS.start{w:World}(h:kN w):LS w w:=⟨Below.refl _ _,h⟩
theorem LS.bys{w0 w:World}{v:Value}{x:List UInt8}(h:LS w0 w)(hx:Bys w0 w0.heap.size v x):Bys w w.heap.size v x:=(hx.below h.up).more h.up.size
def BdS(w:World)(p:Nat)(hv:Value)(x:List UInt8)(st:Option (List UInt8)):Prop:=
 ∃(a:Nat) (b:Bool),Blk w p 97 #[hv,.int .i64 (a:Int),.bool b]∧a≤x.length∧x.length≤16777216∧st=if b then none else some (x.drop a)
theorem BdS.below{w w':World}{p:Nat}{hv:Value}{x:List UInt8}{st:Option (List UInt8)}(h:BdS w p hv x st)(hb:Below w.heap.size w w'):BdS w' p hv x st:=by
 obtain⟨a,b,h1,h2⟩:=h
 exact⟨a,b,Blk.below h1 hb (Blk.lt h1),h2⟩
theorem BdS.off{S:Nat→Prop}{w w':World}{p:Nat}{hv:Value}{x:List UInt8}{st:Option (List UInt8)}(h:BdS w p hv x st)(ho:Off S w w')(hp:¬S p):BdS w' p hv x st:=by
 obtain⟨a,b,h1,h2⟩:=h
 exact⟨a,b,ho.blk h1 hp,h2⟩
theorem D5(v:Value)(l:List ByteArray)(w:World)(hl:iW w w.heap.size v l)(hz:∀s∈l,s.size≤16777216):
  Calls Tryz.prog 107 #[v] w fun e w'=>e= .returned (.bool (l.all good))∧w=w':=by
 have HL:=hid hl
 have HZ:=hid hz
 obtain⟨A,c,rfl,h1,h2, -⟩:=hl
 have h3:l.length≤9223372036854775807:=by unfold maxLen at h2;omega
 clear h1 h2 hz
 go_enter Tryz.func107,Tryz.ntmps107
 go_upto_region 2 with(fail)
 go_loopw [3,4] (fun i _ wr=>wr=w∧∃k:Nat,k≤l.length∧i= .int .i64 (k:Int)∧l.all good=(l.drop k).all good) (fun i _ _=>l.length-(intOf i).toNat)
 case atStart=>exact⟨rfl,0,Nat.zero_le _,rfl,rfl⟩
 case round=>
  obtain⟨rfl,k,hk,rfl,hg⟩:=hrel
  have HG:=hid hg
  clear hg
  by_cases hlt:k<l.length
  ·obtain⟨x,hx⟩:∃x,l[k]? =some x:=⟨l[k],List.getElem?_eq_getElem _⟩
   obtain⟨ad,rfl, -,kx⟩:=HL.out.at_ hx
   have hxs:=HZ.out x (List.mem_of_getElem? hx)
   have HD:=hid (show(l.drop k).all good=(good x&&(l.drop (k+1)).all good)from by
    obtain⟨hh,rfl⟩:=List.getElem?_eq_some_iff.1 hx
    rw[List.drop_eq_getElem_cons hh,List.all_cons])
   clear hx
   go_wp2_with fail
   refine(qM x wr hxs).mono ?_
   rintro e w2 ⟨rfl,rfl⟩
   cases hq:good x with
   |true=>
    have HQ:=hid (show l.all good=(l.drop (k+1)).all good from by rw[HG.out,HD.out,hq];rfl)
    clear hq
    go_wp2_with fail
    go_roundw
    case rel=>exact⟨by trivial,k+1,by omega,by go_num,HQ.out⟩
    case measure=>simp[intOf];omega
   |false=>
    have HQ:=hid (show l.all good=false from by rw[HG.out,HD.out,hq];rfl)
    clear hq
    go_wp2_with fail
    refine bodyPost_ret (v:= .bool false) (by simp[results,Tryz.results107]) rfl ⟨by rw[HQ.out],rfl⟩
  ·have hkk:k=l.length:=by omega
   subst hkk
   rw[List.drop_length]at HG
   clear hlt hk
   go_wp2_with fail
   refine bodyPost_ret (v:= .bool true) (by simp[results,Tryz.results107]) rfl ⟨by rw[HG.out]<;>rfl,rfl⟩
theorem BdS.bad{w:World}{p:Nat}{hv:Value}{x:List UInt8}{st:Option (List UInt8)}(h:BdS w p hv x st):BdS (w.setCell ⟨p,2,none⟩ (.bool true)) p hv x none:=by
 obtain⟨a,b,hb,ha,hz, -⟩:=h
 exact⟨a,true,Blk.aW hb 2 (.bool true),ha,hz,rfl⟩
theorem Off.bys{w w':World}{S:Nat→Prop}{B:Nat}{v:Value}{l:List UInt8}(h:Bys w B v l)(ho:Off S w w')(hB:B≤w.heap.size)(hS:∀i,S i→B≤i):Bys w' B v l:=
 h.keep fun q hq=>World.cell?_of_block (ho.block _ (Nat.lt_of_lt_of_le hq hB) (fun hi=>by have:=hS _ hi;omega))
theorem XZ.then{α β:Type}{o:Except Nat (α×List UInt8)}{x:α}{st1:Except Nat (List UInt8)}(h:XZ o x st1)(f:α→List UInt8→Except Nat β):(o >>= fun p=>f p.1 p.2)=(st1 >>= fun l=>f x l):=by
 unfold XZ at h
 cases o with
 |error k=>subst h;rfl
 |ok p=>obtain⟨h1,h2⟩:=h;subst h1 h2;rfl
theorem ZH{β:Type}(u:ByteArray)(st:Except Nat (List UInt8))(f:List UInt8→Except Nat β):(st >>= fun l=>dQ u.data.toList l >>= f)=(Ye u st >>= f):=by
 cases st<;>rfl
theorem XZ.last{α:Type}(x:α)(st:Except Nat (List UInt8)):XZ (st >>= fun l=> .ok (x,l)) x st:=by
 cases st with
 |error k=>rfl
 |ok l=>exact⟨rfl,rfl⟩
theorem iW.keep{w w':World}{B:Nat}{v:Value}{l:List ByteArray}(h:iW w B v l)(hk:∀p:Addr,p.block<B→w'.cell? p=w.cell? p):iW w' B v l:=by
 obtain⟨A,c,e,h1,h2,h3⟩:=h
 exact⟨A,c,e,h1,h2,h3.keep hk⟩
def Ch{β:Type}(r:Except Nat β)(st:Except Nat (List UInt8))(f:List UInt8→Except Nat β):Prop:=r=(st >>= f)
theorem Ch.word{β:Type}{r:Except Nat β}{st:Except Nat (List UInt8)}{f:List UInt8→Except Nat β}(u:ByteArray)(h:Ch r st (fun l=>dQ u.data.toList l >>= f)):Ch r (Ye u st) f:=by
 unfold Ch at*
 rw[h,ZH]
theorem Ch.part{α β:Type}{r:Except Nat β}{st st1:Except Nat (List UInt8)}{p:List UInt8→Except Nat (α×List UInt8)}{f:α×List UInt8→Except Nat β}{x:α}(h:Ch r st (fun l=>p l >>= f))(g:XZ (st >>= p) x st1):Ch r st1 (fun l=>f (x,l)):=by
 unfold Ch XZ at*
 cases st with
 |error k=>subst h;subst g;rfl
 |ok l=>
  rw[h]
  show(p l >>= f)=_
  change(match p l with| .ok (t,r)=>x=t∧st1= .ok r| .error k=>st1= .error k)at g
  cases hp:p l with
  |error k=>rw[hp]at g;rw[g];rfl
  |ok q=>rw[hp]at g;rw[g.1,g.2];rfl
theorem Ch.end_{α:Type}{r:Except Nat (α×List UInt8)}{st:Except Nat (List UInt8)}{x:α}(h:Ch r st (fun l=> .ok (x,l))):XZ r x st:=by
 unfold Ch at h
 rw[h]
 exact XZ.last x st
theorem Y8{w0 w w':World}{S:Nat→Prop}{z:Nat}(h:Off S w0 w)(ho:Off (fun i=>i=z) w w')(hz:w0.heap.size≤z):Off S w0 w':=
 ⟨ho.os.trans h.os,ho.tape.trans h.tape,ho.output.trans h.output,Nat.le_trans h.size ho.size,fun i hi hn=>(ho.block i (Nat.lt_of_lt_of_le hi h.size) (fun e=>by have e:i=z:=e;omega)).trans (h.block i hi hn)⟩
structure PtS(w0 w:World)(p z:Nat)(s:ByteArray)(st:Except Nat (List UInt8))(t:TypeId)(cs:Array Value)(u:TypeId)(rs:Array Value)(y:Nat):Prop where
 ln:RwS w p s st
 zb:Blk w z t cs
 rb:Blk w y u rs
 of_:Off (fun i=>i=p) w0 w
 pz:p<w0.heap.size
 bz:w0.heap.size≤z
 by_:w0.heap.size≤y
section
variable {w0 w w':World} {p z y:Nat} {s:ByteArray} {st st':Except Nat (List UInt8)} {t u:TypeId} {cs rs:Array Value}
theorem PtS.call(h:PtS w0 w p z s st t cs u rs y)(hs:RwS w' p s st')(ho:Off (fun i=>i=p) w w'):PtS w0 w' p z s st' t cs u rs y:=by
 have h1:=h.pz
 have h2:=h.bz
 have h3:=h.by_
 exact⟨hs,ho.blk h.zb (fun e=>by have e:z=p:=e;omega),ho.blk h.rb (fun e=>by have e:y=p:=e;omega),h.of_.trans ho,h1,h2,h3⟩
theorem PtS.set(h:PtS w0 w p z s st t cs u rs y)(k:Nat)(v:Value)(hzy:z≠y):PtS w0 (w.setCell ⟨z,k,none⟩ v) p z s st t (cs.setIfInBounds k v) u rs y:=by
 have h1:=h.pz
 have h2:=h.bz
 have h3:=h.by_
 have ho:Off (fun i=>i=z) w (w.setCell ⟨z,k,none⟩ v):=(Off.refl (fun i=>i=z) w).setCell (p:=⟨z,k,none⟩) rfl v
 exact⟨h.ln.off ho (fun e=>by have e:p=z:=e;omega),h.zb.aW k v,ho.blk h.rb (fun e=>hzy (by have e:y=z:=e;exact e.symm)),Y8 h.of_ ho h2,h1,h2,h3⟩
end
def Sta.rd(s:Sta):Prop:=s.ok∧s.name.size≤16777216∧s.uid.size≤16777216∧s.gid.size≤16777216∧s.fE.size≤16777216
def Ur(m m':Mg)(f:Fld):Prop:=(f≠ .names→m'.names=m.names)∧(f≠ .aV→m'.aV=m.aV)∧(f≠ .data→m'.data=m.data)
def Nh(base:Nat)(w w':World):Prop:=Below base w w'∧∀g cs,Blk w g 41 cs→Blk w' g 41 cs
structure FS(w0 w:World)(p z q base:Nat)(hv:Value)(x:List UInt8)(st:Option (List UInt8))(m:Mg)(vn vq vd:Value):Prop where
 s:BdS w p hv x st
 x:Bys w base hv x
 m:aK w z m vn vq vd
 r:aK w q (head 0 0) (.slice none 0 0) (.slice none 0 0) (.slice none 0 0)
 bp:base≤p
 bb:base≤w0.heap.size
 bz:w0.heap.size≤z
 zq:z+1=q
 b:Below base w0 w
 k:∀g cs,Blk w0 g 41 cs→Blk w g 41 cs
theorem BdS.lt{w:World}{p:Nat}{hv:Value}{x:List UInt8}{st:Option (List UInt8)}(h:BdS w p hv x st):p<w.heap.size:=by
 obtain⟨a,b,hb, -⟩:=h
 exact Blk.lt hb
theorem BdS.noT{w:World}{p:Nat}{hv:Value}{x:List UInt8}{st:Option (List UInt8)}{e:TypeId}(h:BdS w p hv x st)(he:97≠e):∀g cur fr,g=p→w.heap[g]? ≠some (Obj.cells cur e fr):=by
 obtain⟨a,b,hb, -⟩:=h
 exact hb.noT he
theorem Ro{w:World}{i:Nat}(h:w.heap.size≤i){ob:Obj}:w.heap[i]? ≠some ob:=by
 rw[Array.getElem?_eq_none h]
 intro h
 cases h
theorem OL.bd{w w':World}{p base:Nat}{m:Mg}{vn vq vd hv:Value}{x:List UInt8}{st:Option (List UInt8)}(h:OL w base m vn vq vd)(hs:BdS w p hv x st)(ho:Off (fun i=>i=p∨w.heap.size≤i) w w'):OL w' base m vn vq vd:=
 h.off ho fun i cur fr e hi he=>by
  rcases hi with hi|hi
  ·rcases he with rfl|rfl|rfl<;>exact hs.noT (by decide) i cur fr hi
  ·exact Ro hi
theorem fC{w:World}{b b' n n' s s':Nat}{e e':TypeId}{u v:Value}{xs ys:List Value}(h:w.ownsRow b e s u n xs)(h':w.ownsRow b' e' s' v n' ys)(he:e≠e'):u.ownBlock=none∨u.ownBlock≠v.ownBlock:=by
 cases hu:u.ownBlock with
 |none=>exact .inl rfl
 |some g=>
  refine .inr fun hv=> ?_
  rcases h'.2 with⟨rfl, -⟩|⟨g',cap,cur,rfl, -,hg, -⟩
  ·cases hv
  ·injection hv with hv
   subst hv
   exact bZ h he g cur (0,0) hu hg
section
variable {w w' w0:World} {p z q base:Nat} {hv vn vq vd:Value} {x:List UInt8} {st st':Option (List UInt8)} {m:Mg}
theorem FS.step(h:FS w0 w p z q base hv x st m vn vq vd)(hs:BdS w' p hv x st')(ho:Off (fun i=>i=p∨w.heap.size≤i) w w'):FS w0 w' p z q base hv x st' m vn vq vd:=by
 have hz:=Blk.lt h.m
 have hbz:=h.bz
 have hbb:=h.bb
 have hbp:=h.bp
 have hS:∀i,(i=p∨w.heap.size≤i)→base≤i:=fun i hi=>by omega
 have hK:∀g cs,Blk w g 41 cs→Blk w' g 41 cs:=fun g cs hg=>ho.blk hg (fun hi=>hi.elim (fun e=>h.s.noT (by decide) _ _ _ e hg) (fun e=>Nat.lt_irrefl _ (Nat.lt_of_lt_of_le (Blk.lt hg) e)))
 exact⟨hs,Off.bys h.x ho (by omega) hS,hK _ _ h.m,hK _ _ h.r,hbp,hbb,hbz,h.zq,h.b.trans (ho.below hS (by omega)),fun g cs hg=>hK g cs (h.k g cs hg)⟩
theorem FS.new(h:FS w0 w p z q base hv x st m vn vq vd)(hb:Below w.heap.size w w'):FS w0 w' p z q base hv x st m vn vq vd:=h.step (h.s.below hb) (Off.of_below hb)
theorem FS.size(h:FS w0 w p z q base hv x st m vn vq vd):base≤w.heap.size:=by
 have hz:=Blk.lt h.m
 have hbz:=h.bz
 have hbb:=h.bb
 omega
theorem FS.turn{m':Mg}{xn xq xd:Value}(h:FS w0 w p z q base hv x st m vn vq vd)(hm:aK w' z m' xn xq xd)(ho:Off (fun i=>i=z) w w'):FS w0 w' p z q base hv x st m' xn xq xd:=by
 have hz:=Blk.lt h.m
 have hbz:=h.bz
 have hbb:=h.bb
 have hzq:=h.zq
 have hS:∀i,i=z→base≤i:=fun i hi=>by omega
 exact⟨h.s.off ho (fun e=>h.s.noT (by decide) z _ _ e.symm h.m),Off.bys h.x ho (by omega) hS,hm,ho.blk h.r (fun e=>by have e:q=z:=e;omega),h.bp,hbb,hbz,hzq,h.b.trans (ho.below hS (by omega)),fun g cs hg=>ho.blk (h.k g cs hg) (fun e=>by have e:g=z:=e;have:=Blk.lt hg;omega)⟩
theorem FS.end_{wz:World}{m':Mg}{xn xq xd:Value}(h:FS w0 w p z q base hv x st m vn vq vd)(hl:OL w base m' xn xq xd)(ho:Off (fun i=>i=q) w wz):OL wz base m' xn xq xd∧Nh base w0 wz∧BdS wz p hv x st:=by
 have hq:=Blk.lt h.r
 have hzq:=h.zq
 have hbz:=h.bz
 have hbb:=h.bb
 exact⟨hl.qp h.r ho,⟨h.b.trans (ho.below (fun i hi=>by have hi:i=q:=hi;omega) (by omega)),fun g cs hg=>ho.blk (h.k g cs hg) (fun e=>by have e:g=q:=e;have:=Blk.lt hg;omega)⟩,h.s.off ho (fun e=>h.s.noT (by decide) q _ _ e.symm h.r)⟩
end
theorem OL.as{w:World}{base:Nat}{m m':Mg}{vn vq vd:Value}(h:OL w base m vn vq vd)(h1:m'.names=m.names)(h2:m'.aV=m.aV)(h3:m'.data=m.data):OL w base m' vn vq vd:=⟨by rw[h1];exact h.n,by rw[h2];exact h.q,by rw[h3];exact h.d⟩
theorem width_le(f:Fld):f.width≤8:=by cases f<;>decide
structure GS(w0 w:World)(p z q base:Nat)(s:ByteArray)(st:Except Nat (List UInt8))(m:Mg)(vn vq vd:Value):Prop where
 ln:RwS w p s st
 mb:aK w z m vn vq vd
 rb:aK w q (head 0 0) (.slice none 0 0) (.slice none 0 0) (.slice none 0 0)
 bp:base≤p
 bb:base≤w0.heap.size
 bz:w0.heap.size≤z
 zq:z+1=q
 bl:Below base w0 w
 kp:∀g cs,Blk w0 g 41 cs→Blk w g 41 cs
section
variable {w w' w0:World} {p z q base:Nat} {vn vq vd:Value} {s:ByteArray} {st st':Except Nat (List UInt8)} {m:Mg}
theorem GS.step(h:GS w0 w p z q base s st m vn vq vd)(hs:RwS w' p s st')(ho:Off (fun i=>i=p) w w'):GS w0 w' p z q base s st' m vn vq vd:=by
 have hz:=Blk.lt h.mb
 have hbz:=h.bz
 have hbb:=h.bb
 have hbp:=h.bp
 have hS:∀i,i=p→base≤i:=fun i hi=>by omega
 have hK:∀g cs,Blk w g 41 cs→Blk w' g 41 cs:=fun g cs hg=>ho.blk hg (fun e=>h.ln.noT (by decide) _ _ _ e hg)
 exact⟨hs,hK _ _ h.mb,hK _ _ h.rb,hbp,hbb,hbz,h.zq,h.bl.trans (ho.below hS (by omega)),fun g cs hg=>hK g cs (h.kp g cs hg)⟩
theorem GS.new(h:GS w0 w p z q base s st m vn vq vd)(hb:Below w.heap.size w w'):GS w0 w' p z q base s st m vn vq vd:=h.step (h.ln.below hb) (Off.of_below hb)
theorem GS.size(h:GS w0 w p z q base s st m vn vq vd):base≤w.heap.size:=by
 have hz:=Blk.lt h.mb
 have hbz:=h.bz
 have hbb:=h.bb
 omega
theorem GS.turn{m':Mg}{xn xq xd:Value}(h:GS w0 w p z q base s st m vn vq vd)(hm:aK w' z m' xn xq xd)(ho:Off (fun i=>i=z) w w'):GS w0 w' p z q base s st m' xn xq xd:=by
 have hz:=Blk.lt h.mb
 have hbz:=h.bz
 have hbb:=h.bb
 have hzq:=h.zq
 have hS:∀i,i=z→base≤i:=fun i hi=>by omega
 exact⟨h.ln.off ho (fun e=>h.ln.noT (by decide) z _ _ e.symm h.mb),hm,ho.blk h.rb (fun e=>by have e:q=z:=e;omega),h.bp,hbb,hbz,hzq,h.bl.trans (ho.below hS (by omega)),fun g cs hg=>ho.blk (h.kp g cs hg) (fun e=>by have e:g=z:=e;have:=Blk.lt hg;omega)⟩
theorem GS.end_{wz:World}{m':Mg}{xn xq xd:Value}(h:GS w0 w p z q base s st m vn vq vd)(hl:OL w base m' xn xq xd)(ho:Off (fun i=>i=q) w wz):OL wz base m' xn xq xd∧Nh base w0 wz∧RwS wz p s st:=by
 have hq:=Blk.lt h.rb
 have hzq:=h.zq
 have hbz:=h.bz
 have hbb:=h.bb
 exact⟨hl.qp h.rb ho,⟨h.bl.trans (ho.below (fun i hi=>by have hi:i=q:=hi;omega) (by omega)),fun g cs hg=>ho.blk (h.kp g cs hg) (fun e=>by have e:g=q:=e;have:=Blk.lt hg;omega)⟩,h.ln.off ho (fun e=>h.ln.noT (by decide) q _ _ e.symm h.rb)⟩
theorem GS.kept(h:GS w0 w p z q base s st m vn vq vd)(hs:RwS w' p s st')(hk:Nh base w w'):GS w0 w' p z q base s st' m vn vq vd:=
 ⟨hs,hk.2 _ _ h.mb,hk.2 _ _ h.rb,h.bp,h.bb,h.bz,h.zq,h.bl.trans hk.1,fun g cs hg=>hk.2 g cs (h.kp g cs hg)⟩
end
theorem XZ.map{α β:Type}{o:Except Nat (α×List UInt8)}{x:α}{st:Except Nat (List UInt8)}(h:XZ o x st)(g:α→β):XZ (o.map fun p=>(g p.1,p.2)) (g x) st:=by
 unfold XZ at*
 cases o with
 |error k=>exact h
 |ok p=>obtain⟨h1,h2⟩:=h;subst h1;exact⟨rfl,h2⟩
theorem YA(l:List UInt8):Yi (.ok l) ⟨#[93]⟩=(l.head?==some 93):=by
 cases l with
 |nil=>rfl
 |cons c l=>show((93:UInt8)==c&&true)=(some c==some 93);rw[Bool.and_true,Bool.eq_iff_iff,beq_iff_eq,beq_iff_eq];constructor<;>(intro h;first|(rw[h])|(injection h with h;rw[h]))
def Yl{α:Type}(one:List UInt8→Except Nat (α×List UInt8))(r:Except Nat (List α×List UInt8))(k:Nat)(ns:List α)(sk:Except Nat (List UInt8)):Prop:=
 r=(sk >>= fun l=>(eP one (16-k) (k==0) l).map (fun p=>(ns++p.1,p.2)))
theorem aaj{β γ:Type}(st:Except Nat (List UInt8))(p:List UInt8→Except Nat γ)(f:γ→Except Nat β):(st >>= fun l=>p l >>= f)=((st >>= p) >>= f):=by cases st<;>rfl
theorem Yl.start{α:Type}(one:List UInt8→Except Nat (α×List UInt8))(st:Except Nat (List UInt8)):Yl one (st >>= eU one) 0 [] (Ye ⟨#[91]⟩ st):=by
 unfold Yl
 cases st with
 |error k=>rfl
 |ok l=>
  show eU one l=_
  unfold eU
  show(dQ [91] l >>= fun l=>eP one 16 true l)=(dQ [91] l >>= fun l=>(eP one 16 true l).map (fun p=>([]++p.1,p.2)))
  congr 1
  funext l
  cases eP one 16 true l<;>rfl
def Zr(k:Nat)(st:Except Nat (List UInt8)):Except Nat (List UInt8):=if k=0 then st else Ye ⟨#[32]⟩ st
theorem Yl.next{α:Type}{one:List UInt8→Except Nat (α×List UInt8)}{r:Except Nat (List α×List UInt8)}{k:Nat}{ns:List α}{l:List UInt8}{x:α}{s2:Except Nat (List UInt8)}(h:Yl one r k ns (.ok l))(hk:k<16)(hh:Yi (.ok l) ⟨#[93]⟩=false)(g:XZ (Zr k (.ok l) >>= one) x s2):Yl one r (k+1) (ns++[x]) s2:=by
 unfold Yl at*
 rw[h]
 rw[YA,beq_eq_false_iff_ne]at hh
 show(eP one (16-k) (k==0) l).map _=_
 have e:eP one (16-k) (k==0) l=(Zr k (.ok l) >>= fun l=>one l >>= fun p=>eP one (16-(k+1)) false p.2 >>= fun q=>pure (p.1::q.1,q.2)):=by
  rw[show 16-k=(16-(k+1))+1 by omega,eP,if_neg hh]
  cases k with
  |zero=>rfl
  |succ k=>rfl
 rw[e,aaj,g.then (fun x l=>eP one (16-(k+1)) false l >>= fun q=>pure (x::q.1,q.2))]
 cases s2 with
 |error k=>rfl
 |ok l2=>
  show(eP one (16-(k+1)) false l2 >>= fun q=>pure (x::q.1,q.2)).map _=(eP one (16-(k+1)) (k+1==0) l2).map _
  rw[show(k+1==0)=false from rfl]
  cases eP one (16-(k+1)) false l2 with
  |error k=>rfl
  |ok p=>show Except.ok _=Except.ok _;dsimp only;rw[List.append_assoc];rfl
def Zv:List UInt8:=[109,118,97,117,110,101,111,102,119,78,81,113,100,105,99,112,79,67,68,83]
def YT:List ByteArray:=[⟨#[109,115,105,122,101]⟩,⟨#[118,101,114,115,105,111,110]⟩,⟨#[97,102,105,100]⟩,⟨#[117,110,97,109,101]⟩,⟨#[97,110,97,109,101]⟩,⟨#[101,110,97,109,101]⟩,⟨#[111,108,100,116,97,103]⟩,⟨#[102,105,100]⟩,⟨#[110,101,119,102,105,100]⟩,⟨#[110,97,109,101,115]⟩,⟨#[113,105,100,115]⟩,⟨#[113,105,100]⟩,⟨#[109,111,100,101]⟩,⟨#[105,111,117,110,105,116]⟩,⟨#[110,97,109,101]⟩,⟨#[112,101,114,109]⟩,⟨#[111,102,102,115,101,116]⟩,⟨#[99,111,117,110,116]⟩,⟨#[100,97,116,97]⟩,⟨#[115,116,97,116]⟩]
theorem ZP(f:Fld):Zv[f.ix]? =some f.rX∧YT[f.ix]? =some (ofL f.word)∧f.ix<20:=by cases f<;>exact⟨rfl,rfl,by decide⟩
theorem Zw(f:Fld):∀j,j<f.ix→∃c,Zv[j]? =some c∧((c.toNat:Int)==(f.rX.toNat:Int))=false:=by
 intro j hj
 have aat:j<20:=Nat.lt_trans hj (ZP f).2.2
 have h:∀i,i<f.ix→(Zv.getD i 0 != f.rX)=true:=by cases f<;>decide
 refine⟨Zv[j]'aat,List.getElem?_eq_getElem _, ?_⟩
 have h1:=h j hj
 rw[List.getD_eq_getElem?_getD,List.getElem?_eq_getElem (show j<Zv.length from aat),Option.getD_some,bne_iff_ne]at h1
 rw[beq_eq_false_iff_ne]
 intro e
 exact h1 (UInt8.toNat_inj.1 (by omega))
theorem Zx(f:Fld)(w:World):Calls Tryz.prog 54 #[.int .u8 (f.rX.toNat:Int)] w fun e w'=>e= .returned (.string (ofL f.word))∧Below w.heap.size w w':=by
 obtain⟨hl,hwd,h20⟩:=ZP f
 have HB:=hid (Zw f)
 have HL:=hid hl
 have HW:=hid hwd
 clear hl hwd
 have hup:Below w.heap.size w (w.alloc (.cells (h_ YT).toArray 9)):=(Below.refl _ _).alloc (Nat.le_refl _) _
 have HUP:=hid hup
 have HN:=hid (Blk.new w 9 (h_ YT).toArray)
 clear hup
 generalize f.rX=lc at HB HL⊢
 generalize f.ix=ix at HB HL HW h20
 generalize ofL f.word=wd at HW⊢
 go_enter Tryz.func54,Tryz.ntmps54
 go_upto_region 3 with(fail)
 change Code.wp _ _ _ _ (w.alloc (.cells (h_ YT).toArray 9))
 generalize w.alloc (.cells (h_ YT).toArray 9)=w1 at HUP HN⊢
 generalize hz:w.heap.size=z at HN⊢
 have HZ:=hid hz
 clear hz
 obtain⟨LT,hLT⟩:∃LT,LT=(⟨Zv.toArray⟩:ByteArray):=⟨_,rfl⟩
 rw[show(⟨#[109,118,97,117,110,101,111,102,119,78,81,113,100,105,99,112,79,67,68,83]⟩:ByteArray)=LT from hLT.symm]
 have hLS:LT.size=20:=by rw[hLT];rfl
 have HLL:=hid (show LT.data.toList=Zv from by rw[hLT])
 clear hLT
 go_upto_region 4 with(fail)
 go_loop [5] (fun i=>∃j:Nat,i= .int .i64 (j:Int)∧j≤ix) (fun i=>ix+1-(intOf i).toNat)
 case atStart=>exact⟨0,rfl,Nat.zero_le _⟩
 case round=>
  obtain⟨j,rfl,hj⟩:=hrel
  have hjs:j<LT.size:=by omega
  have aat:(j:Int)<20:=by omega
  obtain⟨c,hc⟩:∃c,c=LT[j]'hjs:=⟨_,rfl⟩
  have HCA:=hid (show Zv[j]? =some c from by rw[←HLL.out,hc];exact byte_at LT j hjs)
  have hidx:LT[j]'hjs=c:=hc.symm
  clear hc
  by_cases he:j=ix
  ·have hcl:c=lc:=by
    have h:=HL.out
    rw[←he,HCA.out]at h
    injection h
   subst hcl
   have hb:((c.toNat:Int)==(c.toNat:Int))=true:=beq_self_eq_true _
   have kx:w1.cell? ⟨z,j,none⟩=some (.string wd):=(Blk.cell HN.out j).trans (by rw[List.getElem?_toArray,h_,List.getElem?_map,he,HW.out];rfl)
   clear he
   go_wp2_with fail
   exact bodyPost_ret (v:= .string wd) (by simp[results,Tryz.results54]) rfl ⟨rfl,HUP.out⟩
  ·have hb:((c.toNat:Int)==(lc.toNat:Int))=false:=by
    obtain⟨c',h1,h2⟩:=HB.out j (by omega)
    rw[HCA.out]at h1
    injection h1 with h1
    rw[h1]
    exact h2
   go_wp2_with fail
   go_round
   case rel=>exact⟨j+1,by go_num,by omega⟩
   case measure=>first|(simp[intOf];done)|(simp[intOf];omega)
theorem YB(f:Fld)(hf:f.isText=true)(m:Mg)(vn vq vd:Value)(w:World):Calls Tryz.prog 108 #[iM m vn vq vd,.int .u8 (f.rX.toNat:Int)] w fun e w'=>e= .returned (.string (m.txt f))∧Below w.heap.size w w':=by
 have hup:Below w.heap.size w (al w (aF m vn vq vd) 41):=(Below.refl _ _).alloc (Nat.le_refl _) _
 have HU:=hid hup
 have HM:=hid (show aK (al w (aF m vn vq vd) 41) w.heap.size m vn vq vd from Blk.new w _ _)
 clear hup
 cases f<;>try exact absurd hf (by decide)
 ·as_aux_lemma=>
  change Calls Tryz.prog 108 #[iM m vn vq vd,.int .u8 118] w _
  go_enter Tryz.func108,Tryz.ntmps108
  go_upto_region 1 with(fail)
  change Code.wp _ _ _ _ (al w (aF m vn vq vd) 41)
  generalize(al w (aF m vn vq vd) 41)=w1 at HU HM⊢
  generalize hz:w.heap.size=z at HM⊢
  have HZZ:=hid hz;clear hz
  have k1:w1.cell? ⟨z,3,none⟩=some (.string m.version):=Blk.cell HM.out 3
  go_wp2_with fail
  exact bodyPost_ret (v:= .string m.version) (by simp[results,Tryz.results108]) rfl ⟨rfl,HU.out⟩
 ·as_aux_lemma=>
  change Calls Tryz.prog 108 #[iM m vn vq vd,.int .u8 117] w _
  go_enter Tryz.func108,Tryz.ntmps108
  go_upto_region 1 with(fail)
  change Code.wp _ _ _ _ (al w (aF m vn vq vd) 41)
  generalize(al w (aF m vn vq vd) 41)=w1 at HU HM⊢
  generalize hz:w.heap.size=z at HM⊢
  have HZZ:=hid hz;clear hz
  have k1:w1.cell? ⟨z,5,none⟩=some (.string m.uname):=Blk.cell HM.out 5
  go_wp2_with fail
  exact bodyPost_ret (v:= .string m.uname) (by simp[results,Tryz.results108]) rfl ⟨rfl,HU.out⟩
 ·as_aux_lemma=>
  change Calls Tryz.prog 108 #[iM m vn vq vd,.int .u8 110] w _
  go_enter Tryz.func108,Tryz.ntmps108
  go_upto_region 1 with(fail)
  change Code.wp _ _ _ _ (al w (aF m vn vq vd) 41)
  generalize(al w (aF m vn vq vd) 41)=w1 at HU HM⊢
  generalize hz:w.heap.size=z at HM⊢
  have HZZ:=hid hz;clear hz
  have k1:w1.cell? ⟨z,6,none⟩=some (.string m.bF):=Blk.cell HM.out 6
  go_wp2_with fail
  exact bodyPost_ret (v:= .string m.bF) (by simp[results,Tryz.results108]) rfl ⟨rfl,HU.out⟩
 ·as_aux_lemma=>
  change Calls Tryz.prog 108 #[iM m vn vq vd,.int .u8 101] w _
  go_enter Tryz.func108,Tryz.ntmps108
  go_upto_region 1 with(fail)
  change Code.wp _ _ _ _ (al w (aF m vn vq vd) 41)
  generalize(al w (aF m vn vq vd) 41)=w1 at HU HM⊢
  generalize hz:w.heap.size=z at HM⊢
  have HZZ:=hid hz;clear hz
  have k1:w1.cell? ⟨z,7,none⟩=some (.string m.bH):=Blk.cell HM.out 7
  go_wp2_with fail
  exact bodyPost_ret (v:= .string m.bH) (by simp[results,Tryz.results108]) rfl ⟨rfl,HU.out⟩
 ·as_aux_lemma=>
  change Calls Tryz.prog 108 #[iM m vn vq vd,.int .u8 99] w _
  go_enter Tryz.func108,Tryz.ntmps108
  go_upto_region 1 with(fail)
  change Code.wp _ _ _ _ (al w (aF m vn vq vd) 41)
  generalize(al w (aF m vn vq vd) 41)=w1 at HU HM⊢
  generalize hz:w.heap.size=z at HM⊢
  have HZZ:=hid hz;clear hz
  have k1:w1.cell? ⟨z,18,none⟩=some (.string m.name):=Blk.cell HM.out 18
  go_wp2_with fail
  exact bodyPost_ret (v:= .string m.name) (by simp[results,Tryz.results108]) rfl ⟨rfl,HU.out⟩
theorem Zc(s:Sta)(hs:dY s≤16777216)(w:World):Calls Tryz.prog 186 #[stV s] w fun e w'=>e= .returned (.int .i64 (dY s:Int))∧Below w.heap.size w w':=by
 have hup:Below w.heap.size w (w.alloc (.cells (stL s).toArray 39)):=(Below.refl _ _).alloc (Nat.le_refl _) _
 have HU:=hid hup
 have HM:=hid (Blk.new w 39 (stL s).toArray)
 have HE:=hid (show((49:Int)+(s.name.size:Int)+(s.uid.size:Int)+(s.gid.size:Int)+(s.fE.size:Int))=(dY s:Int)from by unfold dY;omega)
 unfold dY at hs
 clear hup
 go_enter Tryz.func186,Tryz.ntmps186
 go_upto_region 1 with(fail)
 change Code.wp _ _ _ _ (w.alloc (.cells (stL s).toArray 39))
 generalize w.alloc (.cells (stL s).toArray 39)=w1 at HU HM⊢
 generalize hz:w.heap.size=z at HM⊢
 have HZZ:=hid hz;clear hz
 have k1:w1.cell? ⟨z,9,none⟩=some (.string s.name):=Blk.cell HM.out 9
 have k2:w1.cell? ⟨z,10,none⟩=some (.string s.uid):=Blk.cell HM.out 10
 have k3:w1.cell? ⟨z,11,none⟩=some (.string s.gid):=Blk.cell HM.out 11
 have k4:w1.cell? ⟨z,12,none⟩=some (.string s.fE):=Blk.cell HM.out 12
 go_wp2_with fail
 rw[HE.out]
 exact bodyPost_ret (v:= .int .i64 (dY s:Int)) (by simp[results,Tryz.results186]) rfl ⟨rfl,HU.out⟩
theorem Z8{f:Fld}(hf:0<f.width)(m:Mg):m.long f=f.width:=by cases f<;>first|rfl|exact absurd hf (by decide)
theorem YU{f:Fld}(hf:f.isText=true)(m:Mg):m.long f=2+(m.txt f).size:=by cases f<;>first|rfl|exact absurd hf (by decide)
theorem Zy{l:List ByteArray}{k:Nat}{x:ByteArray}(h:l[k]? =some x):((l.take (k+1)).map fun s=>2+s.size).sum=((l.take k).map fun s=>2+s.size).sum+(2+x.size):=by
 rw[List.take_add_one,h,Option.toList_some,List.map_append,List.sum_append]
 simp
theorem Zd:∀l:List ByteArray,2*l.length≤(l.map fun s=>2+s.size).sum
 | []=>Nat.le_refl _
 |x::l=>by
  have:=Zd l
  simp only[List.length_cons,List.map_cons,List.sum_cons]
  omega
theorem Zz(l:List ByteArray)(k:Nat):((l.take k).map fun s=>2+s.size).sum≤(l.map fun s=>2+s.size).sum:=by
 have h:(l.map fun s=>2+s.size).sum=((l.take k).map fun s=>2+s.size).sum+((l.drop k).map fun s=>2+s.size).sum:=by
  rw[←List.sum_append,←List.map_append,List.take_append_drop]
 omega
theorem Yj(f:Fld)(m:Mg)(vn vq vd:Value)(w:World)(hl:Lists w w.heap.size m vn vq vd)(hs:m.long f≤16777216):
  Calls Tryz.prog 109 #[iM m vn vq vd,.int .u8 (f.rX.toNat:Int)] w fun e w'=>e= .returned (.int .i64 (m.long f:Int))∧Below w.heap.size w w':=by
 have hup:Below w.heap.size w (al w (aF m vn vq vd) 41):=(Below.refl _ _).alloc (Nat.le_refl _) _
 have HU:=hid hup
 have HM:=hid (show aK (al w (aF m vn vq vd) 41) w.heap.size m vn vq vd from Blk.new w _ _)
 clear hup
 have HL:=hid hl
 clear hl
 have HWC:=hid (jL f)
 have HIT:=hid (jV f)
 by_cases hw:0<f.width
 ·have HE:=hid (show(f.width:Int)=(m.long f:Int)from by rw[Z8 hw])
  have hw1:(0:Int)<(f.width:Int):=by omega
  clear hw
  go_enter Tryz.func109,Tryz.ntmps109
  go_upto_region 1 with(fail)
  change Code.wp _ _ _ _ (al w (aF m vn vq vd) 41)
  generalize(al w (aF m vn vq vd) 41)=w1 at HU HM⊢
  generalize hz:w.heap.size=z at HM⊢
  have HZZ:=hid hz;clear hz
  go_wp2_with fail
  refine(HWC.out _).mono ?_
  rintro e w2 ⟨rfl,rfl⟩
  go_wp2_with fail
  refine(HWC.out _).mono ?_
  rintro e w2 ⟨rfl,rfl⟩
  go_wp2_with fail
  exact bodyPost_ret (v:= .int .i64 (f.width:Int)) (by simp[results,Tryz.results109]) rfl ⟨by rw[HE.out],HU.out⟩
 have hw0:f.width=0:=by omega
 clear hw
 rw[hw0]at HWC
 by_cases ht:f.isText=true
 ·have HE:=hid (show(2:Int)+((m.txt f).size:Int)=(m.long f:Int)from by rw[YU ht];omega)
  have HTX:=hid (fun w=>YB f ht m vn vq vd w)
  rw[ht]at HIT
  rw[YU ht]at hs
  generalize m.txt f=T at HTX HE hs
  have hs':T.size≤16777216:=by omega
  clear hs ht
  go_enter Tryz.func109,Tryz.ntmps109
  go_upto_region 1 with(fail)
  change Code.wp _ _ _ _ (al w (aF m vn vq vd) 41)
  generalize(al w (aF m vn vq vd) 41)=w1 at HU HM⊢
  generalize hz:w.heap.size=z at HM⊢
  have HZZ:=hid hz;clear hz
  go_wp2_with fail
  refine(HWC.out _).mono ?_
  rintro e w2 ⟨rfl,rfl⟩
  go_wp2_with fail
  refine(HIT.out _).mono ?_
  rintro e w2 ⟨rfl,rfl⟩
  go_wp2_with(refine wlw HM.out 0 (aF m vn vq vd) rfl rfl _ _ rfl rfl _ Tryz.underlying41 rfl aB ?_)
  refine(HTX.out _).mono ?_
  rintro e w2 ⟨rfl,hb⟩
  have HB2:=hid (HU.out.trans (hb.mono HU.out.size))
  clear hb
  go_wp2_with fail
  rw[HE.out]
  exact bodyPost_ret (v:= .int .i64 (m.long f:Int)) (by simp[results,Tryz.results109]) rfl ⟨rfl,HB2.out⟩
 rw[Bool.not_eq_true]at ht
 rw[ht]at HIT
 cases f<;>first|(exact absurd hw0 (by decide))|(exact absurd ht (by decide))|skip
 ·as_aux_lemma=>
  change Calls Tryz.prog 109 #[iM m vn vq vd,.int .u8 78] w _
  clear hw0 ht
  go_enter Tryz.func109,Tryz.ntmps109
  go_upto_region 1 with(fail)
  change Code.wp _ _ _ _ (al w (aF m vn vq vd) 41)
  generalize(al w (aF m vn vq vd) 41)=w1 at HU HM⊢
  generalize hz:w.heap.size=z at HM⊢
  have HZZ:=hid hz;clear hz
  go_wp2_with fail
  refine(HWC.out _).mono ?_
  rintro e w2 ⟨rfl,rfl⟩
  go_wp2_with fail
  refine(HIT.out _).mono ?_
  rintro e w2 ⟨rfl,rfl⟩
  obtain⟨A,c,hv,hc,hm,hrd⟩:=HL.out.n
  subst hv
  have HNM:=hid (show iW w1 w.heap.size (.slice A m.names.length c) m.names from by exact HL.out.n.below HU.out)
  have hsum:2+(m.names.map fun s=>2+s.size).sum≤16777216:=hs
  have kn:w1.cell? ⟨z,11,none⟩=some (.slice A m.names.length c):=Blk.cell HM.out 11
  have hnl:m.names.length≤16777216:=by have:=Zd m.names;omega
  generalize hnm:m.names=nm at*
  have HNN:=hid hnm
  clear hnm hrd hc hm hs
  go_upto_region 8 with(fail)
  go_loop [5,6] (fun n i=>∃k sm:Nat,n= .int .i64 ((sm:Int)+2)∧i= .int .i64 (k:Int)∧k≤nm.length∧Hid (sm=((nm.take k).map fun s=>2+s.size).sum)) (fun _ i=>nm.length-(intOf i).toNat)
  case atStart=>exact⟨0,0,rfl,rfl,Nat.zero_le _,hid rfl⟩
  case round=>
   obtain⟨k,sm,rfl,rfl,hk,HSM⟩:=hrel
   by_cases hlt:k<nm.length
   ·obtain⟨x,hx⟩:∃x,nm[k]? =some x:=⟨nm[k],List.getElem?_eq_getElem _⟩
    obtain⟨ad,hA, -,kx⟩:=HNM.out.at_ hx
    subst hA
    have HST:=hid (Zy hx)
    have hle2:=Zz nm (k+1)
    rw[HST.out,←HSM.out]at hle2
    have hb2:sm+x.size≤16777216:=by omega
    have HLT:=hid hlt
    clear hx hle2
    go_wp2_with fail
    go_round
    case rel=>exact⟨k+1,sm+(2+x.size),by go_num,by go_num,HLT.out,hid (by rw[HST.out,←HSM.out])⟩
    case measure=>first|(simp[intOf];done)|(have:=HLT.out;simp[intOf];omega)
   ·have HE:=hid (show((sm:Int)+2)=(m.long .names:Int)from by
     have h:=HSM.out
     rw[List.take_of_length_le (by omega),←HNN.out]at h
     show _=((2+(m.names.map fun s=>2+s.size).sum:Nat):Int)
     omega)
    go_wp2_with fail
    exact bodyPost_ret (v:= .int .i64 ((sm:Int)+2)) (by simp[results,Tryz.results109]) rfl ⟨by rw[HE.out],HU.out⟩
 ·as_aux_lemma=>
  change Calls Tryz.prog 109 #[iM m vn vq vd,.int .u8 81] w _
  clear hw0 ht
  go_enter Tryz.func109,Tryz.ntmps109
  go_upto_region 1 with(fail)
  change Code.wp _ _ _ _ (al w (aF m vn vq vd) 41)
  generalize(al w (aF m vn vq vd) 41)=w1 at HU HM⊢
  generalize hz:w.heap.size=z at HM⊢
  have HZZ:=hid hz;clear hz
  go_wp2_with fail
  refine(HWC.out _).mono ?_
  rintro e w2 ⟨rfl,rfl⟩
  go_wp2_with fail
  refine(HIT.out _).mono ?_
  rintro e w2 ⟨rfl,rfl⟩
  obtain⟨A,c,hv,hc,hm,hrd⟩:=HL.out.q
  subst hv
  have hsum:2+13*m.aV.length≤16777216:=hs
  have kn:w1.cell? ⟨z,12,none⟩=some (.slice A m.aV.length c):=Blk.cell HM.out 12
  have HE:=hid (show((2:Int)+13*(m.aV.length:Int))=(m.long .aV:Int)from by show _=((2+13*m.aV.length:Nat):Int);omega)
  clear hrd hs
  go_wp2_with fail
  rw[HE.out]
  exact bodyPost_ret (v:= .int .i64 (m.long .aV:Int)) (by simp[results,Tryz.results109]) rfl ⟨rfl,HU.out⟩
 ·as_aux_lemma=>
  change Calls Tryz.prog 109 #[iM m vn vq vd,.int .u8 113] w _
  clear hw0 ht
  go_enter Tryz.func109,Tryz.ntmps109
  go_upto_region 1 with(fail)
  change Code.wp _ _ _ _ (al w (aF m vn vq vd) 41)
  generalize(al w (aF m vn vq vd) 41)=w1 at HU HM⊢
  generalize hz:w.heap.size=z at HM⊢
  have HZZ:=hid hz;clear hz
  go_wp2_with fail
  refine(HWC.out _).mono ?_
  rintro e w2 ⟨rfl,rfl⟩
  go_wp2_with fail
  refine(HIT.out _).mono ?_
  rintro e w2 ⟨rfl,rfl⟩
  go_wp2_with fail
  exact bodyPost_ret (v:= .int .i64 13) (by simp[results,Tryz.results109]) rfl ⟨rfl,HU.out⟩
 ·as_aux_lemma=>
  change Calls Tryz.prog 109 #[iM m vn vq vd,.int .u8 68] w _
  clear hw0 ht
  go_enter Tryz.func109,Tryz.ntmps109
  go_upto_region 1 with(fail)
  change Code.wp _ _ _ _ (al w (aF m vn vq vd) 41)
  generalize(al w (aF m vn vq vd) 41)=w1 at HU HM⊢
  generalize hz:w.heap.size=z at HM⊢
  have HZZ:=hid hz;clear hz
  go_wp2_with fail
  refine(HWC.out _).mono ?_
  rintro e w2 ⟨rfl,rfl⟩
  go_wp2_with fail
  refine(HIT.out _).mono ?_
  rintro e w2 ⟨rfl,rfl⟩
  obtain⟨A,c,hv,hc,hm,hrd⟩:=HL.out.d
  subst hv
  have hsum:4+m.data.length≤16777216:=hs
  have kn:w1.cell? ⟨z,22,none⟩=some (.slice A m.data.length c):=Blk.cell HM.out 22
  have HE:=hid (show((4:Int)+(m.data.length:Int))=(m.long .data:Int)from by show _=((4+m.data.length:Nat):Int);omega)
  clear hrd hs
  go_wp2_with fail
  rw[HE.out]
  exact bodyPost_ret (v:= .int .i64 (m.long .data:Int)) (by simp[results,Tryz.results109]) rfl ⟨rfl,HU.out⟩
 ·as_aux_lemma=>
  change Calls Tryz.prog 109 #[iM m vn vq vd,.int .u8 83] w _
  clear hw0 ht
  go_enter Tryz.func109,Tryz.ntmps109
  go_upto_region 1 with(fail)
  change Code.wp _ _ _ _ (al w (aF m vn vq vd) 41)
  generalize(al w (aF m vn vq vd) 41)=w1 at HU HM⊢
  generalize hz:w.heap.size=z at HM⊢
  have HZZ:=hid hz;clear hz
  go_wp2_with fail
  refine(HWC.out _).mono ?_
  rintro e w2 ⟨rfl,rfl⟩
  go_wp2_with fail
  refine(HIT.out _).mono ?_
  rintro e w2 ⟨rfl,rfl⟩
  have hsum:2+dY m.stat≤16777216:=hs
  have HE:=hid (show((2:Int)+(dY m.stat:Int))=(m.long .stat:Int)from by show _=((2+dY m.stat:Nat):Int);omega)
  have HSZ:=hid (fun w=>Zc m.stat (by omega) w)
  clear hs
  go_wp2_with(refine wlw HM.out 23 (stL m.stat) rfl rfl _ _ rfl rfl _ Tryz.underlying39 rfl bP ?_)
  refine(HSZ.out _).mono ?_
  rintro e w2 ⟨rfl,hb⟩
  have HB2:=hid (HU.out.trans (hb.mono HU.out.size))
  clear hb
  generalize dY m.stat=sz at hsum HE⊢
  go_wp2_with fail
  rw[HE.out]
  exact bodyPost_ret (v:= .int .i64 (m.long .stat:Int)) (by simp[results,Tryz.results109]) rfl ⟨rfl,HB2.out⟩
end Go.Proofs.YtkblmloobkiloaaGreatDoor
