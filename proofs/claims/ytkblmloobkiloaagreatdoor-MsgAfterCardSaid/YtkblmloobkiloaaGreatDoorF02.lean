/-
  B0 G1: what the laws of package msg need of them.
-/
import Derived.Test.YtkblmloobkiloaaGreatDoorF00
import Derived.Below
import Derived.Laws.OwnMore
import Derived.Deep.AppendLies
import Derived.Deep.Draws
import Derived.Laws.Rows
import Derived.Maps.AppendAt
import Derived.RegionTactic
import Derived.OwnWalk
import Derived.WalkKit
import Derived.Lib.Hide
import Derived.Laws.Strings
import Derived.Laws.RangeAny
import Derived.Lib.DecodeN
import Derived.Lib.TrimU
import Derived.Test.YtkblmloobkiloaaGreatDoorRows
import Derived.Deep.QuietTactic
import Derived.BigQuiet
import Derived.Lib.OwnKind
import Derived.Lib.SplitLaws
import Derived.Maps.OwnSet
import Derived.Maps.Views
import Derived.DeepKeys4
import Derived.Laws.BitsAllLaws
import Derived.ProofKit
import Derived.OpenShut
import Derived.Deep.DeepCutAuto
import Derived.StillTailTactics
set_option maxHeartbeats 8000000
namespace Go.Proofs.YtkblmloobkiloaaGreatDoor
open Go.Lib (hid)
open Go.RowKit
theorem nR(a:Addr)(n:Nat):(a.add n).block=a.block:=by unfold Addr.add;split<;>rfl
theorem lU(a:Addr)(i j:Nat):(a.add i).add j=a.add (i+j):=by
 unfold Addr.add
 by_cases hi:i=0<;>by_cases hj:j=0<;>simp[hi,hj,Nat.add_assoc]
def Reads(w:World)(B size:Nat)(A:Option Addr)(n:Nat)(xs:List Value):Prop:=
 xs.length=n*size∧(0<n→∃ad,A=some ad∧ad.block<B∧∀j u,xs[j]? =some u→w.cell? (ad.add j)=some u)
section
variable {w w':World} {B B' size n:Nat} {A:Option Addr} {xs:List Value}
theorem Reads.none_:Reads w B size A 0 []:=⟨by simp,fun h=>absurd h (by omega)⟩
theorem Reads.at_{k:Nat}(h:Reads w B 1 A n xs)(hk:k<n):∃ad u,A=some ad∧ad.block<B∧xs[k]? =some u∧w.cell? (ad.add k)=some u:=by
 obtain⟨ad,e,hb,hc⟩:=h.2 (by omega)
 have hl:k<xs.length:=by have:=h.1;omega
 exact⟨ad,xs[k],e,hb,List.getElem?_eq_getElem hl,hc k _ (List.getElem?_eq_getElem hl)⟩
theorem Reads.keep(h:Reads w B size A n xs)(hk:∀p:Addr,p.block<B→w'.cell? p=w.cell? p):Reads w' B size A n xs:=
 ⟨h.1,fun hn=>by
  obtain⟨ad,e,hb,hc⟩:=h.2 hn
  exact⟨ad,e,hb,fun j u hu=>(hk _ (by rw[nR];exact hb)).trans (hc j u hu)⟩⟩
theorem Reads.more(h:Reads w B size A n xs)(hB:B≤B'):Reads w B' size A n xs:=
 ⟨h.1,fun hn=>by
  obtain⟨ad,e,hb,hc⟩:=h.2 hn
  exact⟨ad,e,by omega,hc⟩⟩
theorem Reads.below(h:Reads w B size A n xs)(hb:Below B w w'):Reads w' B size A n xs:=h.keep fun _ hp=>hb.cell hp
theorem Reads.drew(h:Reads w B size A n xs):Reads w.drew B size A n xs:=h
theorem Reads.drewN(h:Reads w B size A n xs)(k:Nat):Reads (w.drewN k) B size A n xs:=h
theorem Reads.alloc(h:Reads w B size A n xs)(hB:B≤w.heap.size)(o:Obj):Reads (w.alloc o) B size A n xs:=h.keep fun p hp=>World.cell?_alloc_lt w o p (by omega)
theorem Reads.setCell(h:Reads w B size A n xs){p:Addr}(hB:B≤p.block)(u:Value):Reads (w.setCell p u) B size A n xs:=
 h.keep fun q hq=>World.cell?_setCell_other w p q u (fun e=>by subst e;omega)
theorem Reads.grown(h:Reads w B size A n xs){row:Option Nat}(hg:w.grownBy w' row)(hB:B≤w.heap.size)(hr:∀g,row=some g→B≤g):Reads w' B size A n xs:=
 h.keep fun p hp=>World.cell?_of_block (hg.block p.block (by omega) (fun e=>by have:=hr _ e.symm;omega))
theorem Reads.cut(h:Reads w B size A n xs){k cap:Nat}(hk:k≤n)(hc:n≤cap):
  Reads w B size (if cap=k then A else A.map (·.add (k*size))) (n-k) (xs.drop (k*size)):=by
 refine⟨by rw[List.length_drop,h.1,Nat.sub_mul],fun hn=> ?_⟩
 obtain⟨ad,rfl,hb,hcell⟩:=h.2 (by omega)
 rw[if_neg (by omega)]
 refine⟨ad.add (k*size),rfl,by rw[nR];exact hb,fun j u hu=> ?_⟩
 rw[lU]
 exact hcell _ u (by rw[←hu,List.getElem?_drop])
theorem Reads.iH{base:Nat}{e:TypeId}{c:Nat}(h:w.ownsRow base e size (.slice A n c) n xs):Reads w w.heap.size size A n xs:=by
 refine⟨h.1,fun hn=> ?_⟩
 obtain⟨g,cap,hv,_,hlt⟩:=h.form hn
 have hA:A=some ⟨g,0,none⟩:=by injection hv
 subst hA
 exact⟨_,rfl,hlt,h.cells (g:=g) rfl⟩
end
def Blk(w:World)(g:Nat)(t:TypeId)(cs:Array Value):Prop:=w.heap[g]? =some (.cells cs t (0,0))
section
variable {w w':World} {g:Nat} {t:TypeId} {cs:Array Value}
theorem Blk.lt(h:Blk w g t cs):g<w.heap.size:=by
 rcases Nat.lt_or_ge g w.heap.size with hlt|hge
 ·exact hlt
 ·unfold Blk at h;rw[Array.getElem?_eq_none hge]at h;cases h
theorem Blk.cell(h:Blk w g t cs)(i:Nat):w.cell? ⟨g,i,none⟩=cs[i]? :=cell_of_row w g i cs t (0,0) h
theorem Blk.frozen(h:Blk w g t cs)(i:Nat):w.frozen? ⟨g,i,none⟩=false:=by
 unfold Blk at h
 simp[World.frozen?,h]
theorem Blk.new(w:World)(t:TypeId)(cs:Array Value):Blk (w.alloc (.cells cs t)) w.heap.size t cs:=heap_alloc_new w _
theorem Blk.drew(h:Blk w g t cs):Blk w.drew g t cs:=h
theorem Blk.drewN(h:Blk w g t cs)(n:Nat):Blk (w.drewN n) g t cs:=h
theorem Blk.alloc(h:Blk w g t cs)(o:Obj):Blk (w.alloc o) g t cs:=(Below.heap_alloc w o g h.lt).trans h
theorem Blk.aW(h:Blk w g t cs)(i:Nat)(u:Value):Blk (w.setCell ⟨g,i,none⟩ u) g t (cs.setIfInBounds i u):=by
 unfold Blk at h⊢
 simp[World.setCell,Array.getElem?_modify,h]
theorem Blk.far(h:Blk w g t cs){p:Addr}(hp:g≠p.block)(u:Value):Blk (w.setCell p u) g t cs:=(Below.heap_setCell w p u g hp).trans h
theorem Blk.below{B:Nat}(h:Blk w g t cs)(hb:Below B w w')(hg:g<B):Blk w' g t cs:=(hb.block g hg).trans h
theorem Blk.grown{row:Option Nat}(h:Blk w g t cs)(hb:w.grownBy w' row)(hg:some g≠row):Blk w' g t cs:=(hb.block g h.lt hg).trans h
theorem Blk.ne_{g':Nat}{t':TypeId}{cs':Array Value}(h:Blk w g t cs)(h':Blk w g' t' cs')(hne:t≠t'):g≠g':=by
 rintro rfl
 unfold Blk at h h'
 rw[h]at h'
 injection h' with h'
 injection h' with _ ht
 exact hne ht
theorem gI{base:Nat}{e:TypeId}{size n:Nat}{v:Value}{xs:List Value}(h:w.ownsRow base e size v n xs)(hg:Blk w g t cs)(hne:e≠t):v.ownBlock≠some g:=by
 rcases h.2 with⟨rfl,_⟩|⟨g',cap,cur,rfl,_,hh,_⟩
 ·simp[Value.ownBlock]
 ·intro he
  have:g'=g:=by simpa [Value.ownBlock]using he
  subst this
  exact Blk.ne_ (t:=e) hh hg hne rfl
end
section
variable {P:Program} (w:World)
theorem ru(base:Nat)(t ty e:TypeId)(i:TypeInfo)(size:Nat)(ht:P.underlying t=some (.slice e))(hi:P.info? e=some i)
  (v:Value) (n:Nat) (xs:List Value) (hown:w.ownsRow base e size v n xs) (c:Nat):(Builtin.append_ #[t,t] ty #[v,.slice none 0 c]).run P w= .ok v w:=by
 rcases hown.2 with⟨rfl,rfl⟩|⟨g,cap,cur,rfl,_,_,hnc,_⟩
 ·simp[Builtin.append_,run_underlying ht,sizeOf,typeInfo,hi,Builtin.lenOf,Builtin.firstCells]
 ·simp[Builtin.append_,run_underlying ht,sizeOf,typeInfo,hi,Builtin.lenOf,Builtin.firstCells,hnc,storeCells]
theorem vg(base:Nat)(t ty e:TypeId)(i:TypeInfo)(z:Value)(size bytes:Nat)(ht:P.underlying t=some (.slice e))(hi:P.info? e=some i)(hz:i.zero=some z)
  (hsize:i.size=size) (hby:i.bytes=bytes) (hzs:z.cells.size=size) (hsz:0<size)
  (v:Value) (n:Nat) (xs:List Value) (hown:w.ownsRow base e size v n xs)
  (B:Nat) (A:Option Addr) (m c:Nat) (news:List Value) (hr:Reads w B size A m news) (h1:∀u∈news,u.oneCell'=true)
  (h63:n+m≤maxLen) (hbytes:(n+m)*bytes≤140737488355328) (hbase:base≤w.heap.size):
  ∃v' w',(Builtin.append_ #[t,t] ty #[v,.slice A m c]).run P w= .ok v' w'∧w'.ownsRow base e size v' (n+m) (xs++news)∧w.grownBy w' v.ownBlock∧
   (v'.ownBlock=v.ownBlock∨v'.ownBlock=some w.heap.size):=by
 rcases A with _|ad
 ·have hm:m=0:=by
   rcases Nat.eq_zero_or_pos m with h0|h0
   ·exact h0
   ·obtain⟨ad,h,_⟩:=hr.2 h0
    cases h
  subst hm
  have hn:news=[]:=List.eq_nil_of_length_eq_zero (by simpa using hr.1)
  subst hn
  exact⟨v,w,ru w base t ty e i size ht hi v n xs hown c,by simpa using hown,World.grownBy.refl w _,.inl rfl⟩
 ·have hcells:∀j u,news[j]? =some u→w.cell? (ad.add j)=some u:=by
   intro j u hu
   rcases Nat.eq_zero_or_pos m with h0|h0
   ·subst h0
    have hn:news=[]:=List.eq_nil_of_length_eq_zero (by simpa using hr.1)
    subst hn
    simp at hu
   ·obtain⟨ad',h,_,hc⟩:=hr.2 h0
    injection h with h
    subst h
    exact hc j u hu
  obtain⟨v',w',hrun,h2,h3,_,h5⟩:=run_append_own_at (P:=P) w base t ty e i z size bytes ht hi hz hsize hby hzs hsz v n xs hown ad m c news hr.1 hcells h1 h63 hbytes hbase
  exact⟨v',w',hrun,h2,h3,h5⟩
theorem qw{o:Oper}{a:Act}{K:Act→World→Prop}{Q:Exit→Act→World→Prop}(s x:Operand)(t:TypeId)
  (ho:o.op= .call {callee:= .builtin .append,args:= #[s,x],argTypes:= #[t,t]})
  (base:Nat) (e:TypeId) (i:TypeInfo) (z:Value) (size bytes:Nat) (ht:P.underlying t=some (.slice e)) (hi:P.info? e=some i) (hz:i.zero=some z)
  (hsize:i.size=size) (hby:i.bytes=bytes) (hzs:z.cells.size=size) (hsz:0<size)
  (v:Value) (n:Nat) (xs:List Value) (hs:a.eval s=v) (hown:w.ownsRow base e size v n xs)
  (B:Nat) (A:Option Addr) (m c:Nat) (news:List Value) (hx:a.eval x= .slice A m c) (hr:Reads w B size A m news) (h1:∀u∈news,u.oneCell'=true)
  (h63:n+m≤maxLen) (hbytes:(n+m)*bytes≤140737488355328) (hbase:base≤w.heap.size)
  (h:∀v' w',w'.ownsRow base e size v' (n+m) (xs++news)→w.grownBy w' v.ownBlock→(v'.ownBlock=v.ownBlock∨v'.ownBlock=some w.heap.size)→K (a.put o.dst v') w'):o.wp P a w K Q:=by
 obtain⟨v',w',hrun,h2,h3,h4⟩:=vg (P:=P) w base t o.type e i z size bytes ht hi hz hsize hby hzs hsz v n xs hown B A m c news hr h1 h63 hbytes hbase
 unfold Oper.wp execOp
 simp only[ho,resolve,invoke,builtin,Sem.run_bind,Sem.run_pure,Result.andThen_ok,List.map_toArray,List.map_cons,List.map_nil,hs,hx,hrun]
 exact h v' w' h2 h3 h4
theorem jA{ops:Array Oper}{rest:List Oper}{o:Oper}{a:Act}{Q:Exit→Act→World→Prop}(hgd:o.guard=none)(s x:Operand)(t:TypeId)
  (ho:o.op= .call {callee:= .builtin .append,args:= #[s,x],argTypes:= #[t,t]})
  (base:Nat) (e:TypeId) (i:TypeInfo) (z:Value) (size bytes:Nat) (ht:P.underlying t=some (.slice e)) (hi:P.info? e=some i) (hz:i.zero=some z)
  (hsize:i.size=size) (hby:i.bytes=bytes) (hzs:z.cells.size=size) (hsz:0<size)
  (v:Value) (n:Nat) (xs:List Value) (hs:a.eval s=v) (hown:w.ownsRow base e size v n xs)
  (B:Nat) (A:Option Addr) (m c:Nat) (news:List Value) (hx:a.eval x= .slice A m c) (hr:Reads w B size A m news) (h1:∀u∈news,u.oneCell'=true)
  (h63:n+m≤maxLen) (hbytes:(n+m)*bytes≤140737488355328) (hbase:base≤w.heap.size)
  (h:∀v' w',w'.ownsRow base e size v' (n+m) (xs++news)→w.grownBy w' v.ownBlock→(v'.ownBlock=v.ownBlock∨v'.ownBlock=some w.heap.size)→wpList P ops Q rest (a.put o.dst v') w'):wpList P ops Q (o::rest) a w:=
 wpList_plain hgd fun _ hK=>qw w s x t ho base e i z size bytes ht hi hz hsize hby hzs hsz v n xs hs hown B A m c news hx hr h1 h63 hbytes hbase fun v' w' h2 h3 h4=>hK _ _ (h v' w' h2 h3 h4)
theorem oJ{ops:Array Oper}{o:Oper}{a:Act}{K:Act→World→Prop}{Q:Exit→Act→World→Prop}{E:Prop}(hgd:o.guard=none)(s x:Operand)(t:TypeId)
  (ho:o.op= .call {callee:= .builtin .append,args:= #[s,x],argTypes:= #[t,t]})
  (base:Nat) (e:TypeId) (i:TypeInfo) (z:Value) (size bytes:Nat) (ht:P.underlying t=some (.slice e)) (hi:P.info? e=some i) (hz:i.zero=some z)
  (hsize:i.size=size) (hby:i.bytes=bytes) (hzs:z.cells.size=size) (hsz:0<size)
  (v:Value) (n:Nat) (xs:List Value) (hs:a.eval s=v) (hown:w.ownsRow base e size v n xs)
  (B:Nat) (A:Option Addr) (m c:Nat) (news:List Value) (hx:a.eval x= .slice A m c) (hr:Reads w B size A m news) (h1:∀u∈news,u.oneCell'=true)
  (h63:n+m≤maxLen) (hbytes:(n+m)*bytes≤140737488355328) (hbase:base≤w.heap.size)
  (h:∀v' w',w'.ownsRow base e size v' (n+m) (xs++news)→w.grownBy w' v.ownBlock→(v'.ownBlock=v.ownBlock∨v'.ownBlock=some w.heap.size)→K (a.put o.dst v') w'):
  if Region.wanted o (yielded ops a.tmps)=true then Oper.wp P o a w K Q else E:=by
 have hw:Region.wanted o (yielded ops a.tmps)=true:=by simp[Region.wanted,hgd]
 rw[if_pos hw]
 exact qw w s x t ho base e i z size bytes ht hi hz hsize hby hzs hsz v n xs hs hown B A m c news hx hr h1 h63 hbytes hbase h
end
def Row(w:World)(e size:Nat)(A:Option Addr)(n:Nat)(xs:List Value):Prop:=
 xs.length=n*size∧(0<n→∃g o cur fr,A=some ⟨g,o,none⟩∧w.heap[g]? =some (Obj.cells cur e fr)∧∀j u,xs[j]? =some u→cur[o+j]? =some u)
section
variable {w w':World} {e size n:Nat} {A:Option Addr} {xs:List Value}
theorem Row.none_:Row w e size A 0 []:=⟨by simp,fun h=>absurd h (by omega)⟩
theorem Row.keep(h:Row w e size A n xs)(hk:∀(g:Nat) cur fr,w.heap[g]? =some (Obj.cells cur e fr)→w'.heap[g]? =w.heap[g]?):Row w' e size A n xs:=
 ⟨h.1,fun hn=>by
  obtain⟨g,o,cur,fr,hA,hg,hc⟩:=h.2 hn
  exact⟨g,o,cur,fr,hA,(hk g cur fr hg).trans hg,hc⟩⟩
theorem dP{g:Nat}{x:Obj}(h:w.heap[g]? =some x):g<w.heap.size:=by
 rcases Nat.lt_or_ge g w.heap.size with hlt|hge
 ·exact hlt
 ·rw[Array.getElem?_eq_none hge]at h;cases h
theorem Row.below{B:Nat}(h:Row w e size A n xs)(hb:Below B w w')(hB:w.heap.size≤B):Row w' e size A n xs:=
 h.keep fun g _ _ hg=>hb.block g (by have:=dP hg;omega)
theorem Row.drew(h:Row w e size A n xs):Row w.drew e size A n xs:=h
theorem Row.drewN(h:Row w e size A n xs)(k:Nat):Row (w.drewN k) e size A n xs:=h
theorem Row.alloc(h:Row w e size A n xs)(x:Obj):Row (w.alloc x) e size A n xs:=
 h.keep fun g _ _ hg=>Below.heap_alloc w x g (dP hg)
theorem Row.setCell{t:TypeId}{p:Addr}{cs:Array Value}{fr':Nat×Nat}(h:Row w e size A n xs)(hp:w.heap[p.block]? =some (Obj.cells cs t fr'))(hne:t≠e)(u:Value):Row (w.setCell p u) e size A n xs:=
 h.keep fun g cur fr hg=>Below.heap_setCell w p u g (by
  rintro rfl
  rw[hp]at hg
  injection hg with hg
  injection hg with _ ht
  exact hne ht)
theorem Row.grown{row:Option Nat}(h:Row w e size A n xs)(hg:w.grownBy w' row)(hr:∀(g:Nat),row=some g→∀cur fr,w.heap[g]? ≠some (Obj.cells cur e fr)):Row w' e size A n xs:=
 h.keep fun g cur fr hc=>hg.block g (dP hc) (fun he=>hr g he.symm cur fr hc)
theorem Row.cell{g o:Nat}(h:Row w e size (some ⟨g,o,none⟩) n xs){j:Nat}{u:Value}(hj:xs[j]? =some u):w.cell? ⟨g,o+j,none⟩=some u:=by
 have hn:0<n:=by
  rcases Nat.eq_zero_or_pos n with h0|h0
  ·have:=h.1
   rw[h0,Nat.zero_mul]at this
   rw[List.eq_nil_of_length_eq_zero this]at hj
   simp at hj
  ·exact h0
 obtain⟨g',o',cur,fr,hA,hg,hc⟩:=h.2 hn
 obtain⟨rfl,rfl⟩:g=g'∧o=o':=by
  injection hA with hA
  injection hA with h1 h2
  exact⟨h1,h2⟩
 unfold World.cell?
 rw[hg]
 exact hc j u hj
theorem Row.form(h:Row w e size A n xs)(hn:0<n):∃g o,A=some ⟨g,o,none⟩∧g<w.heap.size:=by
 obtain⟨g,o,cur,fr,hA,hg,_⟩:=h.2 hn
 exact⟨g,o,hA,dP hg⟩
theorem Row.reads(h:Row w e size A n xs):Reads w w.heap.size size A n xs:=by
 refine⟨h.1,fun hn=> ?_⟩
 obtain⟨g,o,rfl,hlt⟩:=h.form hn
 refine⟨_,rfl,hlt,fun j u hu=> ?_⟩
 rw[Addr.add_lit]
 exact h.cell hu
theorem Row.iH{base c:Nat}(h:w.ownsRow base e size (.slice A n c) n xs):Row w e size A n xs:=by
 refine⟨h.1,fun hn=> ?_⟩
 rcases h.2 with⟨_,h0⟩|⟨g,cap,cur,hv,_,hg,_,_,hs,ht⟩
 ·omega
 ·injection hv with hA
  refine⟨g,0,cur,(0,0),hA,hg,fun j u hu=> ?_⟩
  rw[←ht]at hu
  have hj:=(List.getElem?_eq_some_iff.1 hu).1
  rw[List.getElem?_take_of_lt (by simp at hj;omega)]at hu
  rw[Nat.zero_add]
  simpa using hu
theorem Row.new(w:World)(e size n:Nat)(cs:Array Value)(fr:Nat×Nat)(xs:List Value)(hx:xs.length=n*size)(hc:∀(j:Nat) u,xs[j]? =some u→cs[j]? =some u):
  Row (w.alloc (.cells cs e fr)) e size (some ⟨w.heap.size,0,none⟩) n xs:=
 ⟨hx,fun _=>⟨_,0,cs,fr,rfl,heap_alloc_new w _,fun j u hu=>by rw[Nat.zero_add];exact hc j u hu⟩⟩
end
end Go.Proofs.YtkblmloobkiloaaGreatDoor
namespace Go.Proofs.YtkblmloobkiloaaGreatDoor
open Go.Lib (hid)
structure oO where
 name:ByteArray
 leader:ByteArray
 members:List ByteArray
 key:ByteArray
theorem Nv(a b:ByteArray):(a.toList==b.toList)=decide (a=b):=by
 rw[Bool.eq_iff_iff,beq_iff_eq,decide_eq_true_iff,ByteArray.toList_eq,ByteArray.toList_eq]
 constructor
 ·intro h
  apply ByteArray.ext
  exact Array.toList_inj.1 h
 ·rintro rfl;rfl
def ofL(l:List UInt8):ByteArray:=⟨l.toArray⟩
theorem vk(s:ByteArray):ofL s.data.toList=s:=by apply ByteArray.ext;simp[ofL]
/-! ### cutting at a byte -/
def yt(c:UInt8):List UInt8→List (List UInt8)
 | []=>[[]]
 |b::l=>if b=c then []::yt c l else match yt c l with| []=>[[b]]|h::t=>(b::h)::t
theorem yT(c:UInt8):∀(l:List UInt8),(∀x∈l,x≠c)→yt c l=[l]
 | [],_=>rfl
 |b::l,h=>by
  rw[yt,if_neg (h b List.mem_cons_self),yT c l (fun x hx=>h x (List.mem_cons_of_mem _ hx))]
theorem BP(c:UInt8)(rest:List UInt8):∀(l:List UInt8),(∀x∈l,x≠c)→yt c (l++c::rest)=l::yt c rest
 | [],_=>by rw[List.nil_append,yt,if_pos rfl]
 |b::l,h=>by
  rw[List.cons_append,yt,if_neg (h b List.mem_cons_self),BP c rest l (fun x hx=>h x (List.mem_cons_of_mem _ hx))]
def cut(c:UInt8)(s:ByteArray):List ByteArray:=(yt c s.data.toList).map ofL
/-! ### characters -/
def gq(s:ByteArray):Nat→Nat→Bool
 |0,_=>true
 |f+1,pos=>if pos<s.size then(if(Utf8.decode s pos).1=0∨((Utf8.decode s pos).1=65533∧(Utf8.decode s pos).2=1)then false else gq s f (pos+(Utf8.decode s pos).2))else true
def good(s:ByteArray):Bool:=gq s s.size 0
def PG(c:UInt8):Bool:= !(decide (c.toNat<33)||decide (c.toNat=127)||decide (c.toNat=58)||decide (c.toNat=44)||decide (c.toNat=35)||decide (c.toNat=47))
def isName(s:ByteArray):Bool:=decide (1≤s.size)&&decide (s.size≤32)&&good s&&s.data.toList.all PG
def Nw(c:UInt8):Bool:= !(decide (c.toNat<33)||decide (126<c.toNat)||decide (c.toNat=58))
def isKey(s:ByteArray):Bool:=decide (s.size≤32)&&s.data.toList.all Nw
def formed(a:oO):Bool:=isName a.name&&(decide (a.leader.size=0)||isName a.leader)&&a.members.all isName&&isKey a.key
def account(line:ByteArray):Option oO:=
 match cut 58 line with
 | [a,b,c,d]=>
  let x:oO:= {name:=a,leader:=b,members:=if c.size=0 then []else cut 44 c,key:=d}
  if formed x then some x else none
 |_=>none
def has(l:List ByteArray)(s:ByteArray):Bool:=l.any (fun y=>decide (y=s))
def yU(all:List ByteArray):List ByteArray→Nat→Bool
 | [],_=>false
 |x::l,i=>has (all.take i) x||yU all l (i+1)
def twice(l:List ByteArray):Bool:=yU l l 0
def PI(L:List oO)(s:ByteArray):Option Nat:=L.findIdx? (fun a=>decide (a.name=s))
def known(L:List oO)(s:ByteArray):Bool:=L.any (fun a=>decide (a.name=s))
def knows(L:List oO)(a:oO):Bool:=(decide (a.leader.size=0)||known L a.leader)&&a.members.all (known L)
/-! ### what a table tells -/
def JO(L:List oO)(u g:ByteArray):Bool:=L.any (fun a=>decide (a.name=g)&&(decide (u=g)||has a.members u))
def leads(L:List oO)(u g:ByteArray):Bool:=
 match L.find? (fun a=>decide (a.name=g))with
 |none=>false
 |some a=>known L u&&(if a.leader.size=0 then JO L u g else decide (a.leader=u))
theorem dU(l:List UInt8):(ofL l).size=l.length:=by simp[ofL,ByteArray.size]
def eF(s:ByteArray)(i:Nat)(lo hi:Nat):Bool:=decide (i<s.size)&&(decide (lo≤(s.get! i).toNat)&&decide ((s.get! i).toNat≤hi))
def lM(s:ByteArray)(i:Nat):Nat:=
 if eF s i 0 127 then 1
 else if eF s i 194 223&&eF s (i+1) 128 191 then 2
 else
  let lo:=if eF s i 224 224 then 160 else 128
  let hi:=if eF s i 237 237 then 159 else 191
  if eF s i 224 239&&eF s (i+1) lo hi&&eF s (i+2) 128 191 then 3
  else
   let lo:=if eF s i 240 240 then 144 else lo
   let hi:=if eF s i 244 244 then 143 else hi
   if eF s i 240 244&&eF s (i+1) lo hi&&eF s (i+2) 128 191&&eF s (i+3) 128 191 then 4 else 0
def oP(n b0 b1 b2 b3:Nat):Nat:=
 if b0≤127 then 1
 else if(194≤b0∧b0≤223)∧(1<n∧128≤b1∧b1≤191)then 2
 else if(224≤b0∧b0≤239)∧(1<n∧(if b0=224 then 160 else 128)≤b1∧b1≤(if b0=237 then 159 else 191))∧(2<n∧128≤b2∧b2≤191)then 3
 else if(240≤b0∧b0≤244)∧(1<n∧(if b0=240 then 144 else if b0=224 then 160 else 128)≤b1∧b1≤(if b0=244 then 143 else if b0=237 then 159 else 191))∧(2<n∧128≤b2∧b2≤191)∧(3<n∧128≤b3∧b3≤191)then 4 else 0
theorem z_(n b0 b1 b2 b3:Nat)(h0:b0<256)(h1:b1<256)(h2:b2<256)(h3:b3<256)(r k:Nat)(hd:Lib.decodeN n b0 b1 b2 b3=(r,k)):
  oP n b0 b1 b2 b3=if r=65533∧k=1 then 0 else k:=by
 unfold Lib.decodeN at hd
 repeat' split at hd
 all_goals
  simp only[Prod.mk.injEq]at hd
  obtain⟨rfl,rfl⟩:=hd
 ·rw[if_neg (by omega)];unfold oP;rw[if_pos (by omega)]
 ·rw[if_neg (by omega)];unfold oP;rw[if_neg (by omega),if_pos (by omega)]
 ·rw[if_pos ⟨rfl,rfl⟩];unfold oP;rw[if_neg (by omega),if_neg (by omega),if_neg (by omega),if_neg (by omega)]
 ·rw[if_neg (by omega)];unfold oP;rw[if_neg (by omega),if_neg (by omega)]
  rw[if_pos (by(repeat' split)<;>omega)]
 ·rw[if_pos ⟨rfl,rfl⟩];unfold oP;rw[if_neg (by omega),if_neg (by omega)]
  rw[if_neg (by(repeat' split)<;>omega),if_neg (by omega)]
 ·rw[if_neg (by omega)];unfold oP;rw[if_neg (by omega),if_neg (by omega),if_neg (by omega)]
  rw[if_pos (by(repeat' split)<;>omega)]
 ·rw[if_pos ⟨rfl,rfl⟩];unfold oP;rw[if_neg (by omega),if_neg (by omega),if_neg (by omega)]
  rw[if_neg (by(repeat' split)<;>omega)]
 ·rw[if_pos ⟨rfl,rfl⟩];unfold oP
  rw[if_neg (by omega),if_neg (by omega),if_neg (by(repeat' split)<;>omega),if_neg (by(repeat' split)<;>omega)]
theorem Ny(s:ByteArray)(i:Nat)(hi:i<s.size):lM s i=oP (s.size-i) (s.get! i).toNat (s.get! (i+1)).toNat (s.get! (i+2)).toNat (s.get! (i+3)).toNat:=by
 have e1:decide (i+1<s.size)=decide (1<s.size-i):=by rw[Bool.eq_iff_iff];simp;omega
 have e2:decide (i+2<s.size)=decide (2<s.size-i):=by rw[Bool.eq_iff_iff];simp;omega
 have e3:decide (i+3<s.size)=decide (3<s.size-i):=by rw[Bool.eq_iff_iff];simp;omega
 have e0:decide (i<s.size)=true:=decide_eq_true hi
 unfold lM eF oP
 rw[e0,e1,e2,e3]
 generalize(s.get! i).toNat=b0
 generalize(s.get! (i+1)).toNat=b1
 generalize(s.get! (i+2)).toNat=b2
 generalize(s.get! (i+3)).toNat=b3
 generalize s.size-i=n
 simp only[Bool.true_and,Nat.zero_le,decide_true,Bool.and_eq_true,decide_eq_true_eq]
 have p1:(224≤b0∧b0≤224)=(b0=224):=propext (by omega)
 have p2:(237≤b0∧b0≤237)=(b0=237):=propext (by omega)
 have p3:(240≤b0∧b0≤240)=(b0=240):=propext (by omega)
 have p4:(244≤b0∧b0≤244)=(b0=244):=propext (by omega)
 simp only[p1,p2,p3,p4,and_assoc]
theorem Aa(s:ByteArray)(i:Nat)(hi:i<s.size):lM s i=if(Utf8.decode s i).1=65533∧(Utf8.decode s i).2=1 then 0 else(Utf8.decode s i).2:=by
 rw[Ny s i hi,Lib.decode_at]
 exact z_ _ _ _ _ _ (UInt8.toNat_lt _) (UInt8.toNat_lt _) (UInt8.toNat_lt _) (UInt8.toNat_lt _) _ _ rfl
theorem piece(s:ByteArray)(i:Nat)(hi:i<s.size)(hg:¬((Utf8.decode s i).1=65533∧(Utf8.decode s i).2=1)):
  i+(Utf8.decode s i).2≤s.size∧((Utf8.decode s i).1<128→(Utf8.decode s i).2=1∧(s.get! i).toNat=(Utf8.decode s i).1)∧(128≤(Utf8.decode s i).1→∀j,j<(Utf8.decode s i).2→128≤(s.get! (i+j)).toNat):=by
 rw[Lib.decode_at]at hg⊢
 have h0:=UInt8.toNat_lt (s.get! i)
 have h1:=UInt8.toNat_lt (s.get! (i+1))
 have h2:=UInt8.toNat_lt (s.get! (i+2))
 have h3:=UInt8.toNat_lt (s.get! (i+3))
 generalize hb1:(s.get! (i+1)).toNat=b1 at*
 generalize hb2:(s.get! (i+2)).toNat=b2 at*
 generalize hb3:(s.get! (i+3)).toNat=b3 at*
 generalize hb0:(s.get! i).toNat=b0 at*
 generalize hd:Lib.decodeN (s.size-i) b0 b1 b2 b3=d at*
 obtain⟨r,k⟩:=d
 unfold Lib.decodeN at hd
 repeat' split at hd
 all_goals
  simp only[Prod.mk.injEq]at hd
  obtain⟨rfl,rfl⟩:=hd
 ·exact⟨by omega,fun _=>⟨rfl,rfl⟩,fun h=>by omega⟩
 ·refine⟨by omega,fun h=>by omega,fun _ j hj=> ?_⟩
  match j,hj with
  |0,_=>rw[Nat.add_zero];omega
  |1,_=>omega
 ·exact absurd ⟨rfl,rfl⟩ hg
 ·refine⟨by omega,fun h=>by omega,fun _ j hj=> ?_⟩
  match j,hj with
  |0,_=>rw[Nat.add_zero];omega
  |1,_=>omega
  |2,_=>omega
 ·exact absurd ⟨rfl,rfl⟩ hg
 ·refine⟨by omega,fun h=>by omega,fun _ j hj=> ?_⟩
  match j,hj with
  |0,_=>rw[Nat.add_zero];omega
  |1,_=>omega
  |2,_=>omega
  |3,_=>omega
 ·exact absurd ⟨rfl,rfl⟩ hg
 ·exact absurd ⟨rfl,rfl⟩ hg
theorem BQ(s:ByteArray)(i:Nat)(hi:i<s.size):((s.get! i).toNat=0)↔(Utf8.decode s i).1=0:=by
 by_cases hg:(Utf8.decode s i).1=65533∧(Utf8.decode s i).2=1
 ·rw[hg.1]
  constructor
  ·intro h
   have:Utf8.decode s i=(0,1):=by
    rw[Lib.decode_at,h]
    rfl
   rw[this]at hg
   simp at hg
  ·intro h;cases h
 ·obtain⟨_,h1,h2⟩:=piece s i hi hg
  have hw:=Lib.width_pos s i
  by_cases hlow:(Utf8.decode s i).1<128
  ·rw[(h1 hlow).2]
  ·have:=h2 (by omega) 0 (by omega)
   rw[Nat.add_zero]at this
   constructor<;>omega
def badR(s:ByteArray):Nat→Nat→Nat
 |0,_=>s.size
 |f+1,i=>if i<s.size then(if lM s i=0∨(s.get! i).toNat=0 then i else badR s f (i+lM s i))else s.size
theorem yV(s:ByteArray):∀(f i:Nat),badR s f i=s.size↔gq s f i=true
 |0,i=>by simp[badR,gq]
 |f+1,i=>by
  unfold badR gq
  by_cases hi:i<s.size
  ·rw[if_pos hi,if_pos hi,Aa s i hi]
   simp only[BQ s i hi]
   have hw:=Lib.width_pos s i
   by_cases hb:(Utf8.decode s i).1=65533∧(Utf8.decode s i).2=1
   ·rw[if_pos hb,if_pos (.inl rfl),if_pos (.inr hb)]
    constructor
    ·intro h;omega
    ·intro h;cases h
   ·rw[if_neg hb]
    by_cases hz:(Utf8.decode s i).1=0
    ·rw[if_pos (.inr hz),if_pos (.inl hz)]
     constructor
     ·intro h;omega
     ·intro h;cases h
    ·rw[if_neg (by rintro(h|h);omega;exact hz h),if_neg (by rintro(h|h);exact hz h;exact hb h)]
     exact yV s f _
  ·rw[if_neg hi,if_neg hi];simp
open Go.RowKit
theorem jP{k:IntKind}{a b:Int}(h:a=b):Ending.returned (.int k a)= .returned (.int k b):=by rw[h]
theorem cZ{a b:Bool}(h:a=b):Ending.returned (.bool a)= .returned (.bool b):=by rw[h]
theorem Ac{a b:ByteArray}(h:a=b):Ending.returned (.string a)= .returned (.string b):=by rw[h]
def nC(w w':World):Prop:=∃n,w'=w.drewN n
theorem nC.refl(w:World):nC w w:=⟨0,rfl⟩
theorem nC.next{w w':World}(h:nC w w')(k:Nat):nC w (w'.drewN k):=by obtain⟨n,rfl⟩:=h;exact⟨n+k,by rw[World.drewN_drewN]⟩
theorem nC.heap{w w':World}(h:nC w w'):w'.heap=w.heap:=by obtain⟨n,rfl⟩:=h;rfl
theorem nC.trans{a b c:World}(h:nC a b)(k:nC b c):nC a c:=by obtain⟨n,rfl⟩:=k;exact h.next n
theorem nC.below{w w':World}(h:nC w w')(B:Nat):Below B w w':=by
 obtain⟨n,rfl⟩:=h
 exact⟨rfl,rfl,rfl,Nat.le_refl _,fun _ _=>rfl⟩
def Strs(w:World)(v:Value)(l:List ByteArray):Prop:=
 ∃A c,v= .slice A l.length c∧l.length≤c∧c≤maxLen∧Row w 9 1 A l.length (l.map Value.string)
section
variable {w w':World} {v:Value} {l:List ByteArray}
theorem Strs.nil_(w:World):Strs w (.slice none 0 0) []:=⟨none,0,rfl,Nat.le_refl _,Nat.zero_le _,Row.none_⟩
theorem Strs.below{B:Nat}(h:Strs w v l)(hb:Below B w w')(hB:w.heap.size≤B):Strs w' v l:=by
 obtain⟨A,c,hv,h1,h2,hr⟩:=h;exact⟨A,c,hv,h1,h2,hr.below hb hB⟩
theorem Strs.alloc(h:Strs w v l)(x:Obj):Strs (w.alloc x) v l:=by
 obtain⟨A,c,hv,h1,h2,hr⟩:=h;exact⟨A,c,hv,h1,h2,hr.alloc x⟩
theorem Strs.drewN(h:Strs w v l)(k:Nat):Strs (w.drewN k) v l:=h
theorem Strs.drew(h:Strs w v l):Strs w.drew v l:=h
theorem Strs.keep(h:Strs w v l)(hk:∀(g:Nat) cur fr,w.heap[g]? =some (Obj.cells cur 9 fr)→w'.heap[g]? =w.heap[g]?):Strs w' v l:=by
 obtain⟨A,c,hv,h1,h2,hr⟩:=h;exact⟨A,c,hv,h1,h2,hr.keep hk⟩
theorem Strs.iH{base n:Nat}(h:w.ownsRow base 9 1 v n (l.map Value.string))(hn:n=l.length):Strs w v l:=by
 subst hn
 rcases h.2 with⟨rfl,h0⟩|⟨g,cap,cur,rfl,_,hg,hc,hm,hs,ht⟩
 ·have:l=[]:=List.eq_nil_of_length_eq_zero h0
  subst this
  exact Strs.nil_ w
 ·exact⟨_,cap,rfl,hc,hm,Row.iH h⟩
theorem Strs.new(w:World)(cs:Array Value)(fr:Nat×Nat)(l:List ByteArray)(c:Nat)(hc:l.length≤c)(hm:c≤maxLen)(hx:∀(j:Nat) u,(l.map Value.string)[j]? =some u→cs[j]? =some u):
  Strs (w.alloc (.cells cs 9 fr)) (.slice (some ⟨w.heap.size,0,none⟩) l.length c) l:=
 ⟨_,c,rfl,hc,hm,Row.new w _ 1 _ cs fr _ (by simp) hx⟩
theorem Strs.at_(h:Strs w v l){k:Nat}{x:ByteArray}(hk:l[k]? =some x):∃g o c,v= .slice (some ⟨g,o,none⟩) l.length c∧l.length≤c∧w.cell? ⟨g,o+k,none⟩=some (.string x):=by
 obtain⟨A,c,rfl,h1,_,hr⟩:=h
 have hl:k<l.length:=(List.getElem?_eq_some_iff.1 hk).1
 obtain⟨g,o,rfl,_⟩:=hr.form (by omega)
 exact⟨g,o,c,rfl,h1,hr.cell (by rw[List.getElem?_map,hk];rfl)⟩
end
section
variable {w w':World} {v:Value} {L:List oO}
end
section
variable {w w':World} {base e size n:Nat} {v:Value} {xs:List Value}
theorem own_below(h:w.ownsRow base e size v n xs)(hb:Below w.heap.size w w'):w'.ownsRow base e size v n xs:=by
 refine⟨h.1, ?_⟩
 rcases h.2 with h0|⟨g,cap,cur,hv,hbg,hg,hr⟩
 ·exact .inl h0
 ·exact .inr ⟨g,cap,cur,hv,hbg,(hb.block g (dP hg)).trans hg,hr⟩
theorem pV(h:w.ownsRow base e size v n xs){g:Nat}{cur:Array Value}{t:TypeId}{fr:Nat×Nat}(hg:w.heap[g]? =some (.cells cur t fr))(hne:t≠e):some g≠v.ownBlock:=by
 intro he
 obtain⟨c,fz,hk⟩:=Go.Lib.ownsRow_kind h g he.symm
 rw[hg]at hk
 injection hk with hk
 injection hk with _ ht
 exact hne ht
theorem yX{w:World}{base' e' size' m:Nat}{u:Value}{ys:List Value}(h:w.ownsRow base e size v n xs)(ho:w.ownsRow base' e' size' u m ys)(hg:w.grownBy w' u.ownBlock)(hne:e≠e'):w'.ownsRow base e size v n xs:=by
 refine⟨h.1, ?_⟩
 rcases h.2 with h0|⟨g,cap,cur,hv,hbg,hgc,hr⟩
 ·exact .inl h0
 ·exact .inr ⟨g,cap,cur,hv,hbg,(hg.block g (dP hgc) (pV ho hgc hne)).trans hgc,hr⟩
theorem Strs.grown{u:Value}{l:List ByteArray}(hs:Strs w u l)(h:w.ownsRow base e size v n xs)(hg:w.grownBy w' v.ownBlock)(hne:9≠e):Strs w' u l:=
 hs.keep fun g _ _ hc=>hg.block g (dP hc) (pV h hc hne)
end
section
variable {w w':World} {base:Nat} {v:Value} {L:List oO}
end
end Go.Proofs.YtkblmloobkiloaaGreatDoor
namespace Go.Proofs.YtkblmloobkiloaaGreatDoor
open Go.Lib (hid)
open Go.RowKit Go.Maps
def KS(s:ByteArray):Lit:= .string s.data.toList
def ix(L:List oO)(s:ByteArray):Nat:=(PI L s).getD 0
def qx(w:World)(b n:Nat)(L:List oO):Prop:=
 ∃D:DataW Unit,w.ownsMap Tryz.prog 9 (plainElem Tryz.prog 3) b n D∧
  ∀s:ByteArray,Maps.has D (KS s)=known L s∧D.atKey (KS s) (.lit (.int .i64 0))= .lit (.int .i64 (ix L s:Nat))
theorem qx.keep{w w':World}{b n:Nat}{L:List oO}(h:qx w b n L)(hk:∀es ck,w.heap[b]? =some (.map es ck)→w'.heap[b]? =w.heap[b]?):qx w' b n L:=by
 obtain⟨D,⟨es,ck,hb,r⟩,hx⟩:=h
 exact⟨D,⟨es,ck,(hk es ck hb).trans hb,r⟩,hx⟩
theorem qx.lt{w:World}{b n:Nat}{L:List oO}(h:qx w b n L):b<w.heap.size:=by
 obtain⟨D,⟨es,ck,hb,r⟩,hx⟩:=h
 exact dP hb
theorem qx.below{w w':World}{b n:Nat}{L:List oO}(h:qx w b n L)(hb:Below w.heap.size w w'):qx w' b n L:=
 h.keep fun _ _ hc=>hb.block b (dP hc)
end Go.Proofs.YtkblmloobkiloaaGreatDoor
namespace Go.Proofs.YtkblmloobkiloaaGreatDoor
open Go.Lib (hid)
open Go.RowKit Go.Maps Go.WideMaps
end Go.Proofs.YtkblmloobkiloaaGreatDoor
namespace Go.Proofs.YtkblmloobkiloaaGreatDoor
open Go.Lib (hid)
structure Nd where
 path:Int
 parent:Int
 name:ByteArray
 mode:Int
 uid:ByteArray
 gid:ByteArray
 fE:ByteArray
 atime:Int
 mtime:Int
 vers:Int
 length:Int
 opens:Int
 kids:Int
def Nd.none:Nd:=⟨0,0,⟨#[]⟩,0,⟨#[]⟩,⟨#[]⟩,⟨#[]⟩,0,0,0,0,0,0⟩
def Nd.ok(n:Nd):Prop:=0≤n.mode∧n.mode<4294967296∧n.name.size≤16777216∧n.uid.size≤16777216∧n.gid.size≤16777216∧n.fE.size≤16777216
def Nz(own mem:Bool)(m:Nat):Nat:=((if own then m/64%8 else 0) ||| (if mem then m/8%8 else 0)) ||| m%8
def rights(own mem:Bool)(m:Int):Int:=(Nz own mem m.toNat:Nat)
open Go.ChangeShapes Go.WideShapes Go.ChangeAt Go.RowKit
def vw(c:UInt8)(s:ByteArray)(done:List ByteArray)(from_ i:Nat):Prop:=
 done++(yt c (s.data.toList.drop from_)).map ofL=cut c s∧(∀(j:Nat) (h:j<s.size),from_≤j→j<i→s[j]≠c)
theorem tN(s:ByteArray)(a b:Nat):s.extract a b=ofL ((s.data.toList.drop a).take (b-a)):=by
 apply ByteArray.ext
 unfold ofL
 rw[ByteArray.data_extract]
 apply Array.ext'
 simp[List.extract_eq_take_drop]
theorem Ph(c:UInt8)(s:ByteArray)(a b:Nat)(h:∀(j:Nat) (h:j<s.size),a≤j→j<b→s[j]≠c):∀x∈(s.data.toList.drop a).take (b-a),x≠c:=by
 intro x hx
 obtain⟨q,hq,rfl⟩:=List.mem_iff_getElem.1 hx
 simp only[List.length_take,List.length_drop,Array.length_toList,ByteArray.size_data]at hq
 rw[List.getElem_take,List.getElem_drop]
 have:=h (a+q) (by omega) (by omega) (by omega)
 exact this
theorem vw.start(c:UInt8)(s:ByteArray):vw c s [] 0 0:=⟨rfl,fun _ _ _ h=>absurd h (Nat.not_lt_zero _)⟩
theorem vw.hit{c:UInt8}{s:ByteArray}{done:List ByteArray}{f i:Nat}(h:vw c s done f i)(hf:f≤i)(hi:i<s.size)(he:s[i]=c):vw c s (done++[s.extract f i]) (i+1) (i+1):=by
 refine⟨?_,fun j _ h1 h2=>absurd h2 (by omega)⟩
 rw[←h.1]
 have e:s.data.toList.drop f=(s.data.toList.drop f).take (i-f)++c::s.data.toList.drop (i+1):=by
  have h1:s.data.toList.drop f=(s.data.toList.drop f).take (i-f)++(s.data.toList.drop f).drop (i-f):=(List.take_append_drop _ _).symm
  rw[List.drop_drop,show f+(i-f)=i from by omega]at h1
  have hl:i<s.data.toList.length:=by simpa using hi
  rw[List.drop_eq_getElem_cons hl]at h1
  have:s.data.toList[i]=c:=he
  rw[this]at h1
  exact h1
 conv=>rhs;rw[e,BP c _ _ (Ph c s f i h.2)]
 rw[List.map_cons,tN,List.append_assoc,List.singleton_append]
theorem vw.done{c:UInt8}{s:ByteArray}{done:List ByteArray}{f i:Nat}(h:vw c s done f i)(hi:s.size≤i):done++[s.extract f s.size]=cut c s:=by
 rw[←h.1]
 have hno:∀x∈s.data.toList.drop f,x≠c:=by
  have:=Ph c s f i h.2
  rwa[List.take_of_length_le (by simp;omega)]at this
 rw[yT c _ hno,tN,List.take_of_length_le (by simp)]
 rfl
theorem vC(s:ByteArray)(i:Nat)(h:i<s.size):s.get! i=s[i]:=by
 have:=get_at s i h
 rwa[Nat.add_zero]at this
theorem Ae(s:ByteArray)(i lo hi:Nat)(w:World):
  Calls Tryz.prog 281 #[.string s,.int .i64 (i:Int),.int .u8 (lo:Int),.int .u8 (hi:Int)] w fun e w'=>e= .returned (.bool (eF s i lo hi))∧w=w':=by
 by_cases hi1:i<s.size
 ·have hb:eF s i lo hi=(decide (lo≤s[i].toNat)&&decide (s[i].toNat≤hi)):=by
   unfold eF;rw[decide_eq_true hi1,Bool.true_and,vC s i hi1]
  have HB:=hid hb;clear hb
  by_cases h1:lo≤s[i].toNat
  ·have d1:decide ((lo:Int)≤(s[i].toNat:Int))=true:=decide_eq_true (by omega)
   by_cases h2:s[i].toNat≤hi
   ·have d2:decide ((s[i].toNat:Int)≤(hi:Int))=true:=decide_eq_true (by omega)
    go_enter Tryz.func281,Tryz.ntmps281
    go_wp2
    go_ret
    refine⟨cZ ?_,rfl⟩
    rw[HB.out,decide_eq_true h1,decide_eq_true h2];rfl
   ·have d2:decide ((s[i].toNat:Int)≤(hi:Int))=false:=decide_eq_false (by omega)
    go_enter Tryz.func281,Tryz.ntmps281
    go_wp2
    go_ret
    refine⟨cZ ?_,rfl⟩
    rw[HB.out,decide_eq_true h1,decide_eq_false h2];rfl
  ·have d1:decide ((lo:Int)≤(s[i].toNat:Int))=false:=decide_eq_false (by omega)
   go_enter Tryz.func281,Tryz.ntmps281
   go_wp2
   go_ret
   refine⟨cZ ?_,rfl⟩
   rw[HB.out,decide_eq_false h1];rfl
 ·have hb:eF s i lo hi=false:=by unfold eF;rw[decide_eq_false hi1];rfl
  have HB:=hid hb;clear hb
  go_enter Tryz.func281,Tryz.ntmps281
  go_wp2
  go_ret
  exact⟨cZ HB.out.symm,rfl⟩
def byteAt(s:ByteArray)(i:Nat):Nat:=(s.get! i).toNat
theorem JQ{s:ByteArray}{i lo hi:Nat}(h:i<s.size∧lo≤byteAt s i∧byteAt s i≤hi):eF s i lo hi=true:=by
 unfold eF;simp only[Bool.and_eq_true,decide_eq_true_eq];exact h
theorem JR{s:ByteArray}{i lo hi:Nat}(h:¬(i<s.size∧lo≤byteAt s i∧byteAt s i≤hi)):eF s i lo hi=false:=by
 rw[←Bool.not_eq_true]
 unfold eF;simp only[Bool.and_eq_true,decide_eq_true_eq];exact h
theorem rC(s:ByteArray)(i k:Nat)(a lo hi:Int)(w:World)(h0:a=(i:Int)+(k:Int))(h1:0≤lo)(h2:0≤hi):
  Calls Tryz.prog 281 #[.string s,.int .i64 a,.int .u8 lo,.int .u8 hi] w fun e w'=>(e= .returned (.bool true)∧w=w'∧(i+k<s.size∧lo≤(byteAt s (i+k):Int)∧(byteAt s (i+k):Int)≤hi))∨(e= .returned (.bool false)∧w=w'∧¬(i+k<s.size∧lo≤(byteAt s (i+k):Int)∧(byteAt s (i+k):Int)≤hi)):=by
 obtain⟨b,rfl⟩:=Int.eq_ofNat_of_zero_le h1
 obtain⟨c,rfl⟩:=Int.eq_ofNat_of_zero_le h2
 have e:a=((i+k:Nat):Int):=by omega
 subst e
 refine(Ae s (i+k) b c w).mono fun e w' ⟨he,hw⟩=> ?_
 by_cases h:i+k<s.size∧b≤byteAt s (i+k)∧byteAt s (i+k)≤c
 ·rw[JQ h]at he
  exact .inl ⟨he,hw,by omega⟩
 ·rw[JR h]at he
  exact .inr ⟨he,hw,by omega⟩
theorem tV(s:ByteArray)(i:Nat):lM s i=
  if i<s.size∧0≤byteAt s i∧byteAt s i≤127 then 1
  else if(i<s.size∧194≤byteAt s i∧byteAt s i≤223)∧(i+1<s.size∧128≤byteAt s (i+1)∧byteAt s (i+1)≤191)then 2
  else if((i<s.size∧224≤byteAt s i∧byteAt s i≤239)∧(i+1<s.size∧(if i<s.size∧224≤byteAt s i∧byteAt s i≤224 then 160 else 128)≤byteAt s (i+1)∧byteAt s (i+1)≤(if i<s.size∧237≤byteAt s i∧byteAt s i≤237 then 159 else 191)))∧(i+2<s.size∧128≤byteAt s (i+2)∧byteAt s (i+2)≤191)then 3
  else if(((i<s.size∧240≤byteAt s i∧byteAt s i≤244)∧(i+1<s.size∧(if i<s.size∧240≤byteAt s i∧byteAt s i≤240 then 144 else if i<s.size∧224≤byteAt s i∧byteAt s i≤224 then 160 else 128)≤byteAt s (i+1)∧byteAt s (i+1)≤(if i<s.size∧244≤byteAt s i∧byteAt s i≤244 then 143 else if i<s.size∧237≤byteAt s i∧byteAt s i≤237 then 159 else 191)))∧(i+2<s.size∧128≤byteAt s (i+2)∧byteAt s (i+2)≤191))∧(i+3<s.size∧128≤byteAt s (i+3)∧byteAt s (i+3)≤191)then 4 else 0:=by
 unfold lM eF byteAt
 simp only[Bool.and_eq_true,decide_eq_true_eq]
theorem qL(s:ByteArray)(i:Nat)(w:World)(hi:i≤16777216):
  Calls Tryz.prog 263 #[.string s,.int .i64 (i:Int)] w fun e w'=>e= .returned (.int .i64 (lM s i:Int))∧w=w':=by
 have hw:∀n:Nat,lM s i=n→(n:Int)=(lM s i:Int):=fun n h=>by rw[h]
 have HW:=hid hw;clear hw
 go_enter Tryz.func263,Tryz.ntmps263
 go_wp2_with(go_at_call 281;(first|refine(rC s i 0 _ _ _ _ (by omega) (by omega) (by omega)).mono ?_|refine(rC s i 1 _ _ _ _ (by omega) (by omega) (by omega)).mono ?_|refine(rC s i 2 _ _ _ _ (by omega) (by omega) (by omega)).mono ?_|refine(rC s i 3 _ _ _ _ (by omega) (by omega) (by omega)).mono ?_);rintro e w' (⟨rfl,rfl,hq⟩|⟨rfl,rfl,hq⟩)<;>first|(exfalso;omega)|skip)
 all_goals
  go_ret
  refine⟨jP (HW.out _ ?_),rfl⟩
  clear HW
  simp only[Nat.add_zero]at*
  rw[tV]
  repeat' split
  all_goals omega
theorem JU(s:ByteArray)(i:Nat):lM s i≤4:=by
 rw[tV]
 repeat' split
 all_goals omega
theorem yY(s:ByteArray)(w:World)(hs:s.size≤16777216):
  Calls Tryz.prog 243 #[.string s] w fun e w'=>e= .returned (.int .i64 (badR s s.size 0:Int))∧w=w':=by
 go_enter Tryz.func243,Tryz.ntmps243
 go_wp2_with fail
 go_loop [3] (fun c=>∃i f:Nat,c= .int .i64 i∧i≤s.size+4∧s.size≤i+f∧badR s f i=badR s s.size 0) (fun c=>s.size-(intOf c).toNat)
 case atStart=>exact⟨0,s.size,rfl,by omega,by omega,rfl⟩
 case round=>
  obtain⟨i,f,rfl,hi,hf,hb⟩:=hrel
  have HB:=hid hb;clear hb
  by_cases hlt:i<s.size
  ·have hcw:=JU s i
   obtain⟨f,rfl⟩:∃f',f=f'+1:=⟨f-1,by omega⟩
   by_cases hz:lM s i=0
   ·have HR:=hid (show badR s s.size 0=i from by rw[←HB.out,badR,if_pos hlt,if_pos (.inl hz)])
    go_wp2_with fail
    refine(qL s i _ (by omega)).mono ?_
    rintro e w' ⟨rfl,rfl⟩
    rw[hz]
    have hzz:(((0:Nat):Int)==0)=true:=rfl
    go_wp2_with fail
    go_ret
    exact⟨jP (by rw[HR.out]),rfl⟩
   ·have hzz:(((lM s i:Nat):Int)==0)=false:=by rw[beq_eq_false_iff_ne];omega
    by_cases h0:s[i].toNat=0
    ·have HR:=hid (show badR s s.size 0=i from by rw[←HB.out,badR,if_pos hlt,if_pos (.inr (by rw[vC s i hlt];exact h0))])
     have h00:((s[i].toNat:Int)==0)=true:=by rw[h0];rfl
     have HZ:=hid hz;clear hz
     have H0:=hid h0;clear h0
     go_wp2_with fail
     refine(qL s i _ (by omega)).mono ?_
     rintro e w' ⟨rfl,rfl⟩
     generalize lM s i=cw at hzz hcw HZ⊢
     go_wp2_with fail
     go_ret
     exact⟨jP (by rw[HR.out]),rfl⟩
    ·have HR:=hid (show badR s f (i+lM s i)=badR s s.size 0 from by rw[←HB.out,badR,if_pos hlt,if_neg (by rintro(h|h);exact hz h;exact h0 (by rwa[vC s i hlt]at h))])
     have h00:((s[i].toNat:Int)==0)=false:=by rw[beq_eq_false_iff_ne];omega
     have HZ:=hid hz;clear hz
     have H0:=hid h0;clear h0
     go_wp2_with fail
     refine(qL s i _ (by omega)).mono ?_
     rintro e w' ⟨rfl,rfl⟩
     generalize lM s i=cw at hzz hcw HZ HR⊢
     go_wp2_with fail
     have hz2:=HZ.out
     go_round
     case rel=>exact⟨i+cw,f,by go_num,by omega,by omega,HR.out⟩
     case measure=>simp[intOf];omega
  ·have HR:=hid (show badR s s.size 0=s.size from by
    rw[←HB.out]
    cases f with
    |zero=>rfl
    |succ f=>rw[badR,if_neg hlt])
   go_wp2_with fail
   go_ret
   exact⟨jP (by rw[HR.out]),rfl⟩
theorem qM(s:ByteArray)(w:World)(hs:s.size≤16777216):
  Calls Tryz.prog 185 #[.string s] w fun e w'=>e= .returned (.bool (good s))∧w=w':=by
 have hg:=yV s s.size 0
 by_cases h:badR s s.size 0=s.size
 ·have HG:=hid (show good s=true from hg.1 h)
  clear hg
  have hz:(((badR s s.size 0:Nat):Int)==(s.size:Int))=true:=by rw[h];exact beq_self_eq_true _
  have HH:=hid h;clear h
  go_enter Tryz.func185,Tryz.ntmps185
  go_wp2_with fail
  refine(yY s _ hs).mono ?_
  rintro e w' ⟨rfl,rfl⟩
  generalize badR s s.size 0=b at hz HH⊢
  go_wp2_with fail
  go_ret
  exact⟨cZ HG.out.symm,rfl⟩
 ·have HG:=hid (show good s=false from by rw[←Bool.not_eq_true];exact fun e=>h (hg.2 e))
  clear hg
  have hz:(((badR s s.size 0:Nat):Int)==(s.size:Int))=false:=by rw[beq_eq_false_iff_ne];omega
  have HH:=hid h;clear h
  go_enter Tryz.func185,Tryz.ntmps185
  go_wp2_with fail
  refine(yY s _ hs).mono ?_
  rintro e w' ⟨rfl,rfl⟩
  generalize badR s s.size 0=b at hz HH⊢
  go_wp2_with fail
  go_ret
  exact⟨cZ HG.out.symm,rfl⟩
theorem Af{s:ByteArray}(h:¬s.size=0):s.toList.isEmpty=false:=by
 rw[←Bool.not_eq_true]
 intro e
 rw[ByteArray.toList_eq,List.isEmpty_iff,Array.toList_eq_nil_iff,←Array.size_eq_zero_iff]at e
 exact h e
end Go.Proofs.YtkblmloobkiloaaGreatDoor
