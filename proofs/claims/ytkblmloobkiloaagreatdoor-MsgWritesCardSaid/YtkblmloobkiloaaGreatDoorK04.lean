/-
  MV MX MV2 MF: what the laws of package msg need of them.
-/
import Derived.Test.YtkblmloobkiloaaGreatDoorK00
import Derived.Test.YtkblmloobkiloaaGreatDoorK03
import Derived.Deep.MidRow
import Derived.Laws.ResultCell
import Derived.Laws.EntriesVeiled
set_option maxRecDepth 100000
set_option maxHeartbeats 25600000
namespace Go.Proofs.YtkblmloobkiloaaGreatDoor
open Go.Lib (hid)
open Go.RowKit
theorem Ready.low{w w':World}{B:Nat}(h:Ready w)(hb:Below B w w')(hB:8≤B):Ready w':=by
 obtain⟨⟨h1,h2⟩,m,h3⟩:=h
 exact⟨⟨fun c hc=>(hb.cell (p:=⟨3,c,none⟩) (Nat.lt_of_lt_of_le (show 3<8 by decide) hB)).trans (h1 c hc),fun i hi=>⟨(hb.cell (p:=⟨4,2*i,none⟩) (Nat.lt_of_lt_of_le (show 4<8 by decide) hB)).trans (h2 i hi).1,(hb.cell (p:=⟨4,2*i+1,none⟩) (Nat.lt_of_lt_of_le (show 4<8 by decide) hB)).trans (h2 i hi).2⟩⟩,
  m,(hb.cell (p:=⟨7,0,none⟩) (Nat.lt_of_lt_of_le (show 7<8 by decide) hB)).trans h3⟩
theorem Ready.eight{w:World}(h:Ready w):8≤w.heap.size:=by
 obtain⟨-,m,h3⟩:=h
 exact World.block_lt_of_cell? w _ h3
theorem jm(lim:Nat)(st:Option (List UInt8))(a b:List UInt8):dV lim (dV lim st a) b=dV lim st (a++b):=by
 cases st with
 |none=>rfl
 |some l=>
  by_cases h:l.length+a.length≤lim
  ·rw[gQ h]
   by_cases h2:l.length+(a++b).length≤lim
   ·rw[gQ h2,gQ (by rw[List.length_append]at h2⊢;omega),List.append_assoc]
   ·rw[dX (st:=some l) (x:=a++b) (fun l' hl=>by injection hl with hl;subst hl;omega)]
    exact dX (fun l' hl=>by injection hl with hl;subst hl;rw[List.length_append]at h2⊢;omega)
  ·rw[dX (st:=some l) (x:=a) (fun l' hl=>by injection hl with hl;subst hl;omega)]
   rw[dX (st:=some l) (x:=a++b) (fun l' hl=>by injection hl with hl;subst hl;rw[List.length_append];omega)]
   rfl
theorem j_{lim:Nat}{st:Option (List UInt8)}{s:ByteArray}(hg:good s=true)(hl:lim≤65536):oK lim st s=dV lim st (fP s):=by
 unfold oK
 by_cases h:s.size≤65535
 ·rw[if_pos];rw[hg,decide_eq_true h];rfl
 ·rw[if_neg (by rw[decide_eq_false h];simp),dX]
  intro l _
  rw[ji]
  omega
abbrev qdV(q:Qd):Value:= .agg #[.int .u8 (q.kind:Int),.int .u32 (q.vers:Int),.int .u64 (q.path:Int)]
abbrev stL(s:Sta):List Value:=[.int .u16 (s.type:Int),.int .u32 (s.dev:Int),.int .u8 (s.qid.kind:Int),.int .u32 (s.qid.vers:Int),.int .u64 (s.qid.path:Int),.int .u32 (s.mode:Int),.int .u32 (s.atime:Int),.int .u32 (s.mtime:Int),.int .u64 (s.length:Int),.string s.name,.string s.uid,.string s.gid,.string s.fE]
abbrev stV(s:Sta):Value:= .agg #[.int .u16 (s.type:Int),.int .u32 (s.dev:Int),.int .u8 (s.qid.kind:Int),.int .u32 (s.qid.vers:Int),.int .u64 (s.qid.path:Int),.int .u32 (s.mode:Int),.int .u32 (s.atime:Int),.int .u32 (s.mtime:Int),.int .u64 (s.length:Int),.string s.name,.string s.uid,.string s.gid,.string s.fE]
theorem nX{w:World}{base p lim:Nat}{st:Option (List UInt8)}{op:List Nat}(q:Qd)(hq:q.ok)(h:WrS w base p lim st op):
  Calls Tryz.prog 171 #[.pointer (some ⟨p,0,none⟩),qdV q] w fun e w'=>e= .returned (.tuple #[])∧WrS w' base p lim (dV lim st (kR q)) op∧Wk base w w':=by
 obtain⟨q1,q2,q3⟩:=hq
 have hsz:=h.le
 have HS:=hid (h.below ((Below.refl _ _).alloc (Nat.le_refl _) (.cells #[.int .u8 (q.kind:Int),.int .u32 (q.vers:Int),.int .u64 (q.path:Int)] 37)))
 have HB:=hid ((Wk.refl base w).alloc hsz (.cells #[.int .u8 (q.kind:Int),.int .u32 (q.vers:Int),.int .u64 (q.path:Int)] 37))
 have HN:=hid (Blk.new w 37 #[.int .u8 (q.kind:Int),.int .u32 (q.vers:Int),.int .u64 (q.path:Int)])
 clear h
 unfold qdV
 go_enter Tryz.func171,Tryz.ntmps171
 go_upto_region 2 with(fail)
 generalize w.alloc (.cells #[.int .u8 (q.kind:Int),.int .u32 (q.vers:Int),.int .u64 (q.path:Int)] 37)=w1 at HS HB HN⊢
 have k0:w1.cell? ⟨w.heap.size,0,none⟩=_:=HN.out.cell 0
 go_wp2_with fail
 refine(qO q.kind (by omega) HS.out).mono ?_
 rintro e w2 ⟨rfl,hs,hb⟩
 have HS2:=hid hs
 have HN2:=hid (hb.blk HN.out (by decide) (by decide) (by decide))
 have HB2:=hid (HB.out.trans hb);clear hs hb k0 HS HN HB
 have k1:w2.cell? ⟨w.heap.size,1,none⟩=_:=HN2.out.cell 1
 go_wp2_with fail
 refine(iY q.vers (by omega) HS2.out).mono ?_
 rintro e w3 ⟨rfl,hs,hb⟩
 have HS3:=hid hs
 have HN3:=hid (hb.blk HN2.out (by decide) (by decide) (by decide))
 have HB3:=hid (HB2.out.trans hb);clear hs hb k1 HS2 HN2 HB2
 have k2:w3.cell? ⟨w.heap.size,2,none⟩=_:=HN3.out.cell 2
 go_wp2_with fail
 refine(oU q.path (by omega) HS3.out).mono ?_
 rintro e w4 ⟨rfl,hs,hb⟩
 have HS4:=hid hs
 have HB4:=hid (HB3.out.trans hb);clear hs hb k2 HS3 HN3 HB3
 go_wp2_with fail
 go_end0
 refine⟨rfl, ?_,HB4.out⟩
 have:=HS4.out
 rw[jm,jm]at this
 exact this
theorem og{S:Nat→Prop}{w0 w:World}(h:Off S w0 w){b:Nat}(hb:S b):∀(vs:List Value) (o:Nat),Off S w0 (w.setCells b o vs):=by
 intro vs
 induction vs generalizing w with
 |nil=>intro o;exact h
 |cons v r ih=>intro o;exact ih (h.setCell (p:=⟨b,o,none⟩) hb v) (o+1)
theorem Blk.range{w:World}{q:Nat}{t:TypeId}{cs:Array Value}(h:Blk w q t cs)(o:Nat)(l:List Value)(hl:(cs.toList.drop o).take l.length=l):w.rangeAt q o l:=fun j v hv=>by
 refine(Blk.cell h (o+j)).trans ?_
 rw[←hl]at hv
 rw[List.getElem?_take]at hv
 split at hv
 ·rw[List.getElem?_drop]at hv
  rw[←Array.getElem?_toList]
  exact hv
 ·cases hv
def over(cs:Array Value)(o:Nat):List Value→Array Value
 | []=>cs
 |v::r=>over (cs.setIfInBounds o v) (o+1) r
theorem Blk.sN{q:Nat}{t:TypeId}:∀(l:List Value) (o:Nat) {w:World} {cs:Array Value},Blk w q t cs→Blk (w.setCells q o l) q t (over cs o l)
 | [],_,_,_,h=>h
 |v::r,o,_,_,h=>Blk.sN r (o+1) (h.aW o v)
section
variable {w w':World} {q:Nat} {t:TypeId} {cs:Array Value} {ops:Array Oper} {rest:List Oper} {op:Oper} {a:Act} {Q:Exit→Act→World→Prop}
theorem wlw(hk:Blk w q t cs)(o:Nat)(l:List Value)(hl:(cs.toList.drop o).take l.length=l)(hgd:Region.wanted op (yielded ops a.tmps)=true)(ty:TypeId)(x:Operand)(ho:op.op= .load ty x)(hx:a.eval x= .pointer (some ⟨q,o,none⟩))(d:TypeDesc)
  (hu:Tryz.prog.underlying ty=some d) (hd:d.isRow=true) (hi:(Tryz.prog.info? ty).map (·.size)=some l.length)
  (h:wpList Tryz.prog ops Q rest (a.put op.dst (.agg l.toArray)) w):wpList Tryz.prog ops Q (op::rest) a w:=
 wpList_step fun K hK=>by
  rw[if_pos hgd]
  exact wp_load_mid ty x ho q o hx l d (hk.range o l hl) hu hd hi (hK _ _ h)
theorem dA(hk:Blk w q t cs)(o:Nat)(l:List Value)(cs':Array Value)(hcs:over cs o l=cs')(hb:o+l.length≤cs.size)(h1:l.toArray.all (·.oneCell')=true)(hgd:op.guard=none)(ty:TypeId)(x y:Operand)(ho:op.op= .store ty x y)(hx:a.eval x= .pointer (some ⟨q,o,none⟩))(hy:a.eval y= .agg l.toArray)
  (hi:(Tryz.prog.info? ty).map (·.size)=some l.length)
  (h:∀w':World,Blk w' q t cs'→(∀S:Nat→Prop,S q→∀v,Off S v w→Off S v w')→wpList Tryz.prog ops Q rest (a.put op.dst undef) w'):wpList Tryz.prog ops Q (op::rest) a w:=
 wpList_store_mid hgd ty x y ho q o l.toArray hx hy (fun j hj=>by
  have hj':j<l.length:=by simpa using hj
  refine⟨?_,Blk.frozen hk _⟩
  rw[Blk.cell hk,Array.getElem?_eq_getElem (by omega)]
  rfl) (by simpa using hi) h1 (h _ (by rw[←hcs];exact Blk.sN _ _ hk) (fun S hS v hv=>og hv hS _ o))
end
theorem bP:(Tryz.prog.info? 39).map (·.size)=some 13:=by kernel_rfl
theorem aB:(Tryz.prog.info? 41).map (·.size)=some 36:=by kernel_rfl
abbrev aF(m:Mg)(vn vq vd:Value):List Value:=[.int .u8 (m.kind:Int),.int .u16 (m.tag:Int),.int .u32 (m.bI:Int),.string m.version,.int .u32 (m.dB:Int),.string m.uname,.string m.bF,.string m.bH,.int .u16 (m.aT:Int),.int .u32 (m.fid:Int),.int .u32 (m.aU:Int),vn,vq,.int .u8 (m.qid.kind:Int),.int .u32 (m.qid.vers:Int),.int .u64 (m.qid.path:Int),.int .u8 (m.mode:Int),.int .u32 (m.aQ:Int),.string m.name,.int .u32 (m.perm:Int),.int .u64 (m.offset:Int),.int .u32 (m.count:Int),vd,.int .u16 (m.stat.type:Int),.int .u32 (m.stat.dev:Int),.int .u8 (m.stat.qid.kind:Int),.int .u32 (m.stat.qid.vers:Int),.int .u64 (m.stat.qid.path:Int),.int .u32 (m.stat.mode:Int),.int .u32 (m.stat.atime:Int),.int .u32 (m.stat.mtime:Int),.int .u64 (m.stat.length:Int),.string m.stat.name,.string m.stat.uid,.string m.stat.gid,.string m.stat.fE]
abbrev iM(m:Mg)(vn vq vd:Value):Value:= .agg (aF m vn vq vd).toArray
def aK(w:World)(q:Nat)(m:Mg)(vn vq vd:Value):Prop:=Blk w q 41 (aF m vn vq vd).toArray
def lX(w:World)(B:Nat)(v:Value)(l:List Qd):Prop:=∃A c,v= .slice A l.length c∧l.length≤c∧c≤maxLen∧Reads w B 3 A l.length (ng l)
def iW(w:World)(B:Nat)(v:Value)(l:List ByteArray):Prop:=∃A c,v= .slice A l.length c∧l.length≤c∧c≤maxLen∧Reads w B 1 A l.length (h_ l)
theorem lX.nil_(w:World)(B:Nat):lX w B (.slice none 0 0) []:=⟨none,0,rfl,Nat.le_refl _,Nat.zero_le _,Reads.none_⟩
theorem iW.nil_(w:World)(B:Nat):iW w B (.slice none 0 0) []:=⟨none,0,rfl,Nat.le_refl _,Nat.zero_le _,Reads.none_⟩
section
variable {w w':World} {B B':Nat} {v:Value}
theorem lX.below{l:List Qd}(h:lX w B v l)(hb:Below B w w'):lX w' B v l:=by
 obtain⟨A,c,e,h1,h2,h3⟩:=h
 exact⟨A,c,e,h1,h2,h3.below hb⟩
theorem iW.below{l:List ByteArray}(h:iW w B v l)(hb:Below B w w'):iW w' B v l:=by
 obtain⟨A,c,e,h1,h2,h3⟩:=h
 exact⟨A,c,e,h1,h2,h3.below hb⟩
theorem lX.more{l:List Qd}(h:lX w B v l)(hB:B≤B'):lX w B' v l:=by
 obtain⟨A,c,e,h1,h2,h3⟩:=h
 exact⟨A,c,e,h1,h2,h3.more hB⟩
theorem iW.more{l:List ByteArray}(h:iW w B v l)(hB:B≤B'):iW w B' v l:=by
 obtain⟨A,c,e,h1,h2,h3⟩:=h
 exact⟨A,c,e,h1,h2,h3.more hB⟩
theorem iW.iH{base n:Nat}{l:List ByteArray}(h:w.ownsRow base 9 1 v n (h_ l)):iW w w.heap.size v l:=by
 have hn:n=l.length:=by
  have:=h.1
  simp at this
  exact this.symm
 subst hn
 obtain⟨A,c,rfl,h1,h2⟩:=aJ h
 exact⟨A,c,rfl,h1,h2,Reads.iH h⟩
theorem lX.iH{base:Nat}{l:List Qd}(h:w.ownsRow base 37 3 v l.length (ng l)):lX w w.heap.size v l:=by
 obtain⟨A,c,rfl,h1,h2⟩:=aJ h
 exact⟨A,c,rfl,h1,h2,Reads.iH h⟩
theorem lX.one{l:List Qd}(h:lX w B v l):v.oneCell'=true:=by
 obtain⟨A,c,rfl, -⟩:=h
 rfl
theorem iW.one{l:List ByteArray}(h:iW w B v l):v.oneCell'=true:=by
 obtain⟨A,c,rfl, -⟩:=h
 rfl
theorem Bys.one{l:List UInt8}(h:Bys w B v l):v.oneCell'=true:=by
 obtain⟨A,c,rfl, -⟩:=h
 rfl
end
structure Lists(w:World)(B:Nat)(m:Mg)(vn vq vd:Value):Prop where
 n:iW w B vn m.names
 q:lX w B vq m.aV
 d:Bys w B vd m.data
theorem Lists.below{w w':World}{B:Nat}{m:Mg}{vn vq vd:Value}(h:Lists w B m vn vq vd)(hb:Below B w w'):Lists w' B m vn vq vd:=⟨h.n.below hb,h.q.below hb,h.d.below hb⟩
theorem Lists.more{w:World}{B B':Nat}{m:Mg}{vn vq vd:Value}(h:Lists w B m vn vq vd)(hB:B≤B'):Lists w B' m vn vq vd:=⟨h.n.more hB,h.q.more hB,h.d.more hB⟩
theorem zl{lim:Nat}{st:Option (List UInt8)}{x l:List UInt8}(h:dV lim st x=some l):∃l0,st=some l0∧l=l0++x∧l0.length+x.length≤lim:=by
 cases st with
 |none=>cases h
 |some l0=>
  unfold dV at h
  dsimp only at h
  split at h
  ·injection h with h;exact⟨l0,rfl,h.symm,by assumption⟩
  ·cases h
theorem Ir(a x:List UInt8)(u v:UInt8):patch a.length (a++u::v::x)=a++(le 2 x.length++x):=by
 unfold patch
 rw[List.take_left,show a++u::v::x=(a++[u,v])++x by simp,show(a++[u,v]++x).length-a.length-2=x.length by simp,List.drop_left' (by simp)]
theorem vY{lim n:Nat}{st:Option (List UInt8)}{x:List UInt8}(hn:∀l,dV lim st [0,0]=some l→l.length=n+2)(hx:lim≤65536):Cb n (dV lim (dV lim st [0,0]) x)=dV lim st (le 2 x.length++x):=by
 cases st with
 |none=>rfl
 |some l=>
  by_cases h:l.length+2≤lim
  ·have e1:dV lim (some l) [0,0]=some (l++[0,0]):=gQ h
   have hl:=hn _ e1
   have hln:n=l.length:=by rw[List.length_append]at hl;simp at hl;omega
   subst hln
   rw[e1]
   by_cases h2:l.length+2+x.length≤lim
   ·rw[gQ (by rw[List.length_append];exact h2),gQ (by rw[List.length_append,bK];omega)]
    have e2:l++[0,0]++x=l++(0:UInt8)::0::x:=by simp
    rw[e2]
    unfold Cb
    dsimp only
    rw[if_pos (by simp;omega),Ir]
   ·rw[dX (st:=some (l++[0,0])) (x:=x) (fun l' hl=>by injection hl with hl;subst hl;rw[List.length_append];simp;omega)]
    rw[dX (st:=some l) (x:=le 2 x.length++x) (fun l' hl=>by injection hl with hl;subst hl;rw[List.length_append,bK];omega)]
    rfl
  ·rw[dX (st:=some l) (x:=[0,0]) (fun l' hl=>by injection hl with hl;subst hl;simp;omega)]
   rw[dX (st:=some l) (x:=le 2 x.length++x) (fun l' hl=>by injection hl with hl;subst hl;rw[List.length_append,bK];omega)]
   rfl
def CO(s:Sta):List UInt8:=le 2 s.type++(le 4 s.dev++(kR s.qid++(le 4 s.mode++(le 4 s.atime++(le 4 s.mtime++(le 8 s.length++(fP s.name++(fP s.uid++(fP s.gid++fP s.fE)))))))))
theorem Kr(s:Sta):(CO s).length=dY s-2:=by
 unfold CO dY
 simp only[List.length_append,bK,nH,ji]
 omega
theorem Iu(s:Sta):kX s=le 2 (CO s).length++CO s:=by
 rw[Kr]
 unfold kX CO
 simp only[List.append_assoc]
theorem Iw{w:World}{base p lim:Nat}{st:Option (List UInt8)}{op:List Nat}(s:Sta)(hs:s.ok)(hg:s.good=true)(hz:dY s≤1099511627776)(hr:Ready w)(h8:8≤base)(hlim:lim≤65536)(h:WrS w base p lim st op)(hop:op.length<16):
  Calls Tryz.prog 259 #[.pointer (some ⟨p,0,none⟩),stV s] w fun e w'=>e= .returned (.tuple #[])∧WrS w' base p lim (dV lim st (kX s)) op∧Wk base w w':=by
 obtain⟨n1,n2,hq,n4,n5,n6,n7⟩:=hs
 simp only[Sta.good,Bool.and_eq_true]at hg
 obtain⟨⟨⟨g1,g2⟩,g3⟩,g4⟩:=hg
 have Sr:49+s.name.size+s.uid.size+s.gid.size+s.fE.size≤1099511627776:=hz
 have hsz:=h.le
 have HS:=hid (h.below ((Below.refl _ _).alloc (Nat.le_refl _) (.cells #[.int .u16 (s.type:Int),.int .u32 (s.dev:Int),.int .u8 (s.qid.kind:Int),.int .u32 (s.qid.vers:Int),.int .u64 (s.qid.path:Int),.int .u32 (s.mode:Int),.int .u32 (s.atime:Int),.int .u32 (s.mtime:Int),.int .u64 (s.length:Int),.string s.name,.string s.uid,.string s.gid,.string s.fE] 39)))
 have HB:=hid ((Wk.refl base w).alloc hsz (.cells #[.int .u16 (s.type:Int),.int .u32 (s.dev:Int),.int .u8 (s.qid.kind:Int),.int .u32 (s.qid.vers:Int),.int .u64 (s.qid.path:Int),.int .u32 (s.mode:Int),.int .u32 (s.atime:Int),.int .u32 (s.mtime:Int),.int .u64 (s.length:Int),.string s.name,.string s.uid,.string s.gid,.string s.fE] 39))
 have HN:=hid (Blk.new w 39 #[.int .u16 (s.type:Int),.int .u32 (s.dev:Int),.int .u8 (s.qid.kind:Int),.int .u32 (s.qid.vers:Int),.int .u64 (s.qid.path:Int),.int .u32 (s.mode:Int),.int .u32 (s.atime:Int),.int .u32 (s.mtime:Int),.int .u64 (s.length:Int),.string s.name,.string s.uid,.string s.gid,.string s.fE])
 have HR:=hid hr
 have HZ:=hid (And.intro Sr hop)
 have HG:=hid (And.intro (And.intro g1 g2) (And.intro g3 g4))
 have HQ:=hid hq
 clear h hr hz Sr hop hq g1 g2 g3 g4
 unfold stV
 go_enter Tryz.func259,Tryz.ntmps259
 go_upto_region 2 with(fail)
 generalize w.alloc (.cells #[.int .u16 (s.type:Int),.int .u32 (s.dev:Int),.int .u8 (s.qid.kind:Int),.int .u32 (s.qid.vers:Int),.int .u64 (s.qid.path:Int),.int .u32 (s.mode:Int),.int .u32 (s.atime:Int),.int .u32 (s.mtime:Int),.int .u64 (s.length:Int),.string s.name,.string s.uid,.string s.gid,.string s.fE] 39)=w0 at HS HB HN⊢
 generalize hq:w.heap.size=q at HN hsz⊢
 clear hq
 go_wp2_with fail
 refine(rE HS.out HZ.out.2).mono ?_
 rintro e w1 ⟨⟨n,rfl,hs,hn16,hn⟩,hb⟩
 have HNN:=hid hn
 have PS:=hid hn16;clear hn16
 have HS0:=hid hs
 have HN0:=hid (hb.blk HN.out (by decide) (by decide) (by decide))
 have HB0:=hid (HB.out.trans hb);clear hs hb hn HS HN HB
 have k0:w1.cell? ⟨q,0,none⟩=_:=HN0.out.cell 0
 go_wp2_with fail
 refine(lg s.type n1 HS0.out).mono ?_
 rintro e w2 ⟨rfl,hs,hb⟩
 have HS1:=hid hs
 have HN1:=hid (hb.blk HN0.out (by decide) (by decide) (by decide))
 have HB1:=hid (HB0.out.trans hb)
 clear hs hb k0 HS0 HN0 HB0
 have k1:w2.cell? ⟨q,1,none⟩=_:=HN1.out.cell 1
 go_wp2_with fail
 refine(iY s.dev n2 HS1.out).mono ?_
 rintro e w3 ⟨rfl,hs,hb⟩
 have HS2:=hid hs
 have HN2:=hid (hb.blk HN1.out (by decide) (by decide) (by decide))
 have HB2:=hid (HB1.out.trans hb)
 clear hs hb k1 HS1 HN1 HB1
 have k2:w3.cell? ⟨q,2,none⟩=_:=HN2.out.cell 2
 have k3:w3.cell? ⟨q,3,none⟩=_:=HN2.out.cell 3
 have k4:w3.cell? ⟨q,4,none⟩=_:=HN2.out.cell 4
 go_wp2_with fail
 refine(nX s.qid HQ.out HS2.out).mono ?_
 rintro e w4 ⟨rfl,hs,hb⟩
 have HS3:=hid hs
 have HN3:=hid (hb.blk HN2.out (by decide) (by decide) (by decide))
 have HB3:=hid (HB2.out.trans hb)
 clear hs hb k2 k3 k4 HS2 HN2 HB2
 have k5:w4.cell? ⟨q,5,none⟩=_:=HN3.out.cell 5
 go_wp2_with fail
 refine(iY s.mode n4 HS3.out).mono ?_
 rintro e w5 ⟨rfl,hs,hb⟩
 have HS4:=hid hs
 have HN4:=hid (hb.blk HN3.out (by decide) (by decide) (by decide))
 have HB4:=hid (HB3.out.trans hb)
 clear hs hb k5 HS3 HN3 HB3
 have k6:w5.cell? ⟨q,6,none⟩=_:=HN4.out.cell 6
 go_wp2_with fail
 refine(iY s.atime n5 HS4.out).mono ?_
 rintro e w6 ⟨rfl,hs,hb⟩
 have HS5:=hid hs
 have HN5:=hid (hb.blk HN4.out (by decide) (by decide) (by decide))
 have HB5:=hid (HB4.out.trans hb)
 clear hs hb k6 HS4 HN4 HB4
 have k7:w6.cell? ⟨q,7,none⟩=_:=HN5.out.cell 7
 go_wp2_with fail
 refine(iY s.mtime n6 HS5.out).mono ?_
 rintro e w7 ⟨rfl,hs,hb⟩
 have HS6:=hid hs
 have HN6:=hid (hb.blk HN5.out (by decide) (by decide) (by decide))
 have HB6:=hid (HB5.out.trans hb)
 clear hs hb k7 HS5 HN5 HB5
 have k8:w7.cell? ⟨q,8,none⟩=_:=HN6.out.cell 8
 go_wp2_with fail
 refine(oU s.length n7 HS6.out).mono ?_
 rintro e w8 ⟨rfl,hs,hb⟩
 have HS7:=hid hs
 have HN7:=hid (hb.blk HN6.out (by decide) (by decide) (by decide))
 have HB7:=hid (HB6.out.trans hb)
 clear hs hb k8 HS6 HN6 HB6
 have k9:w8.cell? ⟨q,9,none⟩=_:=HN7.out.cell 9
 have k10:w8.cell? ⟨q,10,none⟩=_:=HN7.out.cell 10
 have k11:w8.cell? ⟨q,11,none⟩=_:=HN7.out.cell 11
 have k12:w8.cell? ⟨q,12,none⟩=_:=HN7.out.cell 12
 have HT:=hid (Blk.new w8 9 #[.string s.name,.string s.uid,.string s.gid,.string s.fE])
 have HB8:=hid (HB7.out.alloc HS7.out.le (.cells #[.string s.name,.string s.uid,.string s.gid,.string s.fE] 9))
 have HS8:=hid (HS7.out.below ((Below.refl _ _).alloc (Nat.le_refl _) (.cells #[.string s.name,.string s.uid,.string s.gid,.string s.fE] 9)))
 clear HS7 HB7
 obtain⟨tx,htx⟩:∃tx,tx=[s.name,s.uid,s.gid,s.fE]:=⟨_,rfl⟩
 have HTX:=hid htx
 have HTG:=hid (show∀x∈tx,good x=true∧x.size≤1099511627776 from by
  have h1:=HG.out
  have h2:=HZ.out
  rw[htx]
  intro x hx
  simp only[List.mem_cons,List.not_mem_nil,or_false]at hx
  rcases hx with rfl|rfl|rfl|rfl
  ·exact⟨h1.1.1,by omega⟩
  ·exact⟨h1.1.2,by omega⟩
  ·exact⟨h1.2.1,by omega⟩
  ·exact⟨h1.2.2,by omega⟩)
 have HTL:=hid (show tx.length=4 from by rw[htx];rfl)
 clear htx
 obtain⟨st7,PU⟩:∃st7,st7=dV lim (dV lim (dV lim (dV lim (dV lim (dV lim (dV lim (dV lim st [0,0]) (le 2 s.type)) (le 4 s.dev)) (kR s.qid)) (le 4 s.mode)) (le 4 s.atime)) (le 4 s.mtime)) (le 8 s.length):=⟨_,rfl⟩
 rw[←PU]at HS8
 have HST:=hid PU;clear PU
 go_upto_region 11 with(fail)
 have HTB:=hid (show Blk (w8.alloc (.cells #[.string s.name,.string s.uid,.string s.gid,.string s.fE] 9)) w8.heap.size 9 (h_ tx).toArray from by rw[HTX.out];exact HT.out)
 generalize w8.alloc (.cells #[.string s.name,.string s.uid,.string s.gid,.string s.fE] 9)=w9 at HS8 HB8 HTB⊢
 generalize w8.heap.size=g at HTB⊢
 clear k9 k10 k11 k12 HT HN7
 go_loopw [6,49] (fun _ i wr=>∃k:Nat,k≤4∧i= .int .i64 k∧WrS wr base p lim (dV lim st7 ((tx.take k).flatMap fP)) (op++[n])∧Wk base w wr∧Blk wr g 9 (h_ tx).toArray) (fun _ i _=>4-(intOf i).toNat)
 case atStart=>
  refine⟨0,by omega,rfl, ?_,HB8.out,HTB.out⟩
  have h:=HS8.out
  rw[List.take_zero,List.flatMap_nil]
  have e:dV lim st7 []=st7:=by
   obtain⟨bv,l,ov,op',err,h,hs⟩:=h
   cases hs7:st7 with
   |none=>rfl
   |some l'=>
    rw[hs7]at hs
    obtain⟨-,rfl, -⟩:=hs
    rw[gQ (by simpa using h.len),List.append_nil]
  rw[e]
  exact h
 case round=>
  obtain⟨k,hk,rfl,hs,hb,hg⟩:=hrel
  have HSR:=hid hs;clear hs
  have HBR:=hid hb;clear hb
  have HGR:=hid hg;clear hg
  by_cases hlt:k<4
  ·obtain⟨x,hx⟩:∃x,tx[k]? =some x:=⟨tx[k]'(by rw[HTL.out];exact hlt),List.getElem?_eq_getElem _⟩
   have kx:wr.cell? ⟨g,k,none⟩=some (.string x):=by
    rw[HGR.out.cell k]
    simp[hx]
   have HX:=hid hx
   have hxg:=HTG.out x (List.mem_of_getElem? hx)
   have HXG:=hid hxg
   clear hx hxg
   go_wp2_with fail
   refine(nV x (HR.out.low HBR.out.low h8) HXG.out.2 HSR.out).mono ?_
   rintro e w10 ⟨rfl,hs,hb⟩
   have HSX:=hid hs
   have HBX:=hid (HBR.out.trans hb)
   have HGX:=hid (hb.blk HGR.out (by decide) (by decide) (by decide))
   clear hs hb kx
   go_wp2_with fail
   go_roundw
   case rel=>
    refine⟨k+1,by omega,by go_num, ?_,HBX.out,HGX.out⟩
    have h:=HSX.out
    rw[j_ HXG.out.1 hlim,jm]at h
    rw[List.take_add_one,HX.out,Option.toList_some,List.flatMap_append,List.flatMap_singleton]
    exact h
   case measure=>simp[intOf];omega
  ·have hk4:k=4:=by omega
   subst hk4
   have hfin:dV lim st7 ((tx.take 4).flatMap fP)=dV lim (dV lim st [0,0]) (CO s):=by
    rw[List.take_of_length_le (Nat.le_of_eq HTL.out),HTX.out,HST.out]
    simp only[jm,List.flatMap_cons,List.flatMap_nil,List.append_nil]
    unfold CO
    simp only[List.append_assoc]
   have HSF:=hid (show WrS wr base p lim (dV lim (dV lim st [0,0]) (CO s)) (op++[n])from by rw[←hfin];exact HSR.out)
   clear HSR hfin
   go_wp2_with fail
   refine(rF n PS.out HSF.out (fun l hl=>by
    obtain⟨l0,h0,rfl, -⟩:=zl hl
    rw[List.length_append,HNN.out l0 h0]
    omega)).mono ?_
   rintro e w11 ⟨rfl,hs,hb⟩
   have HSX:=hid hs
   have HBX:=hid (HBR.out.trans hb)
   clear hs hb
   go_wp2_with fail
   go_end0
   refine⟨rfl, ?_,HBX.out⟩
   rw[Iu,←vY HNN.out hlim]
   exact HSX.out
theorem yB{w:World}{base p lim:Nat}{st:Option (List UInt8)}{op:List Nat}(s:Sta)(hs:s.ok)(hg:s.good=true)(hz:dY s≤1099511627776)(hr:Ready w)(h8:8≤base)(hlim:lim≤65536)(h:WrS w base p lim st op)(hop:op.length<15):
  Calls Tryz.prog 235 #[.pointer (some ⟨p,0,none⟩),stV s] w fun e w'=>e= .returned (.tuple #[])∧WrS w' base p lim (dV lim st (le 2 (dY s)++kX s)) op∧Wk base w w':=by
 have HS:=hid (h.below ((Below.refl _ _).alloc (Nat.le_refl _) (.cells #[.int .u16 (s.type:Int),.int .u32 (s.dev:Int),.int .u8 (s.qid.kind:Int),.int .u32 (s.qid.vers:Int),.int .u64 (s.qid.path:Int),.int .u32 (s.mode:Int),.int .u32 (s.atime:Int),.int .u32 (s.mtime:Int),.int .u64 (s.length:Int),.string s.name,.string s.uid,.string s.gid,.string s.fE] 39)))
 have HB:=hid ((Wk.refl base w).alloc h.le (.cells #[.int .u16 (s.type:Int),.int .u32 (s.dev:Int),.int .u8 (s.qid.kind:Int),.int .u32 (s.qid.vers:Int),.int .u64 (s.qid.path:Int),.int .u32 (s.mode:Int),.int .u32 (s.atime:Int),.int .u32 (s.mtime:Int),.int .u64 (s.length:Int),.string s.name,.string s.uid,.string s.gid,.string s.fE] 39))
 have HN:=hid (Blk.new w 39 #[.int .u16 (s.type:Int),.int .u32 (s.dev:Int),.int .u8 (s.qid.kind:Int),.int .u32 (s.qid.vers:Int),.int .u64 (s.qid.path:Int),.int .u32 (s.mode:Int),.int .u32 (s.atime:Int),.int .u32 (s.mtime:Int),.int .u64 (s.length:Int),.string s.name,.string s.uid,.string s.gid,.string s.fE])
 have HR:=hid hr
 have HOP:=hid hop
 have HOK:=hid (And.intro hs (And.intro hg hz))
 clear h hr hop hs hg hz
 unfold stV
 go_enter Tryz.func235,Tryz.ntmps235
 go_upto_region 1 with(fail)
 generalize w.alloc (.cells #[.int .u16 (s.type:Int),.int .u32 (s.dev:Int),.int .u8 (s.qid.kind:Int),.int .u32 (s.qid.vers:Int),.int .u64 (s.qid.path:Int),.int .u32 (s.mode:Int),.int .u32 (s.atime:Int),.int .u32 (s.mtime:Int),.int .u64 (s.length:Int),.string s.name,.string s.uid,.string s.gid,.string s.fE] 39)=w0 at HS HB HN⊢
 generalize w.heap.size=q at HN⊢
 go_wp2_with fail
 refine(rE HS.out (by have:=HOP.out;omega)).mono ?_
 rintro e w1 ⟨⟨n,rfl,hs,hn16,hn⟩,hb⟩
 have HNN:=hid hn
 have PS:=hid hn16;clear hn16
 have HS0:=hid hs
 have HN0:=hid (hb.blk HN.out (by decide) (by decide) (by decide))
 have HB0:=hid (HB.out.trans hb);clear hs hb hn HS HN HB
 go_wp2_with(refine wlw HN0.out 0 (stL s) rfl rfl _ _ rfl rfl _ Tryz.underlying39 rfl bP ?_)
 refine(Iw s HOK.out.1 HOK.out.2.1 HOK.out.2.2 (HR.out.low HB0.out.low h8) h8 hlim HS0.out (by rw[List.length_append];have:=HOP.out;simp;omega)).mono ?_
 rintro e w2 ⟨rfl,hs,hb⟩
 have HS1:=hid hs
 have HB1:=hid (HB0.out.trans hb);clear hs hb HS0 HB0 HN0
 go_wp2_with fail
 refine(rF n PS.out HS1.out (fun l hl=>by
    obtain⟨l0,h0,rfl, -⟩:=zl hl
    rw[List.length_append,HNN.out l0 h0]
    omega)).mono ?_
 rintro e w11 ⟨rfl,hs,hb⟩
 have HSX:=hid hs
 have HBX:=hid (HB1.out.trans hb)
 clear hs hb
 go_wp2_with fail
 go_end0
 refine⟨rfl, ?_,HBX.out⟩
 rw[←pW s,←vY HNN.out hlim]
 exact HSX.out
theorem Kt(l:List ByteArray)(k:Nat)(x:ByteArray)(hx:l[k]? =some x):(l.take (k+1)).flatMap fP=(l.take k).flatMap fP++fP x:=by
 rw[List.take_add_one,hx,Option.toList_some,List.flatMap_append,List.flatMap_singleton]
theorem iW.at_{w:World}{B:Nat}{A:Option Addr}{n c:Nat}{l:List ByteArray}(h:iW w B (.slice A n c) l){k:Nat}{x:ByteArray}(hx:l[k]? =some x):∃ad,A=some ad∧ad.block<B∧w.cell? (ad.add k)=some (.string x):=by
 obtain⟨A',c',e, -, -,hr⟩:=h
 injection e with e1 e2 e3
 subst e1
 have hk:k<l.length:=(List.getElem?_eq_some_iff.1 hx).1
 obtain⟨ad,u,h1,h2,h3,h4⟩:=hr.at_ hk
 refine⟨ad,h1,h2,h4.trans ?_⟩
 rw[h_,List.getElem?_map,hx]at h3
 exact h3.symm▸rfl
theorem vZ{w:World}{base p lim:Nat}{st:Option (List UInt8)}{op:List Nat}(vn:Value)(l:List ByteArray)(hl:iW w base vn l)(h16:l.length≤65535)(hg:∀x∈l,good x=true∧x.size≤1099511627776)(hr:Ready w)(h8:8≤base)(hlim:lim≤65536)(h:WrS w base p lim st op):
  Calls Tryz.prog 211 #[.pointer (some ⟨p,0,none⟩),vn,.func (.func 135) #[.pointer (some ⟨p,0,none⟩)] #[]] w fun e w'=>e= .returned (.tuple #[])∧WrS w' base p lim (dV lim st (le 2 l.length++l.flatMap fP)) op∧Wk base w w':=by
 have HL:=hid hl
 obtain⟨A,c,rfl,hc,hm, -⟩:=hl
 have HR:=hid hr
 have HG:=hid hg
 have HS:=hid h
 clear hr hg h
 go_enter Tryz.func211,Tryz.ntmps211
 go_wp2_with fail
 refine(lg l.length (by omega) HS.out).mono ?_
 rintro e w1 ⟨rfl,hs,hb⟩
 have HS1:=hid hs
 have HB1:=hid hb
 clear hs hb HS
 go_upto_region 2 with(fail)
 go_loopw [7,15] (fun _ i wr=>∃k:Nat,k≤l.length∧i= .int .i64 k∧WrS wr base p lim (dV lim st (le 2 l.length++(l.take k).flatMap fP)) op∧Wk base w wr) (fun _ i _=>l.length-(intOf i).toNat)
 case atStart=>
  refine⟨0,by omega,rfl, ?_,HB1.out⟩
  rw[List.take_zero,List.flatMap_nil,List.append_nil]
  exact HS1.out
 case round=>
  obtain⟨k,hk,rfl,hs,hb⟩:=hrel
  have HSR:=hid hs;clear hs
  have HBR:=hid hb;clear hb
  by_cases hlt:k<l.length
  ·obtain⟨x,hx⟩:∃x,l[k]? =some x:=⟨l[k],List.getElem?_eq_getElem _⟩
   obtain⟨ad,rfl,hab,kx⟩:=(HL.out.below HBR.out.low).at_ hx
   have HX:=hid hx
   have HXG:=hid (HG.out x (List.mem_of_getElem? hx))
   clear hx hab
   go_wp2_with fail
   refine(nV x (HR.out.low HBR.out.low h8) HXG.out.2 HSR.out).mono ?_
   rintro e w10 ⟨rfl,hs,hb⟩
   have HSX:=hid hs
   have HBX:=hid (HBR.out.trans hb)
   clear hs hb kx
   go_wp2_with fail
   go_roundw
   case rel=>
    refine⟨k+1,by omega,by go_num, ?_,HBX.out⟩
    have h:=HSX.out
    rw[j_ HXG.out.1 hlim,jm,List.append_assoc,←Kt l k x HX.out]at h
    exact h
   case measure=>simp[intOf];omega
  ·have hkl:k=l.length:=by omega
   subst hkl
   have HSF:=hid (show WrS wr base p lim (dV lim st (le 2 l.length++l.flatMap fP)) op from by have h:=HSR.out;rw[List.take_length]at h;exact h)
   clear HSR
   go_wp2_with fail
   go_end0
   exact⟨rfl,HSF.out,HBR.out⟩
theorem Ey{w:World}{base p c lim:Nat}{st:Option (List UInt8)}{op:List Nat}(q:Qd)(hq:q.ok)(hc:Blk w c 117 #[.pointer (some ⟨p,0,none⟩)])(h:WrS w base p lim st op):
  Calls Tryz.prog 223 #[qdV q,.pointer (some ⟨c,0,none⟩)] w fun e w'=>e= .returned (.tuple #[])∧WrS w' base p lim (dV lim st (kR q)) op∧Wk base w w':=by
 have HS:=hid (h.below ((Below.refl _ _).alloc (Nat.le_refl _) (.cells #[.int .u8 (q.kind:Int),.int .u32 (q.vers:Int),.int .u64 (q.path:Int)] 37)))
 have HB:=hid ((Wk.refl base w).alloc h.le (.cells #[.int .u8 (q.kind:Int),.int .u32 (q.vers:Int),.int .u64 (q.path:Int)] 37))
 have HN:=hid (Blk.new w 37 #[.int .u8 (q.kind:Int),.int .u32 (q.vers:Int),.int .u64 (q.path:Int)])
 have HC:=hid (hc.alloc (.cells #[.int .u8 (q.kind:Int),.int .u32 (q.vers:Int),.int .u64 (q.path:Int)] 37))
 have HQ:=hid hq
 clear h hc hq
 unfold qdV
 go_enter Tryz.func223,Tryz.ntmps223
 go_upto_region 1 with(fail)
 generalize w.alloc (.cells #[.int .u8 (q.kind:Int),.int .u32 (q.vers:Int),.int .u64 (q.path:Int)] 37)=w1 at HS HB HN HC⊢
 have k0:w1.cell? ⟨w.heap.size,0,none⟩=_:=HN.out.cell 0
 have k1:w1.cell? ⟨w.heap.size,1,none⟩=_:=HN.out.cell 1
 have k2:w1.cell? ⟨w.heap.size,2,none⟩=_:=HN.out.cell 2
 have kc:w1.cell? ⟨c,0,none⟩=_:=HC.out.cell 0
 go_wp2_with fail
 refine(nX q HQ.out HS.out).mono ?_
 rintro e w2 ⟨rfl,hs,hb⟩
 have HS2:=hid hs
 have HB2:=hid (HB.out.trans hb);clear hs hb
 go_wp2_with fail
 go_end0
 exact⟨rfl,HS2.out,HB2.out⟩
theorem Ku(l:List Qd)(k:Nat)(x:Qd)(hx:l[k]? =some x):(l.take (k+1)).flatMap kR=(l.take k).flatMap kR++kR x:=by
 rw[List.take_add_one,hx,Option.toList_some,List.flatMap_append,List.flatMap_singleton]
theorem GK:∀(l:List Qd) (k:Nat) (q:Qd),l[k]? =some q→(ng l)[k*3]? =some (.int .u8 (q.kind:Int))∧(ng l)[k*3+1]? =some (.int .u32 (q.vers:Int))∧(ng l)[k*3+2]? =some (.int .u64 (q.path:Int))
 | [],k,q,h=>by simp at h
 |x::l,0,q,h=>by
  simp at h
  subst h
  exact⟨rfl,rfl,rfl⟩
 |x::l,k+1,q,h=>by
  have:=GK l k q (by simpa using h)
  rw[show(k+1)*3=k*3+3 by omega]
  exact this
theorem lX.at_{w:World}{B:Nat}{A:Option Addr}{n c:Nat}{l:List Qd}(h:lX w B (.slice A n c) l){k:Nat}{q:Qd}(hx:l[k]? =some q):∃ad,A=some ad∧ad.block<B∧w.cell? (ad.add (k*3))=some (.int .u8 (q.kind:Int))∧w.cell? ⟨(ad.add (k*3)).block,(ad.add (k*3)).off+1,none⟩=some (.int .u32 (q.vers:Int))∧w.cell? ⟨(ad.add (k*3)).block,(ad.add (k*3)).off+2,none⟩=some (.int .u64 (q.path:Int)):=by
 obtain⟨A',c',e, -, -,hr⟩:=h
 injection e with e1 e2 e3
 subst e1
 have hk:k<l.length:=(List.getElem?_eq_some_iff.1 hx).1
 obtain⟨ad,h1,h2,h3⟩:=hr.2 (by omega)
 have hq:=GK l k q hx
 have e1:(⟨(ad.add (k*3)).block,(ad.add (k*3)).off+1,none⟩:Addr)=ad.add (k*3+1):=by rw[←lU];rfl
 have e2:(⟨(ad.add (k*3)).block,(ad.add (k*3)).off+2,none⟩:Addr)=ad.add (k*3+2):=by rw[←lU];rfl
 exact⟨ad,h1,h2,h3 _ _ hq.1,by rw[e1];exact h3 _ _ hq.2.1,by rw[e2];exact h3 _ _ hq.2.2⟩
theorem wo{w:World}{base p c lim:Nat}{st:Option (List UInt8)}{op:List Nat}(vq:Value)(l:List Qd)(hl:lX w base vq l)(h16:l.length≤65535)(hg:∀x∈l,x.ok)(hc:Blk w c 117 #[.pointer (some ⟨p,0,none⟩)])(h:WrS w base p lim st op):
  Calls Tryz.prog 222 #[.pointer (some ⟨p,0,none⟩),vq,.func (.func 223) #[] #[.pointer (some ⟨c,0,none⟩)]] w fun e w'=>e= .returned (.tuple #[])∧WrS w' base p lim (dV lim st (le 2 l.length++l.flatMap kR)) op∧Wk base w w':=by
 have HL:=hid hl
 obtain⟨A,cp,rfl,hcp,hm, -⟩:=hl
 have HG:=hid hg
 have HC:=hid hc
 have HS:=hid h
 clear hc hg h
 go_enter Tryz.func222,Tryz.ntmps222
 go_wp2_with fail
 refine(lg l.length (by omega) HS.out).mono ?_
 rintro e w1 ⟨rfl,hs,hb⟩
 have HS1:=hid hs
 have HB1:=hid hb
 clear hs hb HS
 go_upto_region 2 with(fail)
 go_loopw [7,15] (fun _ i wr=>∃k:Nat,k≤l.length∧i= .int .i64 k∧WrS wr base p lim (dV lim st (le 2 l.length++(l.take k).flatMap kR)) op∧Wk base w wr) (fun _ i _=>l.length-(intOf i).toNat)
 case atStart=>
  refine⟨0,by omega,rfl, ?_,HB1.out⟩
  rw[List.take_zero,List.flatMap_nil,List.append_nil]
  exact HS1.out
 case round=>
  obtain⟨k,hk,rfl,hs,hb⟩:=hrel
  have HSR:=hid hs;clear hs
  have HBR:=hid hb;clear hb
  by_cases hlt:k<l.length
  ·obtain⟨x,hx⟩:∃x,l[k]? =some x:=⟨l[k],List.getElem?_eq_getElem _⟩
   obtain⟨ad,rfl,hab,kx0,kx1,kx2⟩:=(HL.out.below HBR.out.low).at_ hx
   have HX:=hid hx
   have HXG:=hid (HG.out x (List.mem_of_getElem? hx))
   clear hx hab
   go_upto_region 4 with(fail)
   have HSA:=hid (HSR.out.below ((Below.refl _ _).alloc (Nat.le_refl _) (.cells #[.int .u8 (x.kind:Int),.int .u32 (x.vers:Int),.int .u64 (x.path:Int)] 37)))
   have HBA:=hid (HBR.out.alloc HSR.out.le (.cells #[.int .u8 (x.kind:Int),.int .u32 (x.vers:Int),.int .u64 (x.path:Int)] 37))
   have HN:=hid (Blk.new wr 37 #[.int .u8 (x.kind:Int),.int .u32 (x.vers:Int),.int .u64 (x.path:Int)])
   have HCA:=hid (HBA.out.blk HC.out (by decide) (by decide) (by decide))
   generalize wr.alloc (.cells #[.int .u8 (x.kind:Int),.int .u32 (x.vers:Int),.int .u64 (x.path:Int)] 37)=wa at HSA HBA HN HCA⊢
   clear kx0 kx1 kx2
   generalize wr.heap.size=z at HN⊢
   have k0:wa.cell? ⟨z,0,none⟩=_:=HN.out.cell 0
   have k1:wa.cell? ⟨z,1,none⟩=_:=HN.out.cell 1
   have k2:wa.cell? ⟨z,2,none⟩=_:=HN.out.cell 2
   go_wp2_with fail
   refine(Ey x HXG.out HCA.out HSA.out).mono ?_
   rintro e w10 ⟨rfl,hs,hb⟩
   have HSX:=hid hs
   have HBX:=hid (HBA.out.trans hb)
   clear hs hb k0 k1 k2
   go_wp2_with fail
   go_roundw
   case rel=>
    refine⟨k+1,by omega,by go_num, ?_,HBX.out⟩
    have h:=HSX.out
    rw[jm,List.append_assoc,←Ku l k x HX.out]at h
    exact h
   case measure=>simp[intOf];omega
  ·have hkl:k=l.length:=by omega
   subst hkl
   have HSF:=hid (show WrS wr base p lim (dV lim st (le 2 l.length++l.flatMap kR)) op from by have h:=HSR.out;rw[List.take_length]at h;exact h)
   clear HSR
   go_wp2_with fail
   go_end0
   exact⟨rfl,HSF.out,HBR.out⟩
abbrev cap1(b:Nat):Array Value:= #[.pointer (some ⟨b,0,none⟩)]
abbrev fv(k:Nat)(c:Array Value):Value:= .func (.func k) #[] c
def Fld.kg:Fld→Nat
 | .bI=>126
 | .version=>132
 | .dB=>126
 | .uname=>132
 | .bF=>132
 | .bH=>132
 | .aT=>126
 | .fid=>126
 | .aU=>126
 | .names=>207
 | .aV=>220
 | .qid=>126
 | .mode=>126
 | .aQ=>126
 | .name=>132
 | .perm=>126
 | .offset=>126
 | .count=>126
 | .data=>126
 | .stat=>233
def Fld.kp:Fld→Nat
 | .bI=>127
 | .version=>134
 | .dB=>127
 | .uname=>134
 | .bF=>134
 | .bH=>134
 | .aT=>143
 | .fid=>127
 | .aU=>127
 | .names=>210
 | .aV=>221
 | .qid=>170
 | .mode=>148
 | .aQ=>127
 | .name=>134
 | .perm=>127
 | .offset=>153
 | .count=>127
 | .data=>160
 | .stat=>234
def Fld.kt:Fld→Nat
 | .bI=>128
 | .version=>136
 | .dB=>128
 | .uname=>136
 | .bF=>136
 | .bH=>136
 | .aT=>144
 | .fid=>128
 | .aU=>128
 | .names=>212
 | .aV=>224
 | .qid=>172
 | .mode=>149
 | .aQ=>128
 | .name=>136
 | .perm=>128
 | .offset=>155
 | .count=>128
 | .data=>162
 | .stat=>236
def Fld.km:Fld→Nat
 | .bI=>129
 | .version=>138
 | .dB=>129
 | .uname=>138
 | .bF=>138
 | .bH=>138
 | .aT=>145
 | .fid=>129
 | .aU=>129
 | .names=>214
 | .aV=>227
 | .qid=>174
 | .mode=>150
 | .aQ=>129
 | .name=>138
 | .perm=>129
 | .offset=>157
 | .count=>129
 | .data=>164
 | .stat=>238
def Fld.kr:Fld→Nat
 | .bI=>130
 | .version=>139
 | .dB=>130
 | .uname=>139
 | .bF=>139
 | .bH=>139
 | .aT=>146
 | .fid=>130
 | .aU=>130
 | .names=>216
 | .aV=>229
 | .qid=>175
 | .mode=>151
 | .aQ=>130
 | .name=>139
 | .perm=>130
 | .offset=>158
 | .count=>130
 | .data=>166
 | .stat=>239
def Fld.ks:Fld→Nat
 | .bI=>131
 | .version=>141
 | .dB=>131
 | .uname=>141
 | .bF=>141
 | .bH=>141
 | .aT=>147
 | .fid=>131
 | .aU=>131
 | .names=>218
 | .aV=>231
 | .qid=>177
 | .mode=>152
 | .aQ=>131
 | .name=>141
 | .perm=>131
 | .offset=>159
 | .count=>131
 | .data=>168
 | .stat=>241
def Fld.ka:Fld→Nat
 | .bI=>75
 | .dB=>76
 | .fid=>77
 | .aU=>78
 | .aQ=>79
 | .perm=>80
 | .count=>81
 | .version=>83
 | .uname=>84
 | .bF=>85
 | .bH=>86
 | .name=>87
 |_=>0
def Fld.jJ:Fld→ByteArray
 | .bI=>⟨#[109,115,105,122,101]⟩
 | .version=>⟨#[118,101,114,115,105,111,110]⟩
 | .dB=>⟨#[97,102,105,100]⟩
 | .uname=>⟨#[117,110,97,109,101]⟩
 | .bF=>⟨#[97,110,97,109,101]⟩
 | .bH=>⟨#[101,110,97,109,101]⟩
 | .aT=>⟨#[111,108,100,116,97,103]⟩
 | .fid=>⟨#[102,105,100]⟩
 | .aU=>⟨#[110,101,119,102,105,100]⟩
 | .names=>⟨#[110,97,109,101,115]⟩
 | .aV=>⟨#[113,105,100,115]⟩
 | .qid=>⟨#[113,105,100]⟩
 | .mode=>⟨#[109,111,100,101]⟩
 | .aQ=>⟨#[105,111,117,110,105,116]⟩
 | .name=>⟨#[110,97,109,101]⟩
 | .perm=>⟨#[112,101,114,109]⟩
 | .offset=>⟨#[111,102,102,115,101,116]⟩
 | .count=>⟨#[99,111,117,110,116]⟩
 | .data=>⟨#[100,97,116,97]⟩
 | .stat=>⟨#[115,116,97,116]⟩
theorem CP(f:Fld):f.jJ=ofL f.word:=by cases f<;>rfl
def Fld.far:Fld→Bool
 | .bI| .dB| .fid| .aU| .aQ| .perm| .count| .version| .uname| .bF| .bH| .name=>true
 |_=>false
def Fld.cap(f:Fld)(b:Nat):Array Value:=if f.far then cap1 b else #[]
def Fld.sO(f:Fld)(b:Nat):Array Value:=if f.isText then cap1 b else #[]
abbrev U1(f:Fld)(b:Nat):List Value:=[.string f.jJ,fv f.kg (f.sO b),fv f.kp (f.cap b),fv f.kt (f.cap b),fv f.km (f.cap b),fv f.kr (f.cap b),fv f.ks (f.cap b)]
abbrev aY:List Value:=[.string ⟨#[]⟩,.nilFunc,.nilFunc,.nilFunc,.nilFunc,.nilFunc,.nilFunc]
def yC(w:World)(f:Fld)(b:Nat):Prop:=(f.isText=true→Blk w b 138 #[fv f.ka #[]])∧(f.far=true→f.isText=false→Blk w b 135 #[fv f.ka #[]])
theorem b_:(Tryz.prog.info? 90).map (·.size)=some 7:=by kernel_rfl
theorem dh(a b c d e f g:Value):over aY.toArray 0 [a,b,c,d,e,f,g]= #[a,b,c,d,e,f,g]:=by kernel_rfl
theorem bg{fn:Func}{tmps:Array Value}{w:World}{q i:Nat}{l:List Value}(hr:fn.results= #[.cell i 90])(hl:l.length=7)(h2:tmps.getD i undef= .pointer (some ⟨q,0,none⟩))(hk:Blk w q 90 l.toArray):
  (results fn tmps).run Tryz.prog w= .ok (.agg l.toArray) w:=by
 have h2':tmps[i]?.getD undef= .pointer (some ⟨q,0,none⟩):=by simpa using h2
 have hl7:(loadVar 90 ⟨q,0,none⟩).run Tryz.prog w= .ok (.agg l.toArray) w:=
  run_loadVar_mid w q 0 90 l _ (Blk.range hk 0 l (by simp)) Tryz.underlying90 rfl (by rw[hl];exact b_)
 simp[results,hr,h2',asAddr,hl7]
theorem X3(s:ByteArray)(a b c d e f:Nat)(x y:Array Value):([Value.string s,fv a x,fv b y,fv c y,fv d y,fv e y,fv f y]:List Value).toArray.all (·.oneCell')=true:=by simp[Value.oneCell']
theorem gK(s:ByteArray)(k:Nat)(w:World):
  Calls Tryz.prog 74 #[.string s,fv k #[]] w fun e w'=>e= .returned (.agg #[.string s,fv 126 #[],fv 127 (cap1 w.heap.size),fv 128 (cap1 w.heap.size),fv 129 (cap1 w.heap.size),fv 130 (cap1 w.heap.size),fv 131 (cap1 w.heap.size)])∧Below w.heap.size w w'∧Blk w' w.heap.size 135 #[fv k #[]]:=by
 have hmf:=iF
 go_enter Tryz.func74,Tryz.ntmps74
 go_upto_region 1 with(fail)
 have HC:=hid ((Blk.new w 135 #[fv k #[]]).alloc (.cells aY.toArray 90))
 have HN:=hid (show Blk ((w.alloc (.cells #[fv k #[]] 135)).alloc (.cells aY.toArray 90)) (w.heap.size+1) 90 aY.toArray from by
  have h:=Blk.new (w.alloc (.cells #[fv k #[]] 135)) 90 aY.toArray
  rw[World.size_alloc]at h
  exact h)
 have HB:=hid (((Below.refl w.heap.size w).alloc (Nat.le_refl _) (.cells #[fv k #[]] 135)).alloc (by simp) (.cells aY.toArray 90))
 change Code.wp _ _ _ _ ((w.alloc (.cells #[fv k #[]] 135)).alloc (.cells aY.toArray 90))
 generalize(w.alloc (.cells #[fv k #[]] 135)).alloc (.cells aY.toArray 90)=w1 at HC HN HB⊢
 have HCL:=hid (show([.string s,fv 126 #[],fv 127 (cap1 w.heap.size),fv 128 (cap1 w.heap.size),fv 129 (cap1 w.heap.size),fv 130 (cap1 w.heap.size),fv 131 (cap1 w.heap.size)]:List Value).toArray.all (·.oneCell')=true from by simp[Value.oneCell'])
 go_wp2_with(refine dA HN.out 0 [.string s,fv 126 #[],fv 127 (cap1 w.heap.size),fv 128 (cap1 w.heap.size),fv 129 (cap1 w.heap.size),fv 130 (cap1 w.heap.size),fv 131 (cap1 w.heap.size)] _ (dh _ _ _ _ _ _ _) (Nat.le_refl 7) HCL.out rfl _ _ _ rfl rfl rfl b_ ?_;intro w2 hs ho;have HX:=hid hs;have HO:=hid (ho (fun i=>i=w.heap.size+1) rfl w1 (Off.refl _ _));clear hs ho)
 refine bodyPost_ret (bg rfl rfl rfl HX.out) rfl ⟨rfl,HB.out.trans (HO.out.below (fun i hi=>by omega) HB.out.size),HO.out.blk HC.out (by omega)⟩
theorem lq(s:ByteArray)(k:Nat)(w:World):
  Calls Tryz.prog 82 #[.string s,fv k #[]] w fun e w'=>e= .returned (.agg #[.string s,fv 132 (cap1 w.heap.size),fv 134 (cap1 w.heap.size),fv 136 (cap1 w.heap.size),fv 138 (cap1 w.heap.size),fv 139 (cap1 w.heap.size),fv 141 (cap1 w.heap.size)])∧Below w.heap.size w w'∧Blk w' w.heap.size 138 #[fv k #[]]:=by
 have hmf:=iF
 go_enter Tryz.func82,Tryz.ntmps82
 go_upto_region 1 with(fail)
 have HC:=hid ((Blk.new w 138 #[fv k #[]]).alloc (.cells aY.toArray 90))
 have HN:=hid (show Blk ((w.alloc (.cells #[fv k #[]] 138)).alloc (.cells aY.toArray 90)) (w.heap.size+1) 90 aY.toArray from by
  have h:=Blk.new (w.alloc (.cells #[fv k #[]] 138)) 90 aY.toArray
  rw[World.size_alloc]at h
  exact h)
 have HB:=hid (((Below.refl w.heap.size w).alloc (Nat.le_refl _) (.cells #[fv k #[]] 138)).alloc (by simp) (.cells aY.toArray 90))
 change Code.wp _ _ _ _ ((w.alloc (.cells #[fv k #[]] 138)).alloc (.cells aY.toArray 90))
 generalize(w.alloc (.cells #[fv k #[]] 138)).alloc (.cells aY.toArray 90)=w1 at HC HN HB⊢
 have HCL:=hid (show([.string s,fv 132 (cap1 w.heap.size),fv 134 (cap1 w.heap.size),fv 136 (cap1 w.heap.size),fv 138 (cap1 w.heap.size),fv 139 (cap1 w.heap.size),fv 141 (cap1 w.heap.size)]:List Value).toArray.all (·.oneCell')=true from by simp[Value.oneCell'])
 go_wp2_with(refine dA HN.out 0 [.string s,fv 132 (cap1 w.heap.size),fv 134 (cap1 w.heap.size),fv 136 (cap1 w.heap.size),fv 138 (cap1 w.heap.size),fv 139 (cap1 w.heap.size),fv 141 (cap1 w.heap.size)] _ (dh _ _ _ _ _ _ _) (Nat.le_refl 7) HCL.out rfl _ _ _ rfl rfl rfl b_ ?_;intro w2 hs ho;have HX:=hid hs;have HO:=hid (ho (fun i=>i=w.heap.size+1) rfl w1 (Off.refl _ _));clear hs ho)
 refine bodyPost_ret (bg rfl rfl rfl HX.out) rfl ⟨rfl,HB.out.trans (HO.out.below (fun i hi=>by omega) HB.out.size),HO.out.blk HC.out (by omega)⟩
theorem X4:∀ {L:List Value},L.length=7→over aY.toArray 0 L=L.toArray
 | [a,b,c,d,e,f,g],_=>dh a b c d e f g
def abX(f:Fld)(b:Nat)(w:World)(e:Ending)(w':World):Prop:=e= .returned (.agg (U1 f b).toArray)∧Below w.heap.size w w'∧yC w' f b
theorem yC.of{w w':World}{f:Fld}{b:Nat}(h:yC w f b)(hk:∀t cs,Blk w b t cs→Blk w' b t cs):yC w' f b:=
 ⟨fun h1=>hk _ _ (h.1 h1),fun h1 h2=>hk _ _ (h.2 h1 h2)⟩
theorem X7(f:Fld)(h:f.far=true)(h2:f.isText=false)(b:Nat)(w:World)(hb:w.heap.size=b):Calls Tryz.prog 74 #[.string f.jJ,fv f.ka #[]] w (abX f b w):=by
 subst hb
 refine(gK f.jJ f.ka w).mono ?_
 rintro e w' ⟨rfl,hb,hc⟩
 refine⟨?_,hb,⟨fun h'=>(by rw[h']at h2;cases h2),fun _ _=>hc⟩⟩
 cases f<;>first|rfl|exact absurd h (by decide)|exact absurd h2 (by decide)
theorem X9(f:Fld)(h:f.isText=true)(b:Nat)(w:World)(hb:w.heap.size=b):Calls Tryz.prog 82 #[.string f.jJ,fv f.ka #[]] w (abX f b w):=by
 subst hb
 refine(lq f.jJ f.ka w).mono ?_
 rintro e w' ⟨rfl,hb,hc⟩
 refine⟨?_,hb,⟨fun _=>hc,fun _ h'=>(by rw[h']at h;cases h)⟩⟩
 cases f<;>first|rfl|exact absurd h (by decide)
theorem X6(f:Fld)(hf:f= .names∨f= .aV∨f= .stat)(b:Nat)(w:World):Calls Tryz.prog 179 #[.int .u8 (f.ix:Int)] w (abX f b w):=by
 obtain⟨i,hi⟩:∃i:Int,i=(f.ix:Int):=⟨_,rfl⟩
 rw[←hi]
 obtain⟨L,hL⟩:∃L,L=U1 f b:=⟨_,rfl⟩
 have HLL:=hid hL
 have H7:=hid (show L.length=7 from by rw[hL];rfl)
 have HCL:=hid (show L.toArray.all (·.oneCell')=true from by rw[hL];exact X3 ..)
 clear hL
 have hmf:=iF
 have HN:=hid (Blk.new w 90 aY.toArray)
 have HB:=hid ((Below.refl w.heap.size w).alloc (Nat.le_refl _) (.cells aY.toArray 90))
 have HCP:=hid (show∀w',yC w' f b from fun w'=>(by rcases hf with rfl|rfl|rfl<;>exact⟨(by intro h;cases h),(by intro h;cases h)⟩))
 rcases hf with rfl|rfl|rfl
 all_goals
  simp[Fld.ix]at hi
  subst hi
  go_enter Tryz.func179,Tryz.ntmps179
  go_upto_region 1 with(fail)
  change Code.wp _ _ _ _ (w.alloc (.cells aY.toArray 90))
  generalize w.alloc (.cells aY.toArray 90)=w1 at HN HB⊢
  go_wp2_with(refine dA HN.out 0 L _ (X4 H7.out) (by rw[H7.out];exact Nat.le_refl 7) HCL.out rfl _ _ _ rfl rfl (by rw[HLL.out];rfl) (by rw[H7.out];exact b_) ?_;intro w2 hs ho;have HX:=hid hs;have HO:=hid (ho (fun i=>i=w.heap.size) rfl w1 (Off.refl _ _));clear hs ho)
  exact bodyPost_ret (bg rfl H7.out rfl HX.out) rfl ⟨by rw[HLL.out],HB.out.trans (HO.out.below (fun i hi=>by omega) HB.out.size),HCP.out _⟩
theorem P9(f:Fld)(hf:f= .aT∨f= .mode∨f= .offset∨f= .data∨f= .qid)(b:Nat)(w:World):Calls Tryz.prog 88 #[.int .u8 (f.ix:Int)] w (abX f b w):=by
 obtain⟨i,hi⟩:∃i:Int,i=(f.ix:Int):=⟨_,rfl⟩
 rw[←hi]
 obtain⟨L,hL⟩:∃L,L=U1 f b:=⟨_,rfl⟩
 have HLL:=hid hL
 have H7:=hid (show L.length=7 from by rw[hL];rfl)
 have HCL:=hid (show L.toArray.all (·.oneCell')=true from by rw[hL];exact X3 ..)
 clear hL
 have hmf:=iF
 have HN:=hid (Blk.new w 90 aY.toArray)
 have HB:=hid ((Below.refl w.heap.size w).alloc (Nat.le_refl _) (.cells aY.toArray 90))
 have HCP:=hid (show∀w',yC w' f b from fun w'=>(by rcases hf with rfl|rfl|rfl|rfl|rfl<;>exact⟨(by intro h;cases h),(by intro h;cases h)⟩))
 rcases hf with rfl|rfl|rfl|rfl|rfl
 all_goals
  simp[Fld.ix]at hi
  subst hi
  go_enter Tryz.func88,Tryz.ntmps88
  go_upto_region 1 with(fail)
  change Code.wp _ _ _ _ (w.alloc (.cells aY.toArray 90))
  generalize w.alloc (.cells aY.toArray 90)=w1 at HN HB⊢
  go_wp2_with(refine dA HN.out 0 L _ (X4 H7.out) (by rw[H7.out];exact Nat.le_refl 7) HCL.out rfl _ _ _ rfl rfl (by rw[HLL.out];rfl) (by rw[H7.out];exact b_) ?_;intro w2 hs ho;have HX:=hid hs;have HO:=hid (ho (fun i=>i=w.heap.size) rfl w1 (Off.refl _ _));clear hs ho)
  exact bodyPost_ret (bg rfl H7.out rfl HX.out) rfl ⟨by rw[HLL.out],HB.out.trans (HO.out.below (fun i hi=>by omega) HB.out.size),HCP.out _⟩
theorem X0(f:Fld)(hf:f= .names∨f= .aV∨f= .stat)(b:Nat)(w:World):Calls Tryz.prog 88 #[.int .u8 (f.ix:Int)] w (abX f b w):=by
 obtain⟨i,hi⟩:∃i:Int,i=(f.ix:Int):=⟨_,rfl⟩
 rw[←hi]
 obtain⟨L,hL⟩:∃L,L=U1 f b:=⟨_,rfl⟩
 have HLL:=hid hL
 have H7:=hid (show L.length=7 from by rw[hL];rfl)
 have HCL:=hid (show L.toArray.all (·.oneCell')=true from by rw[hL];exact X3 ..)
 clear hL
 have hmf:=iF
 have HN:=hid (Blk.new w 90 aY.toArray)
 have HB:=hid ((Below.refl w.heap.size w).alloc (Nat.le_refl _) (.cells aY.toArray 90))
 have hsz:(w.alloc (.cells aY.toArray 90)).heap.size=w.heap.size+1:=World.size_alloc _ _
 have HK:=hid (X6 f hf b)
 have HCP:=hid (show∀w',yC w' f b from fun w'=>(by rcases hf with rfl|rfl|rfl<;>exact⟨(by intro h;cases h),(by intro h;cases h)⟩))
 rcases hf with rfl|rfl|rfl
 all_goals
  simp[Fld.ix]at hi
  subst hi
  go_enter Tryz.func88,Tryz.ntmps88
  go_upto_region 1 with(fail)
  change Code.wp _ _ _ _ (w.alloc (.cells aY.toArray 90))
  generalize w.alloc (.cells aY.toArray 90)=w1 at HN HB hsz⊢
  go_wp2_with fail
  refine(HK.out w1).mono ?_
  rintro e w2 ⟨rfl,hb,hc⟩
  have HC:=hid hc;clear hc
  have HN2:=hid (HN.out.below hb (by omega))
  have HB2:=hid (HB.out.trans (hb.mono (by omega)))
  have hs2:w.heap.size+1≤w2.heap.size:=by have:=hb.size;omega
  clear hb HN HB
  go_wp2_with(refine dA HN2.out 0 L _ (X4 H7.out) (by rw[H7.out];exact Nat.le_refl 7) HCL.out rfl _ _ _ rfl rfl (by rw[HLL.out];rfl) (by rw[H7.out];exact b_) ?_;intro w3 hs ho;have HX:=hid hs;have HO:=hid (ho (fun i=>i=w.heap.size) rfl w2 (Off.refl _ _));clear hs ho)
  have hend:=HB2.out.trans (HO.out.below (B:=w.heap.size) (fun i hi=>by omega) (by omega))
  exact bodyPost_ret (bg rfl H7.out rfl HX.out) rfl ⟨by rw[HLL.out],hend,HCP.out _⟩
theorem X5(f:Fld)(h:f.far=false)(b:Nat)(w:World):Calls Tryz.prog 88 #[.int .u8 (f.ix:Int)] w (abX f b w):=by
 cases f
 case aT=>exact P9 _ (.inl rfl) b w
 case mode=>exact P9 _ (.inr (.inl rfl)) b w
 case offset=>exact P9 _ (.inr (.inr (.inl rfl))) b w
 case data=>exact P9 _ (.inr (.inr (.inr (.inl rfl)))) b w
 case qid=>exact P9 _ (.inr (.inr (.inr (.inr rfl)))) b w
 case names=>exact X0 _ (.inl rfl) b w
 case aV=>exact X0 _ (.inr (.inl rfl)) b w
 case stat=>exact X0 _ (.inr (.inr rfl)) b w
 all_goals exact absurd h (by decide)
theorem yJ(f:Fld)(w:World):Calls Tryz.prog 44 #[.int .u8 (f.ix:Int)] w (abX f (w.heap.size+1) w):=by
 obtain⟨i,hi⟩:∃i:Int,i=(f.ix:Int):=⟨_,rfl⟩
 rw[←hi]
 obtain⟨L,hL⟩:∃L,L=U1 f (w.heap.size+1):=⟨_,rfl⟩
 have HLL:=hid hL
 have H7:=hid (show L.length=7 from by rw[hL];rfl)
 have HCL:=hid (show L.toArray.all (·.oneCell')=true from by rw[hL];exact X3 ..)
 clear hL
 have hmf:=iF
 have HN:=hid (Blk.new w 90 aY.toArray)
 have HB:=hid ((Below.refl w.heap.size w).alloc (Nat.le_refl _) (.cells aY.toArray 90))
 have hsz:(w.alloc (.cells aY.toArray 90)).heap.size=w.heap.size+1:=World.size_alloc _ _
 have HK:=hid (fun h=>X5 f h (w.heap.size+1))
 have HK1:=hid (fun h h'=>X7 f h h' (w.heap.size+1))
 have HK2:=hid (fun h=>X9 f h (w.heap.size+1))
 cases f
 all_goals
  simp[Fld.ix]at hi
  subst hi
  go_enter Tryz.func44,Tryz.ntmps44
  go_upto_region 1 with(fail)
  change Code.wp _ _ _ _ (w.alloc (.cells aY.toArray 90))
  generalize w.alloc (.cells aY.toArray 90)=w1 at HN HB hsz⊢
  go_wp2_with fail
  first
  |refine(HK.out rfl w1).mono ?_
  |refine(HK1.out rfl rfl w1 hsz).mono ?_
  |refine(HK2.out rfl w1 hsz).mono ?_
  rintro e w2 ⟨rfl,hb,hc⟩
  have HC:=hid hc;clear hc
  have HN2:=hid (HN.out.below hb (by omega))
  have HB2:=hid (HB.out.trans (hb.mono (by omega)))
  have hs2:w.heap.size+1≤w2.heap.size:=by have:=hb.size;omega
  clear hb HN HB
  go_wp2_with(refine dA HN2.out 0 L _ (X4 H7.out) (by rw[H7.out];exact Nat.le_refl 7) HCL.out rfl _ _ _ rfl rfl (by rw[HLL.out];rfl) (by rw[H7.out];exact b_) ?_;intro w3 hs ho;have HX:=hid hs;have HO:=hid (ho (fun i=>i=w.heap.size) rfl w2 (Off.refl _ _));clear hs ho)
  have hend:=HB2.out.trans (HO.out.below (B:=w.heap.size) (fun i hi=>by omega) (by omega))
  exact bodyPost_ret (bg rfl H7.out rfl HX.out) rfl ⟨by rw[HLL.out],hend,HC.out.of (fun _ _ h=>HO.out.blk h (by omega))⟩
end Go.Proofs.YtkblmloobkiloaaGreatDoor
