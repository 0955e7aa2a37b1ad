/-
  MBB MBC: what the laws of package msg need of them.
-/
import Derived.Test.YtkblmloobkiloaaGreatDoorK00
import Derived.Test.YtkblmloobkiloaaGreatDoorK22
namespace Go.Proofs.YtkblmloobkiloaaGreatDoor
open Go.Lib (hid)
open Go.RowKit
theorem yc(i:Nat)(hi:i<26)(w:World):Calls Tryz.prog 50 #[.int .i64 (i:Int)] w fun e w'=>e= .returned (.string (ofL [UInt8.ofNat (97+i),97]))∧Below w.heap.size w w':=by
 obtain⟨c,hc⟩:∃c,c=UInt8.ofNat (97+i):=⟨_,rfl⟩
 have hcn:(c.toNat:Int)=97+(i:Int):=by
  rw[hc,UInt8.toNat_ofNat']
  omega
 rw[←hc]
 have HUP:=hid (show Below w.heap.size w (al w (aX [c,97]) 5)from(Below.refl _ _).alloc (Nat.le_refl _) _)
 have hcv:(convert 22 9 (.slice (some ⟨w.heap.size,0,none⟩) 2 2)).run Tryz.prog (w.alloc (.cells #[.int .u8 (c.toNat:Int),.int .u8 97] 5))= .ok (.string (ofL [c,97])) (w.alloc (.cells #[.int .u8 (c.toNat:Int),.int .u8 97] 5)):=jH (show Bys (al w (aX [c,97]) 5) (w.heap.size+1) (.slice (some ⟨w.heap.size,0,none⟩) [c,97].length 2) [c,97]from⟨_,_,rfl,Nat.le_refl _,by decide,dI w 5 (aX [c,97]) 2 1 rfl⟩)
 have h1:Int.tmod (i:Int) 26=(i:Int):=by rw[Int.tmod_eq_emod_of_nonneg (by omega)];omega
 have h2:Int.tdiv (i:Int) 26=0:=by rw[Int.tdiv_eq_ediv_of_nonneg (by omega)];omega
 have h3:IntKind.u8.wrap (97+(i:Int))=(c.toNat:Int):=by rw[IntKind.wrap_u8];omega
 have h4:wrap64 (97+(i:Int))=97+(i:Int):=IntWalk.wrap64_in _ (by omega)
 clear hc hcn
 go_enter Tryz.func50,Tryz.ntmps50
 go_wp2_with fail
 exact bodyPost_ret (v:= .string (ofL [c,97])) (by simp[results,Tryz.results50]) rfl ⟨rfl,HUP.out⟩
abbrev WC(w:World)(base:Nat)(e:TypeId)(s:Nat)(v:Value)(xs:List Value):Prop:=∃n,w.ownsRow base e s v n xs
structure Fam(w:World)(base:Nat)(e:TypeId)(s:Nat)(vs:List Value)(C:Nat→List Value):Prop where
 own:∀(i:Nat) (v:Value),vs[i]? =some v→WC w base e s v (C i)
 apart:∀(i j:Nat) (u v:Value) (g:Nat),vs[i]? =some u→vs[j]? =some v→u.ownBlock=some g→v.ownBlock=some g→i=j
def upd(C:Nat→List Value)(i:Nat)(l:List Value):Nat→List Value:=fun j=>if j=i then l else C j
theorem kD(C:Nat→List Value)(i:Nat)(l:List Value):upd C i l i=l:=if_pos rfl
theorem upd_ne{C:Nat→List Value}{i j:Nat}{l:List Value}(h:j≠i):upd C i l j=C j:=if_neg h
section
variable {w w':World} {base s:Nat} {e:TypeId} {vs:List Value} {C:Nat→List Value}
theorem Fam.nil_(w:World)(base s:Nat)(e:TypeId)(C:Nat→List Value):Fam w base e s [] C:=⟨fun i v h=>by simp at h,fun i j u v g h=>by simp at h⟩
theorem Fam.off{S:Nat→Prop}(h:Fam w base e s vs C)(ho:Off S w w')(hn:∀i cur fr,S i→w.heap[i]? ≠some (Obj.cells cur e fr)):Fam w' base e s vs C:=
 ⟨fun i v hv=>by obtain⟨n,hr⟩:=h.own i v hv;exact⟨n,dL ho hr hn⟩,h.apart⟩
theorem Fam.new(h:Fam w base e s vs C)(hb:Below w.heap.size w w'):Fam w' base e s vs C:=⟨fun i v hv=>by obtain⟨n,hr⟩:=h.own i v hv;exact⟨n,aI hr hb⟩,h.apart⟩
theorem Fam.snoc{v:Value}{n:Nat}{xs:List Value}(h:Fam w base e s vs C)(hr:w.ownsRow base e s v n xs)(hv:∀(i:Nat) (u:Value) (g:Nat),vs[i]? =some u→u.ownBlock=some g→v.ownBlock≠some g):Fam w base e s (vs++[v]) (upd C vs.length xs):=by
 have hcase:∀i u,(vs++[v])[i]? =some u→vs[i]? =some u∧i≠vs.length∨i=vs.length∧u=v:=by
  intro i u hu
  rcases Nat.lt_or_ge i vs.length with hl|hl
  ·rw[List.getElem?_append_left hl]at hu
   exact .inl ⟨hu,by omega⟩
  ·rw[List.getElem?_append_right hl]at hu
   cases hd:i-vs.length with
   |zero=>rw[hd]at hu;exact .inr ⟨by omega,(Option.some.inj hu).symm⟩
   |succ q=>rw[hd]at hu;simp at hu
 refine⟨fun i u hu=> ?_,fun i j a c g ha hc h1 h2=> ?_⟩
 ·rcases hcase i u hu with⟨hu,hi⟩|⟨rfl,rfl⟩
  ·rw[upd_ne hi]
   exact h.own i u hu
  ·rw[kD]
   exact⟨n,hr⟩
 ·rcases hcase i a ha with⟨ha2, -⟩|⟨hi,hav⟩<;>rcases hcase j c hc with⟨hc2, -⟩|⟨hj,hcv⟩
  ·exact h.apart i j a c g ha2 hc2 h1 h2
  ·exact absurd (hcv▸h2) (hv i a g ha2 h1)
  ·exact absurd (hav▸h1) (hv j c g hc2 h2)
  ·rw[hi,hj]
theorem ql{v:Value}{n:Nat}{xs:List Value}(h:w.ownsRow base e s v n xs)(hp:0<xs.length):∃g cap cur,v= .slice (some ⟨g,0,none⟩) n cap∧base≤g∧w.heap[g]? =some (.cells cur e (0,0))∧n≤cap∧cap≤maxLen∧cur.size=cap*s∧cur.toList.take (n*s)=xs:=by
 rcases h.2 with⟨-,rfl⟩|h
 ·have:=h.1
  omega
 ·exact h
theorem H_{v:Value}{n g cap k:Nat}{cur:Array Value}{xs:List Value}{x:Value}(h:w.ownsRow base e s v n xs)(hv:v= .slice (some ⟨g,0,none⟩) n cap)(hg:w.heap[g]? =some (.cells cur e (0,0))):(w.setCell ⟨g,k,none⟩ x).ownsRow base e s v n (xs.set k x):=by
 subst hv
 refine⟨by rw[List.length_set];exact h.1, ?_⟩
 rcases h.2 with⟨hn, -⟩|⟨g',cap',cur',e1,hb,hg',hn,hm,hs,ht⟩
 ·cases hn
 ·injection e1 with e1 e2 e3
  injection e1 with e1
  injection e1 with e1 _
  subst e1 e3
  rw[hg]at hg'
  injection hg' with hg'
  injection hg' with hg' _
  subst hg'
  refine .inr ⟨g,cap,cur.setIfInBounds k x,rfl,hb,Blk.aW hg k x,hn,hm,by rw[Array.size_setIfInBounds];exact hs, ?_⟩
  rw[Array.toList_setIfInBounds,List.take_set,ht]
theorem Fam.set{i k:Nat}{v:Value}(h:Fam w base e s vs C)(hv:vs[i]? =some v)(hk:k<(C i).length):
  ∃ad n c,v= .slice (some ad) n c∧base≤ad.block∧(∃cur fr,w.heap[ad.block]? =some (.cells cur e fr))∧ad=⟨ad.block,0,none⟩∧w.cell? ⟨ad.block,k,none⟩=(C i)[k]? ∧w.frozen? ⟨ad.block,k,none⟩=false∧(C i).length=n*s∧∀x,Fam (w.setCell ⟨ad.block,k,none⟩ x) base e s vs (upd C i ((C i).set k x)):=by
 obtain⟨n,hr⟩:=h.own i v hv
 obtain⟨g,cap,cur,hvv,hb,hg,hn,hm,hs,ht⟩:=ql hr (by omega)
 refine⟨⟨g,0,none⟩,n,cap,hvv,hb,⟨cur,_,hg⟩,rfl, ?_,Blk.frozen hg k,hr.1,fun x=>⟨fun j u hu=> ?_,h.apart⟩⟩
 ·show w.cell? ⟨g,k,none⟩=_
  rw[Blk.cell hg,←ht,List.getElem?_take_of_lt (by rw[←hr.1];exact hk),Array.getElem?_toList]
 ·by_cases hj:j=i
  ·subst hj
   rw[kD]
   rw[hv]at hu
   obtain rfl:=Option.some.inj hu
   exact⟨n,H_ hr hvv hg⟩
  ·rw[upd_ne hj]
   obtain⟨n',hr'⟩:=h.own j u hu
   refine⟨n',jl hr' (fun hu'=>hj (h.apart j i u v g hu hv hu' (by rw[hvv];rfl))) (fD w g k x)⟩
theorem Fam.grow{i n' m H:Nat}{v l l':Value}{ys zs:List Value}(h:Fam w base e s vs C)(hv:vs[i]? =some v)(hl:w.ownsRow base e s l m ys)(hs:jh v l∨(∀g,l.ownBlock=some g→H≤g))
  (hH:∀(j:Nat) (u:Value) (g:Nat),vs[j]? =some u→u.ownBlock=some g→g<H) (hl':w'.ownsRow base e s l' n' (C i++zs)) (hg:w.grownBy w' l.ownBlock) (hc:jh l l'∨Below w.heap.size w w'):Fam w' base e s vs C:=by
 rcases hc with hc|hc
 ·obtain⟨g,k1,k2,cap,rfl,rfl⟩:=hc
  refine⟨fun j u hu=> ?_,h.apart⟩
  obtain⟨n,hr⟩:=h.own j u hu
  by_cases hj:u.ownBlock=some g
  ·rcases hs with⟨g',k3,k4,cap',hv',hll⟩|hs
   ·injection hll with e1 e2 e3
    injection e1 with e1
    injection e1 with e1 _
    subst e1 e3
    obtain rfl:=h.apart j i u v g hu hv hj (by rw[hv'];rfl)
    rw[hv]at hu
    obtain rfl:=Option.some.inj hu
    refine⟨n,hr.1, ?_⟩
    rcases hr.2 with⟨rfl, -⟩|⟨g2,cap2,WE,hu2,hb2,hg2,hn2,hm2,hs2,ht2⟩
    ·cases hv'
    ·rw[hv']at hu2
     injection hu2 with e1 e2 e3
     injection e1 with e1
     injection e1 with e1 _
     subst e1 e2 e3
     rcases hl'.2 with⟨hb, -⟩|⟨g3,cap3,WG,hu3,hb3,hg3,hn3,hm3,hs3,ht3⟩
     ·cases hb
     ·injection hu3 with e1 e2 e3
      injection e1 with e1
      injection e1 with e1 _
      subst e1 e2 e3
      refine .inr ⟨g,cap,WG,hv',hb3,hg3,hn2,hm3,hs3, ?_⟩
      have hlen:=hr.1
      have hlen':=hl'.1
      rw[List.length_append]at hlen'
      have ht:=congrArg (List.take (C j).length) ht3
      rw[List.take_take,Nat.min_eq_left (by omega),List.take_append_of_le_length (Nat.le_refl _),List.take_length,hlen]at ht
      exact ht
   ·have h1:=hs g rfl
    have h2:=hH j u g hu hj
    omega
  ·refine⟨n,hr.kept hg ?_⟩
   by_cases hun:u.ownBlock=none
   ·exact .inl hun
   ·exact .inr hj
 ·exact h.new hc
end
theorem Ia{t:IntKind}{n:Int}:∀u∈([.int t n]:List Value),u.oneCell'=true:=by
 intro u hu
 rw[List.mem_singleton]at hu
 subst hu
 rfl
theorem Rw{A:Option Addr}{n c:Nat}:∀u∈([.slice A n c]:List Value),u.oneCell'=true:=by
 intro u hu
 rw[List.mem_singleton]at hu
 subst hu
 rfl
theorem O7{x:ByteArray}:∀u∈([.string x]:List Value),u.oneCell'=true:=by
 intro u hu
 rw[List.mem_singleton]at hu
 subst hu
 rfl
theorem Uu{a b c:Int}:∀u∈([.int .u8 a,.int .u32 b,.int .u64 c]:List Value),u.oneCell'=true:=by
 intro u hu
 simp only[List.mem_cons,List.not_mem_nil,or_false]at hu
 rcases hu with rfl|rfl|rfl<;>rfl
theorem noE{w:World}{g:Nat}{e e':TypeId}(h:∃cur fr,w.heap[g]? =some (Obj.cells cur e fr))(he:e'≠e):∀cur fr,w.heap[g]? ≠some (Obj.cells cur e' fr):=by
 intro cur fr h'
 obtain⟨c,f,h⟩:=h
 rw[h]at h'
 injection h' with h'
 injection h' with _ h' _
 exact he h'.symm
theorem jr{w:World}{base s:Nat}{e:TypeId}{A:Option Addr}{n c:Nat}{xs:List Value}{i:Nat}{v:Value}(h:w.ownsRow base e s (.slice A n c) n xs)(hv:xs[i]? =some v):∃ad,A=some ad∧w.cell? (ad.add i)=some v:=by
 obtain⟨g,cap,cur,hvv,hb,hg,hn,hm,hs,ht⟩:=ql h (by have:=(List.getElem?_eq_some_iff.1 hv).1;omega)
 injection hvv with e1 e2 e3
 subst e1
 exact⟨_,rfl,h.cells (g:=g) rfl i v hv⟩
theorem jv{k m:Nat}(h:k<m)(hw:wrap64 ((k:Int)+1)=(k:Int)+1):m-(intOf (.int .i64 (wrap64 ((k:Int)+1)))).toNat<m-(intOf (.int .i64 (k:Int))).toNat:=by
 rw[hw]
 show m-((k:Int)+1).toNat<m-(k:Int).toNat
 omega
theorem jw{k m:Nat}(h:k<m):m-(intOf (.int .i64 ((k:Int)+1))).toNat<m-(intOf (.int .i64 (k:Int))).toNat:=by
 show m-((k:Int)+1).toNat<m-(k:Int).toNat
 omega
def FK(L:List Value)(i:Nat):Prop:=∃v,v∈L∧v.ownBlock=some i
theorem adE{Y N Q:List Value}{i:Nat}{v:Value}(h:Y[i]? =some v):v∈Y++N++Q:=List.mem_append_left _ (List.mem_append_left _ (List.mem_of_getElem? h))
theorem ad6{Y N Q:List Value}{i:Nat}{v:Value}(h:N[i]? =some v):v∈Y++N++Q:=List.mem_append_left _ (List.mem_append_right _ (List.mem_of_getElem? h))
theorem ad7{Y N Q:List Value}{i:Nat}{v:Value}(h:Q[i]? =some v):v∈Y++N++Q:=List.mem_append_right _ (List.mem_of_getElem? h)
theorem Off.next{F S:Nat→Prop}{a b c:World}(h:Off F a b)(k:Off S b c)(hs:∀i,i<a.heap.size→S i→F i):Off F a c:=
 ⟨k.os.trans h.os,k.tape.trans h.tape,k.output.trans h.output,Nat.le_trans h.size k.size,fun i hi hn=>(k.block i (Nat.lt_of_lt_of_le hi h.size) fun hh=>hn (hs i hi hh)).trans (h.block i hi hn)⟩
theorem Off.new{F:Nat→Prop}{a b c:World}(h:Off F a b)(k:Below b.heap.size b c):Off F a c:=h.trans (Off.of_below k)
structure BK(w0 w:World)(b base:Nat)(vy vn vq:Value)(Y N Q:List Value):Prop where
 k:Blk w b 29 #[vy,vn,vq]
 y:w.ownsRow base 22 1 vy Y.length Y
 n:w.ownsRow base 33 1 vn N.length N
 q:w.ownsRow base 34 1 vq Q.length Q
 up:Below base w0 w∧Off (FK (Y++N++Q)) w0 w
 bb:base≤b
section
variable {w0 w w':World} {b base:Nat} {vy vn vq:Value} {Y N Q:List Value}
theorem BK.size(h:BK w0 w b base vy vn vq Y N Q):base≤w.heap.size:=by have h1:=Blk.lt h.k;have h2:=h.bb;omega
theorem BK.off{S:Nat→Prop}(h:BK w0 w b base vy vn vq Y N Q)(ho:Off S w w')(hS:∀i,S i→base≤i)(hF:∀i,i<w0.heap.size→S i→FK (Y++N++Q) i)(hn:∀i cur fr e,S i→(e=29∨e=22∨e=33∨e=34)→w.heap[i]? ≠some (Obj.cells cur e fr)):BK w0 w' b base vy vn vq Y N Q:=
 ⟨ho.blk h.k (fun hs=>hn b _ _ _ hs (.inl rfl) h.k),dL ho h.y fun i cur fr hi=>hn i cur fr _ hi (.inr (.inl rfl)),dL ho h.n fun i cur fr hi=>hn i cur fr _ hi (.inr (.inr (.inl rfl))),dL ho h.q fun i cur fr hi=>hn i cur fr _ hi (.inr (.inr (.inr rfl))),⟨h.up.1.trans (ho.below hS h.size),h.up.2.next ho hF⟩,h.bb⟩
theorem BK.new(h:BK w0 w b base vy vn vq Y N Q)(hb:Below w.heap.size w w'):BK w0 w' b base vy vn vq Y N Q:=
 ⟨Blk.below h.k hb (Blk.lt h.k),aI h.y hb,aI h.n hb,aI h.q hb,⟨h.up.1.trans (hb.mono h.size),h.up.2.new hb⟩,h.bb⟩
theorem BK.cell{e:TypeId}{ad:Addr}(h:BK w0 w b base vy vn vq Y N Q)(hg:∃cur fr,w.heap[ad.block]? =some (Obj.cells cur e fr))(he:e=5∨e=9∨e=37)(hb:base≤ad.block∧FK (Y++N++Q) ad.block)(k:Nat)(x:Value):BK w0 (w.setCell (ad.add k) x) b base vy vn vq Y N Q:=
 h.off ((Off.refl (fun i=>i=ad.block) w).setCell (p:=ad.add k) (qg ad k) x) (fun i hi=>by have hi:i=ad.block:=hi;rw[hi];exact hb.1) (fun i _ hi=>by have hi:i=ad.block:=hi;rw[hi];exact hb.2) (fun i cur fr e' hi he'=>by
  have hi:i=ad.block:=hi
  subst hi
  refine noE hg ?_ cur fr
  rcases he with rfl|rfl|rfl<;>rcases he' with rfl|rfl|rfl|rfl<;>decide)
theorem BK.BM{e:TypeId}{g:Nat}(h:BK w0 w b base vy vn vq Y N Q)(ho:Off (fun i=>i=g) w w')(hg:∃cur fr,w.heap[g]? =some (Obj.cells cur e fr))(he:e=5∨e=9∨e=37)(hb:base≤g∧FK (Y++N++Q) g):BK w0 w' b base vy vn vq Y N Q:=
 h.off ho (fun i hi=>by have hi:i=g:=hi;rw[hi];exact hb.1) (fun i _ hi=>by have hi:i=g:=hi;rw[hi];exact hb.2) (fun i cur fr e' hi he'=>by
  have hi:i=g:=hi
  subst hi
  refine noE hg ?_ cur fr
  rcases he with rfl|rfl|rfl<;>rcases he' with rfl|rfl|rfl|rfl<;>decide)
theorem Fam.BM{e e':TypeId}{g s:Nat}{vs:List Value}{C:Nat→List Value}(h:Fam w base e s vs C)(ho:Off (fun i=>i=g) w w')(hg:∃cur fr,w.heap[g]? =some (Obj.cells cur e' fr))(he:e≠e'):Fam w' base e s vs C:=
 h.off ho (fun i cur fr hi=>by have hi:i=g:=hi;subst hi;exact noE hg he cur fr)
theorem BK.grow{e:TypeId}{s n bb:Nat}{v:Value}{xs:List Value}(h:BK w0 w b base vy vn vq Y N Q)(hr:w.ownsRow bb e s v n xs)(he:e=5∨e=9∨e=37)(hb:base≤bb)(hF:∀i,i<w0.heap.size→v.ownBlock=some i→FK (Y++N++Q) i)(hg:w.grownBy w' v.ownBlock):BK w0 w' b base vy vn vq Y N Q:=
 h.off ((Off.refl (fun i=>v.ownBlock=some i) w).grown hg (fun g hg=>hg)) (fun i hi=>Nat.le_trans hb (dH hr i hi)) hF (fun i cur fr e' hi he'=>bZ hr (by rcases he with rfl|rfl|rfl<;>rcases he' with rfl|rfl|rfl|rfl<;>decide) i cur fr hi)
theorem Fam.Ib{e e':TypeId}{s:Nat}{vs:List Value}{C:Nat→List Value}{ad:Addr}(h:Fam w base e s vs C)(hg:∃cur fr,w.heap[ad.block]? =some (Obj.cells cur e' fr))(he:e≠e')(k:Nat)(x:Value):Fam (w.setCell (ad.add k) x) base e s vs C:=
 h.off ((Off.refl (fun i=>i=ad.block) w).setCell (p:=ad.add k) (qg ad k) x) (fun i cur fr hi=>by have hi:i=ad.block:=hi;subst hi;exact noE hg he cur fr)
theorem Fam.at_{e:TypeId}{s:Nat}{vs:List Value}{C:Nat→List Value}{i k:Nat}{v:Value}(h:Fam w base e s vs C)(hv:vs[i]? =some v)(hk:k<(C i).length):
  ∃ad n c,v= .slice (some ad) n c∧(base≤ad.block∧∀L,v∈L→FK L ad.block)∧(∃cur fr,w.heap[ad.block]? =some (Obj.cells cur e fr))∧(C i).length=n*s∧(∀k' x,(C i)[k']? =some x→w.cell? (ad.add k')=some x)∧(∀k',w.frozen? (ad.add k')=false)∧∀x,Fam (w.setCell (ad.add k) x) base e s vs (upd C i ((C i).set k x)):=by
 obtain⟨ad,n,c,rfl,hb,hg,had, -, -,hl,hs⟩:=h.set hv hk
 obtain⟨n',hr⟩:=h.own i _ hv
 have ha:∀k',ad.add k'=⟨ad.block,k',none⟩:=fun k'=>by rw[had,Addr.add_mid,Nat.zero_add]
 refine⟨ad,n,c,rfl,⟨hb,fun L hL=>⟨_,hL,by rw[had];rfl⟩⟩,hg,hl,fun k' x hx=> ?_,fun k'=> ?_,fun x=> ?_⟩
 ·have hx':=hr.cells (g:=ad.block) rfl k' x hx
  rw[Addr.add_mid,Nat.zero_add]at hx'
  rw[ha]
  exact hx'
 ·rw[ha]
  obtain⟨cur,fr,hg⟩:=hg
  obtain⟨g2,cap2,WE,hv2, -,hg2, -⟩:=ql hr (by omega)
  injection hv2 with e1
  injection e1 with e1
  rw[e1]
  exact Blk.frozen hg2 k'
 ·rw[ha]
  exact hs x
end
theorem Fam.at3{w:World}{base:Nat}{e:TypeId}{vs:List Value}{C:Nat→List Value}{i k:Nat}{v:Value}(h:Fam w base e 3 vs C)(hv:vs[i]? =some v)(hk:k*3+2<(C i).length):
  ∃ad n c,v= .slice (some ad) n c∧(base≤ad.block∧∀L,v∈L→FK L ad.block)∧ad.add (k*3)=⟨ad.block,k*3,none⟩∧(∃cur fr,w.heap[ad.block]? =some (Obj.cells cur e fr))∧(C i).length=n*3∧w.there ad.block (k*3) 3∧(∀x,(C i)[k*3+2]? =some x→w.cell? ⟨ad.block,k*3+2,none⟩=some x)∧
   ∀x y z,Fam (w.setCells ad.block (k*3) [x,y,z]) base e 3 vs (upd C i ((((C i).set (k*3) x).set (k*3+1) y).set (k*3+2) z)):=by
 obtain⟨ad,n,c,rfl,hb,hg,had, -, -,hl, -⟩:=h.set hv (k:=k*3) (by omega)
 obtain⟨ad',n',c',ev, -, -, -,hc,hf,hs⟩:=h.at_ hv (k:=k*3) (by omega)
 injection ev with ev
 injection ev with ev
 subst ev
 have ha:∀q,ad.add q=⟨ad.block,q,none⟩:=fun q=>by rw[had,Addr.add_mid,Nat.zero_add]
 refine⟨ad,n,c,rfl,⟨hb,fun L hL=>⟨_,hL,by rw[had];rfl⟩⟩,ha _,hg,hl,fun q hq=> ?_,fun x hx=>by rw[←ha];exact hc _ _ hx,fun x y z=> ?_⟩
 ·rw[←ha]
  obtain⟨u,hu⟩:∃u,(C i)[k*3+q]? =some u:=⟨_,List.getElem?_eq_getElem (by omega)⟩
  exact⟨by rw[hc _ u hu];rfl,hf _⟩
 ·have f1:=hs x
  obtain⟨ad1,n1,c1,ev, -, -, -, -, -,s1⟩:=f1.at_ hv (k:=k*3+1) (by rw[kD,List.length_set];omega)
  injection ev with ev
  injection ev with ev
  subst ev
  have f2:=s1 y
  obtain⟨ad2,n2,c2,ev, -, -, -, -, -,s2⟩:=f2.at_ hv (k:=k*3+2) (by rw[kD,kD,List.length_set,List.length_set];omega)
  injection ev with ev
  injection ev with ev
  subst ev
  have f3:=s2 z
  rw[kD,kD,ha,ha,ha]at f3
  have eu:∀(D:Nat→List Value) (a b:List Value),upd (upd D i a) i b=upd D i b:=fun D a b=>by
   funext j
   by_cases hj:j=i
   ·subst hj;rw[kD,kD]
   ·rw[upd_ne hj,upd_ne hj,upd_ne hj]
  rw[eu,eu]at f3
  exact f3
theorem WH{w:World}{g o:Nat}{ops:Array Oper}{rest:List Oper}{op:Oper}{a:Act}{Q:Exit→Act→World→Prop}{p:Addr}{v0 v1 v2:Value}(hp:p=⟨g,o,none⟩)(ht:w.there g o 3)(hgd:op.guard=none)(x y:Operand)(ho:op.op= .store 37 x y)(hx:a.eval x= .pointer (some p))(hy:a.eval y= .agg #[v0,v1,v2])(h1: #[v0,v1,v2].all (·.oneCell')=true)
  (h:wpList Tryz.prog ops Q rest (a.put op.dst undef) (w.setCells g o [v0,v1,v2])):wpList Tryz.prog ops Q (op::rest) a w:=by
 subst hp
 exact wpList_store_mid hgd _ x y ho g o _ hx hy ht tH h1 h
theorem WI(a b c:Int):(#[.int .u8 a,.int .u32 b,.int .u64 c]:Array Value).all (·.oneCell')=true:=by simp[Value.oneCell']
theorem yS(w:World)(g o:Nat)(x y z:Value):Off (fun i=>i=g) w (w.setCells g o [x,y,z]):=og (S:=fun i=>i=g) (Off.refl _ w) rfl _ o
theorem jh.trans{a b c:Value}(h:jh a b)(k:jh b c):jh a c:=by
 obtain⟨g,n,m,cap,rfl,rfl⟩:=h
 obtain⟨g',n',m',cap',e,rfl⟩:=k
 injection e with e1 e2 e3
 injection e1 with e1
 injection e1 with e1
 subst e1 e3
 exact⟨g,n,m',cap,rfl,rfl⟩
theorem jh.block{a b:Value}(h:jh a b):b.ownBlock=a.ownBlock:=by
 obtain⟨g,n,m,cap,rfl,rfl⟩:=h
 rfl
def r_(y l:Value)(H:Nat):Prop:=jh y l∨∀g,l.ownBlock=some g→H≤g
theorem r_.next{y l l':Value}{H:Nat}{w w':World}(h:r_ y l H)(hH:H≤w.heap.size)(hc:jh l l'∨(l'.ownBlock=some w.heap.size∧Below w.heap.size w w')):r_ y l' H:=by
 rcases hc with hc|⟨hc, -⟩
 ·rcases h with h|h
  ·exact .inl (h.trans hc)
  ·exact .inr fun g hg=>h g (by rw[←hc.block];exact hg)
 ·exact .inr fun g hg=>by rw[hc]at hg;injection hg with hg;omega
def lH(w:World)(base H:Nat)(Y M:List Value)(C X:Nat→List Value):Prop:=∀(q:Nat) (u y:Value),M[q]? =some u→Y[q]? =some y→(∃n,w.ownsRow base 5 1 u n (C q++X q))∧r_ y u H
theorem lH.new{w w':World}{base H:Nat}{Y M:List Value}{C X:Nat→List Value}(h:lH w base H Y M C X)(hb:Below w.heap.size w w'):lH w' base H Y M C X:=fun q u y hu hy=>by
 obtain⟨⟨n,hr⟩,hw⟩:=h q u y hu hy
 exact⟨⟨n,aI hr hb⟩,hw⟩
theorem lH.off{S:Nat→Prop}{w w':World}{base H:Nat}{Y M:List Value}{C X:Nat→List Value}(h:lH w base H Y M C X)(ho:Off S w w')(hn:∀i cur fr,S i→w.heap[i]? ≠some (Obj.cells cur 5 fr)):lH w' base H Y M C X:=fun q u y hu hy=>by
 obtain⟨⟨n,hr⟩,hw⟩:=h q u y hu hy
 exact⟨⟨n,dL ho hr hn⟩,hw⟩
theorem lH.grow{w w':World}{base H H1 i:Nat}{Y M:List Value}{C X:Nat→List Value}{y l:Value}(h:lH w base H Y M C X)(hy:Y[i]? =some y)(hi:M.length≤i)(hap:∀(i j:Nat) (u v:Value) (g:Nat),Y[i]? =some u→Y[j]? =some v→u.ownBlock=some g→v.ownBlock=some g→i=j)
  (hYH:∀(j:Nat) (u:Value) (g:Nat),Y[j]? =some u→u.ownBlock=some g→g<H) (hMH:∀(j:Nat) (u:Value) (g:Nat),M[j]? =some u→u.ownBlock=some g→g<H1) (hl:r_ y l H1) (hg:w.grownBy w' l.ownBlock):lH w' base H Y M C X:=fun q u z hu hz=>by
 obtain⟨⟨n,hr⟩,hw⟩:=h q u z hu hz
 refine⟨⟨n,hr.kept hg ?_⟩,hw⟩
 cases hub:u.ownBlock with
 |none=>exact .inl rfl
 |some g=>
  refine .inr fun hlg=> ?_
  have hq:=(List.getElem?_eq_some_iff.1 hu).1
  have hlg:l.ownBlock=some g:=hlg.symm
  rcases hl with hl|hl
  ·rw[hl.block]at hlg
   rcases hw with hw|hw
   ·rw[hw.block]at hub
    have:=hap q i z y g hz hy hub hlg
    omega
   ·have h1:=hw g hub
    have h2:=hYH i y g hy hlg
    omega
  ·have h1:=hl g hlg
   have h2:=hMH q u g hu hub
   omega
theorem r_.mono{y l:Value}{H H':Nat}(h:r_ y l H)(hH:H'≤H):r_ y l H':=h.imp id fun h g hg=>Nat.le_trans hH (h g hg)
theorem ac3{L:List Value}{y l:Value}{H s:Nat}(hm:y∈L)(h:r_ y l H)(hs:s≤H):∀i,i<s→l.ownBlock=some i→FK L i:=fun i hi hl=>by
 rcases h with h|h
 ·exact⟨y,hm,h.block.symm.trans hl⟩
 ·have:=h i hl
  omega
theorem lH.snoc{w:World}{base H n:Nat}{Y M:List Value}{C X:Nat→List Value}{l:Value}(h:lH w base H Y M C X)(hr:w.ownsRow base 5 1 l n (C M.length++X M.length))(hw:∀y,Y[M.length]? =some y→r_ y l H):lH w base H Y (M++[l]) C X:=fun q u y hu hy=>by
 rcases Nat.lt_or_ge q M.length with hl|hl
 ·rw[List.getElem?_append_left hl]at hu
  exact h q u y hu hy
 ·rw[List.getElem?_append_right hl]at hu
  cases hd:q-M.length with
  |zero=>
   rw[hd]at hu
   obtain rfl:=Option.some.inj hu
   obtain rfl:q=M.length:=by omega
   exact⟨⟨n,hr⟩,hw y hy⟩
  |succ j=>rw[hd]at hu;simp at hu
theorem BK.far{w0 w w':World}{b base H:Nat}{vy vn vq:Value}{Y N Q:List Value}{S:Nat→Prop}(h:BK w0 w b base vy vn vq Y N Q)(ho:Off S w w')(hS:∀i,S i→H≤i)(hb:b<H)(hB:base≤H∧w0.heap.size≤H)(hr:∀(v:Value) (g:Nat),v=vy∨v=vn∨v=vq→v.ownBlock=some g→g<H):BK w0 w' b base vy vn vq Y N Q:=
 ⟨ho.blk h.k (fun hs=>by have:=hS _ hs;omega),ho.own h.y (fun k hk hs=>by have h1:=hS _ hs;have h2:=hr _ k (.inl rfl) hk;omega),ho.own h.n (fun k hk hs=>by have h1:=hS _ hs;have h2:=hr _ k (.inr (.inl rfl)) hk;omega),ho.own h.q (fun k hk hs=>by have h1:=hS _ hs;have h2:=hr _ k (.inr (.inr rfl)) hk;omega),⟨h.up.1.trans (ho.below (fun i hi=>Nat.le_trans hB.1 (hS i hi)) h.size),h.up.2.next ho fun i hi hs=>absurd (Nat.lt_of_lt_of_le hi (Nat.le_trans hB.2 (hS i hs))) (Nat.lt_irrefl _)⟩,h.bb⟩
theorem zW{w:World}{base s n:Nat}{e:TypeId}{A:Option Addr}{m c:Nat}{xs:List Value}(h:w.ownsRow base e s (.slice A m c) n xs)(H:Nat):r_ (.slice A m c) (.slice A m c) H:=by
 rcases h.2 with⟨e, -⟩|⟨g,cap,cur,e, -⟩
 ·rw[e];exact .inr fun g hg=>by cases hg
 ·rw[e];exact .inl ⟨g,_,_,cap,rfl,rfl⟩
structure P4(w0 w:World)(b base h0 h1:Nat)(vy vn vq vm yn yq:Value)(Y N Q M:List Value)(C0 C D X:Nat→List Value)(i n m:Nat)(l q:Value)(zs xs:List Value):Prop where
 k:BK w0 w b base vy vn vq Y N Q
 f:Fam w base 5 1 Y C0∧Fam w base 9 1 N C∧Fam w base 37 3 Q D
 r:w.ownsRow h0 22 1 vm Y.length M∧lH w base h0 Y M C0 X
 ol:w.ownsRow base 9 1 l n (C i++zs)
 oq:w.ownsRow base 37 3 q m (D i++xs)
 wl:r_ yn l h1
 wq:r_ yq q h1
 sz:h1≤w.heap.size
section
variable {w0 w w':World} {b base h0 h1:Nat} {vy vn vq vm yn yq:Value} {Y N Q M:List Value} {C0 C D X:Nat→List Value} {i n m:Nat} {l q l' q':Value} {zs xs us:List Value}
theorem P4.new(h:P4 w0 w b base h0 h1 vy vn vq vm yn yq Y N Q M C0 C D X i n m l q zs xs)(hb:Below w.heap.size w w'):P4 w0 w' b base h0 h1 vy vn vq vm yn yq Y N Q M C0 C D X i n m l q zs xs:=
 ⟨h.k.new hb,⟨h.f.1.new hb,h.f.2.1.new hb,h.f.2.2.new hb⟩,⟨aI h.r.1 hb,h.r.2.new hb⟩,aI h.ol hb,aI h.oq hb,h.wl,h.wq,Nat.le_trans h.sz hb.size⟩
theorem P4.Uw(h:P4 w0 w b base h0 h1 vy vn vq vm yn yq Y N Q M C0 C D X i n m l q zs xs)(hv:N[i]? =some yn)(hH:∀(j:Nat) (u:Value) (g:Nat),N[j]? =some u→u.ownBlock=some g→g<h0)(hh:h0≤h1∧w0.heap.size≤h1)(hown:w'.ownsRow base 9 1 l' (n+1) (C i++zs++us))(hg:w.grownBy w' l.ownBlock)(hc:jh l l'∨(l'.ownBlock=some w.heap.size∧Below w.heap.size w w')):P4 w0 w' b base h0 h1 vy vn vq vm yn yq Y N Q M C0 C D X i (n+1) m l' q (zs++us) xs:=by
 have ho:=(Off.refl (fun k=>l.ownBlock=some k) w).grown hg (fun g hg=>hg)
 rw[List.append_assoc]at hown
 exact⟨h.k.grow h.ol (.inr (.inl rfl)) (Nat.le_refl _) (ac3 (ad6 hv) h.wl hh.2) hg,⟨h.f.1.off ho (bZ h.ol (by decide)),h.f.2.1.grow hv h.ol h.wl (fun j u g hu hg=>Nat.lt_of_lt_of_le (hH j u g hu hg) hh.1) hown hg (hc.imp id And.right),h.f.2.2.off ho (bZ h.ol (by decide))⟩,⟨h.r.1.kept hg (fC h.r.1 h.ol (by decide)),h.r.2.off ho (bZ h.ol (by decide))⟩,hown,h.oq.kept hg (fC h.oq h.ol (by decide)),h.wl.next h.sz hc,h.wq,Nat.le_trans h.sz ho.size⟩
theorem P4.Ux(h:P4 w0 w b base h0 h1 vy vn vq vm yn yq Y N Q M C0 C D X i n m l q zs xs)(hv:Q[i]? =some yq)(hH:∀(j:Nat) (u:Value) (g:Nat),Q[j]? =some u→u.ownBlock=some g→g<h0)(hh:h0≤h1∧w0.heap.size≤h1)(hown:w'.ownsRow base 37 3 q' (m+1) (D i++xs++us))(hg:w.grownBy w' q.ownBlock)(hc:jh q q'∨(q'.ownBlock=some w.heap.size∧Below w.heap.size w w')):P4 w0 w' b base h0 h1 vy vn vq vm yn yq Y N Q M C0 C D X i n (m+1) l q' zs (xs++us):=by
 have ho:=(Off.refl (fun k=>q.ownBlock=some k) w).grown hg (fun g hg=>hg)
 rw[List.append_assoc]at hown
 exact⟨h.k.grow h.oq (.inr (.inr rfl)) (Nat.le_refl _) (ac3 (ad7 hv) h.wq hh.2) hg,⟨h.f.1.off ho (bZ h.oq (by decide)),h.f.2.1.off ho (bZ h.oq (by decide)),h.f.2.2.grow hv h.oq h.wq (fun j u g hu hg=>Nat.lt_of_lt_of_le (hH j u g hu hg) hh.1) hown hg (hc.imp id And.right)⟩,⟨h.r.1.kept hg (fC h.r.1 h.oq (by decide)),h.r.2.off ho (bZ h.oq (by decide))⟩,h.ol.kept hg (fC h.ol h.oq (by decide)),hown,h.wl,h.wq.next h.sz hc,Nat.le_trans h.sz ho.size⟩
end
section
variable {w:World} {ops:Array Oper} {rest:List Oper} {o:Oper} {a:Act} {Q:Exit→Act→World→Prop}
theorem yg(tr te:TypeId)(zc:Value)(s by_:Nat)(hby:by_≤24)(hs0:0<s)(hz:zc.cells.size=s)(hu:Tryz.prog.underlying tr=some (.slice te))(hin:(Tryz.prog.info? te).map (fun i=>(i.zero,i.size,i.bytes))=some (some zc,s,by_))(x y:Operand)(hgd:o.guard=none)
  (ho:o.op= .call {callee:= .builtin .append,args:= #[x,y],argTypes:= #[tr,tr]})
  (base:Nat) (v:Value) (n:Nat) (xs:List Value) (hs:a.eval x=v) (hown:w.ownsRow base te s v n xs)
  (b c:Nat) (us:List Value) (hx:a.eval y= .slice (some ⟨b,0,none⟩) 1 c) (hr:Blk w b te us.toArray) (hl:us.length=s) (h1:∀u∈us,u.oneCell'=true) (hlen:n≤20000000) (hbase:base≤w.heap.size)
  (h:∀v' w',w'.ownsRow base te s v' (n+1) (xs++us)→w.grownBy w' v.ownBlock→(jh v v'∨(v'.ownBlock=some w.heap.size∧Below w.heap.size w w'))→wpList Tryz.prog ops Q rest (a.put o.dst v') w'):wpList Tryz.prog ops Q (o::rest) a w:=by
 obtain⟨i0,hi0,hz0,hz1,hz2⟩:=info_parts hin
 refine wpList_plain hgd fun K hK=>oN x y tr ho base te i0 zc s by_ hu hi0 hz0 hz1 hz2 hz hs0 v n xs hs hown b c us hx hl (fun j=>by rw[hr.cell j];simp) h1 (by unfold maxLen;omega) ?_ hbase (fun v' w' g1 g2 g3=>hK _ _ (h v' w' g1 g2 g3))
 have:(n+1)*by_≤20000001*24:=Nat.mul_le_mul (by omega) hby
 omega
end
def BN(l:List Value)(x:Value):Prop:=∀(q:Nat) (y:Value),l[q]? =some y→y=x
theorem Ic{l:List Value}{x:Value}{k:Nat}(hk:l.length≤k)(h:∀q,q<k→q<l.length→l[q]? =some x):BN l x:=fun q y hy=>by
 have hq:=(List.getElem?_eq_some_iff.1 hy).1
 rw[h q (by omega) hq]at hy
 exact(Option.some.inj hy).symm
theorem O8{l:List Value}{k m:Nat}{x y z:Value}(hl:l.length=m*3)(hk:k<m)(h:∀q,q<k→l[q*3+2]? =some z):∀q,q<k+1→(((l.set (k*3) x).set (k*3+1) y).set (k*3+2) z)[q*3+2]? =some z:=fun q hq=>by
 by_cases hqk:q=k
 ·subst hqk
  rw[List.getElem?_set_self (by rw[List.length_set,List.length_set];omega)]
 ·rw[List.getElem?_set_ne (by omega),List.getElem?_set_ne (by omega),List.getElem?_set_ne (by omega)]
  exact h q (by omega)
def Ie(l:List Value)(x:Value):Prop:=∀(q:Nat) (y:Value),l[q*3+2]? =some y→y=x
theorem O9{l:List Value}{m:Nat}{z:Value}(hl:l.length=m*3)(h:∀q,q<m→l[q*3+2]? =some z):Ie l z:=fun q y hy=>by
 have hq:=(List.getElem?_eq_some_iff.1 hy).1
 rw[h q (by omega)]at hy
 exact(Option.some.inj hy).symm
end Go.Proofs.YtkblmloobkiloaaGreatDoor
