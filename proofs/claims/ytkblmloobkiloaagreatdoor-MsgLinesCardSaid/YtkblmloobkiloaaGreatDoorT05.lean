/-
  MV MT1 MT2 M2: what the laws of package msg need of them.
-/
import Derived.Test.YtkblmloobkiloaaGreatDoorT00
import Derived.Test.YtkblmloobkiloaaGreatDoorT04
import Derived.Test.YtkblmloobkiloaaGreatDoorT03
import Derived.Test.YtkblmloobkiloaaGreatDoorT01
import Derived.Lib.LaidTab
import Derived.Lib.ItoaMem
import Derived.Shelf.Strings.BuilderK
import Derived.Lib.RuneBytes
set_option maxRecDepth 100000
set_option maxHeartbeats 4000000
namespace Go.Proofs.YtkblmloobkiloaaGreatDoor
open Go.Lib (hid)
open Go.RowKit
theorem Ready.low{w w':World}{B:Nat}(h:Ready w)(hb:Below B w w')(hB:8≤B):Ready w':=by
 obtain⟨⟨h1,h2⟩,m,h3⟩:=h
 exact⟨⟨fun c hc=>(hb.cell (p:=⟨3,c,none⟩) (Nat.lt_of_lt_of_le (show 3<8 by decide) hB)).trans (h1 c hc),fun i hi=>⟨(hb.cell (p:=⟨4,2*i,none⟩) (Nat.lt_of_lt_of_le (show 4<8 by decide) hB)).trans (h2 i hi).1,(hb.cell (p:=⟨4,2*i+1,none⟩) (Nat.lt_of_lt_of_le (show 4<8 by decide) hB)).trans (h2 i hi).2⟩⟩,
  m,(hb.cell (p:=⟨7,0,none⟩) (Nat.lt_of_lt_of_le (show 7<8 by decide) hB)).trans h3⟩
theorem Ready.eight{w:World}(h:Ready w):8≤w.heap.size:=by
 obtain⟨-,m,h3⟩:=h
 exact World.block_lt_of_cell? w _ h3
theorem jm(lim:Nat)(st:Option (List UInt8))(a b:List UInt8):dV lim (dV lim st a) b=dV lim st (a++b):=by
 cases st with
 |none=>rfl
 |some l=>
  by_cases h:l.length+a.length≤lim
  ·rw[gQ h]
   by_cases h2:l.length+(a++b).length≤lim
   ·rw[gQ h2,gQ (by rw[List.length_append]at h2⊢;omega),List.append_assoc]
   ·rw[dX (st:=some l) (x:=a++b) (fun l' hl=>by injection hl with hl;subst hl;omega)]
    exact dX (fun l' hl=>by injection hl with hl;subst hl;rw[List.length_append]at h2⊢;omega)
  ·rw[dX (st:=some l) (x:=a) (fun l' hl=>by injection hl with hl;subst hl;omega)]
   rw[dX (st:=some l) (x:=a++b) (fun l' hl=>by injection hl with hl;subst hl;rw[List.length_append];omega)]
   rfl
theorem j_{lim:Nat}{st:Option (List UInt8)}{s:ByteArray}(hg:good s=true)(hl:lim≤65536):oK lim st s=dV lim st (fP s):=by
 unfold oK
 by_cases h:s.size≤65535
 ·rw[if_pos];rw[hg,decide_eq_true h];rfl
 ·rw[if_neg (by rw[decide_eq_false h];simp),dX]
  intro l _
  rw[ji]
  omega
abbrev qdV(q:Qd):Value:= .agg #[.int .u8 (q.kind:Int),.int .u32 (q.vers:Int),.int .u64 (q.path:Int)]
abbrev stL(s:Sta):List Value:=[.int .u16 (s.type:Int),.int .u32 (s.dev:Int),.int .u8 (s.qid.kind:Int),.int .u32 (s.qid.vers:Int),.int .u64 (s.qid.path:Int),.int .u32 (s.mode:Int),.int .u32 (s.atime:Int),.int .u32 (s.mtime:Int),.int .u64 (s.length:Int),.string s.name,.string s.uid,.string s.gid,.string s.fE]
abbrev stV(s:Sta):Value:= .agg #[.int .u16 (s.type:Int),.int .u32 (s.dev:Int),.int .u8 (s.qid.kind:Int),.int .u32 (s.qid.vers:Int),.int .u64 (s.qid.path:Int),.int .u32 (s.mode:Int),.int .u32 (s.atime:Int),.int .u32 (s.mtime:Int),.int .u64 (s.length:Int),.string s.name,.string s.uid,.string s.gid,.string s.fE]
theorem nX{w:World}{base p lim:Nat}{st:Option (List UInt8)}{op:List Nat}(q:Qd)(hq:q.ok)(h:WrS w base p lim st op):
  Calls Tryz.prog 171 #[.pointer (some ⟨p,0,none⟩),qdV q] w fun e w'=>e= .returned (.tuple #[])∧WrS w' base p lim (dV lim st (kR q)) op∧Wk base w w':=by
 obtain⟨q1,q2,q3⟩:=hq
 have hsz:=h.le
 have HS:=hid (h.below ((Below.refl _ _).alloc (Nat.le_refl _) (.cells #[.int .u8 (q.kind:Int),.int .u32 (q.vers:Int),.int .u64 (q.path:Int)] 37)))
 have HB:=hid ((Wk.refl base w).alloc hsz (.cells #[.int .u8 (q.kind:Int),.int .u32 (q.vers:Int),.int .u64 (q.path:Int)] 37))
 have HN:=hid (Blk.new w 37 #[.int .u8 (q.kind:Int),.int .u32 (q.vers:Int),.int .u64 (q.path:Int)])
 clear h
 unfold qdV
 go_enter Tryz.func171,Tryz.ntmps171
 go_upto_region 2 with(fail)
 generalize w.alloc (.cells #[.int .u8 (q.kind:Int),.int .u32 (q.vers:Int),.int .u64 (q.path:Int)] 37)=w1 at HS HB HN⊢
 have k0:w1.cell? ⟨w.heap.size,0,none⟩=_:=HN.out.cell 0
 go_wp2_with fail
 refine(qO q.kind (by omega) HS.out).mono ?_
 rintro e w2 ⟨rfl,hs,hb⟩
 have HS2:=hid hs
 have HN2:=hid (hb.blk HN.out (by decide) (by decide) (by decide))
 have HB2:=hid (HB.out.trans hb);clear hs hb k0 HS HN HB
 have k1:w2.cell? ⟨w.heap.size,1,none⟩=_:=HN2.out.cell 1
 go_wp2_with fail
 refine(iY q.vers (by omega) HS2.out).mono ?_
 rintro e w3 ⟨rfl,hs,hb⟩
 have HS3:=hid hs
 have HN3:=hid (hb.blk HN2.out (by decide) (by decide) (by decide))
 have HB3:=hid (HB2.out.trans hb);clear hs hb k1 HS2 HN2 HB2
 have k2:w3.cell? ⟨w.heap.size,2,none⟩=_:=HN3.out.cell 2
 go_wp2_with fail
 refine(oU q.path (by omega) HS3.out).mono ?_
 rintro e w4 ⟨rfl,hs,hb⟩
 have HS4:=hid hs
 have HB4:=hid (HB3.out.trans hb);clear hs hb k2 HS3 HN3 HB3
 go_wp2_with fail
 go_end0
 refine⟨rfl, ?_,HB4.out⟩
 have:=HS4.out
 rw[jm,jm]at this
 exact this
end Go.Proofs.YtkblmloobkiloaaGreatDoor
namespace Go.Proofs.YtkblmloobkiloaaGreatDoor
open Go.Lib (hid)
open Go.RowKit Go.Sort
def TP(w:World):Prop:=Lib.TabIs Tryz.prog w "internal/strconv.uint64pow10" .u64 Lib.pow10Tab
theorem Cc:Tryz.prog.globalNamed "internal/strconv.uint64pow10" =some 0:=by kernel_rfl
theorem TP.low{w w':World}{B:Nat}(h:TP w)(hb:Below B w w')(hB:8≤B):TP w':=by
 unfold TP Lib.TabIs World.var? at h⊢
 rw[Cc]at h⊢
 simp only[Option.bind_some]at h⊢
 rw[hb.block _ (Nat.lt_of_lt_of_le (show 0<8 by decide) hB)]
 exact h
theorem below_grow(w:World)(k:Nat)(os:Array Obj):Below w.heap.size w (grow (w.drewN k) os):=by
 refine⟨rfl,rfl,rfl, ?_,fun i hi=> ?_⟩
 ·show w.heap.size≤(w.heap++os).size
  rw[Array.size_append]
  omega
 ·show(w.heap++os)[i]? =w.heap[i]?
  rw[Array.getElem?_append_left hi]
theorem NJ(w:World)(o:Obj)(dk:Array UInt8)(k:Nat):Below w.heap.size w ((putRow (fun(b:UInt8)=>Value.int .u8 (b.toNat:Int)) (w.alloc o) w.heap.size 0 dk).drewN k):=by
 rw[alloc_eq_grow]
 obtain⟨os',_,e⟩:=putRow_grow_new (fun(b:UInt8)=>Value.int .u8 (b.toNat:Int)) w #[o] w.heap.size 0 dk (Nat.le_refl _)
 rw[e]
 exact below_grow w k os'
theorem holds_zero0(w:World)(T:TypeId)(nd:Nat)(hs:nd≤24):Holds (fun(b:UInt8)=>Value.int .u8 (b.toNat:Int)) (w.alloc (.cells Lib.zeros24 T)) w.heap.size 0 (Array.replicate nd (0:UInt8)):=fun j hj=>by
 have hj':j<nd:=by simpa using hj
 refine⟨?_,World.frozen?_alloc_new _ _ _ _⟩
 rw[World.cell?_alloc_new,Lib.zeros24_at _ (by omega),getElem!_pos _ j hj]
 simp
theorem rG(u:Nat)(hu64:u<18446744073709551616)(w:World)(htab:TP w):
  Calls Tryz.prog 190 #[.int .u64 (u:Int),.int .i64 10] w fun e w'=>e= .returned (.string (ofL (Lib.decDigits u)))∧Below w.heap.size w w':=by
 by_cases hs:u<100
 ·have HC:=hid (Tryz.internal_strconv_small u hs w)
  have hw:wrap64 (u:Int)=(u:Int):=IntWalk.wrap64_in _ (by omega)
  clear htab hu64
  go_enter Tryz.func190,Tryz.ntmps190
  go_wp2_with fail
  refine HC.out.mono ?_
  rintro e w' ⟨rfl,rfl⟩
  go_wp2_with fail
  go_ret
  exact⟨rfl,Below.refl _ _⟩
 ·have hu1:1≤u:=by omega
  have hnd20:Lib.nDigits u≤20:=by have:=Lib.numDigits_eq u hu1 hu64;split at this<;>omega
  have hb3:Lib.nDigits u≤24:=by omega
  have hal:Tryz.prog.arrayLen 221=24:=by kernel_rfl
  have hsl1:∀W,(Instr.sliceAt 221 (.pointer (some ⟨w.heap.size,0,none⟩)) none (some (.int .i64 (Lib.nDigits u:Int))) none).run Tryz.prog W= .ok (.slice (some ⟨w.heap.size,0,none⟩) (Lib.nDigits u) 24) W:=fun W=>by
   rw[run_sliceAt_array_h W 221 ⟨w.heap.size,0,none⟩ (by kernel_rfl) .i64 (Lib.nDigits u:Int) (by omega) (by rw[hal];omega)]
   go_simp
  have hH0:=holds_zero0 w 221 (Lib.nDigits u) hb3
  have hfmt:=Tryz.internal_strconv_formatBase10 w.heap.size 0 24 u (Array.replicate (Lib.nDigits u) 0) (w.alloc (.cells Lib.zeros24 221)) hH0 (by rw[Array.size_replicate];exact Lib.lt_pow_nDigits u) hu64 (by rw[Array.size_replicate];omega)
  rw[Array.size_replicate]at hfmt
  have HH0:=hid hH0
  have HF:=hid hfmt
  have HND:=hid (Tryz.internal_strconv_numDigits u hu1 hu64 (w.alloc (.cells Lib.zeros24 221)) (Lib.tabIs_alloc htab _))
  clear hH0 hal hfmt htab
  go_enter Tryz.func190,Tryz.ntmps190
  go_wp2_with fail
  refine HND.out.mono ?_
  rintro e w' ⟨rfl,rfl⟩
  go_wp2_with fail
  refine HF.out.mono ?_
  rintro e w' ⟨rfl,k,v',dk,rfl,hF⟩
  have hcv:(convert 22 9 (.slice (some ⟨w.heap.size,0,none⟩) (Lib.nDigits u) 24)).run Tryz.prog ((putRow (fun(b:UInt8)=>Value.int .u8 (b.toNat:Int)) (w.alloc (.cells Lib.zeros24 221)) w.heap.size 0 dk).drewN k)= .ok (.string ⟨(Lib.decDigits u).toArray⟩) ((putRow (fun(b:UInt8)=>Value.int .u8 (b.toNat:Int)) (w.alloc (.cells Lib.zeros24 221)) w.heap.size 0 dk).drewN k):=by
   have h:=run_convert_bytes_back (P:=Tryz.prog) ((putRow (fun(b:UInt8)=>Value.int .u8 (b.toNat:Int)) (w.alloc (.cells Lib.zeros24 221)) w.heap.size 0 dk).drewN k) 22 9 5 ⟨w.heap.size,0,none⟩ 24 (Lib.decDigits u) Tryz.underlying22 Tryz.underlying5 Tryz.underlying9 (fun j hj=>by
    rw[Lib.row_is_numeral hF j hj,Lib.add_plain,World.cell?_drewN]
    exact cell?_putRow (fun(b:UInt8)=>Value.int .u8 (b.toNat:Int)) _ w.heap.size 0 _ dk HH0.out (by rw[hF.size,Array.size_replicate]) j (by rw[hF.size];rw[Lib.decDigits_length]at hj;exact hj))
   rw[Lib.decDigits_length]at h
   exact h
  have HB:=hid (NJ w (.cells Lib.zeros24 221) dk k)
  clear hF
  go_wp2_with fail
  go_ret
  exact⟨rfl,HB.out⟩
theorem sH(u:Nat)(hu64:u<18446744073709551616)(w:World)(htab:TP w):
  Calls Tryz.prog 115 #[.int .u64 (u:Int),.int .i64 10] w fun e w'=>e= .returned (.string (ofL (Lib.decDigits u)))∧Below w.heap.size w w':=by
 have HC:=hid (rG u hu64 w htab)
 clear htab hu64
 go_enter Tryz.func115,Tryz.ntmps115
 go_wp2_with fail
 refine HC.out.mono ?_
 rintro e w' ⟨rfl,hb⟩
 have HB:=hid hb
 clear hb
 go_wp2_with fail
 go_ret
 exact⟨rfl,HB.out⟩
theorem dN(u:Nat)(hu64:u<18446744073709551616)(w:World)(htab:TP w):
  Calls Tryz.prog 59 #[.int .u64 (u:Int)] w fun e w'=>e= .returned (.string (ofL (Lib.decDigits u)))∧Below w.heap.size w w':=by
 have HC:=hid (sH u hu64 w htab)
 clear htab hu64
 go_enter Tryz.func59,Tryz.ntmps59
 go_wp2_with fail
 refine HC.out.mono ?_
 rintro e w' ⟨rfl,hb⟩
 have HB:=hid hb
 clear hb
 go_wp2_with fail
 go_ret
 exact⟨rfl,HB.out⟩
end Go.Proofs.YtkblmloobkiloaaGreatDoor
namespace Go.Proofs.YtkblmloobkiloaaGreatDoor
open Go.Lib (hid)
open Go.RowKit
abbrev SB(w:World)(B b:Nat)(l:List Value):Prop:=Lib.IsBuilderF 197 5 B b l w
theorem Gt:(Tryz.prog.info? 197).map (·.size)=some 2:=by kernel_rfl
theorem NK:liesAt Tryz.prog Tryz.prog.depth 197 (2/Tryz.prog.cellsOf 197) 0 197 1=true:=by kernel_rfl
theorem Ap(b:Nat)(w:World)(h0:w.cell? ⟨b,0,none⟩=some (.pointer (some ⟨b,0,none⟩))):
  Calls Tryz.prog 252 #[.pointer (some ⟨b,0,none⟩)] w fun e w'=>e= .returned (.tuple #[])∧w'=w:=by
 obtain⟨j,hj,_⟩:=Option.map_eq_some_iff.1 Gt
 go_enter Tryz.func252,Tryz.ntmps252
 go_wp2
 rw[Lib.run_neq_ptr_same w _ Tryz.underlying195 hj]
 go_wp2
 go_end0
 exact⟨rfl,rfl⟩
theorem yx(b:Nat)(w:World)(h0:w.cell? ⟨b,0,none⟩=some (.pointer none))(hsh:w.shape? b=some (197,2))(hfz:w.frozen? ⟨b,0,none⟩=false):
  Calls Tryz.prog 252 #[.pointer (some ⟨b,0,none⟩)] w fun e w'=>e= .returned (.tuple #[])∧w'=w.setCell ⟨b,0,none⟩ (.pointer (some ⟨b,0,none⟩)):=by
 obtain⟨j,hj,hjs⟩:=Option.map_eq_some_iff.1 Gt
 go_enter Tryz.func252,Tryz.ntmps252
 go_wp2
 rw[Lib.run_to_unsafe w ⟨b,0,none⟩ Tryz.underlying195 Tryz.underlying247 hj (by rw[hjs];decide) hsh (Nat.zero_lt_succ 1)]
 simp only[Result.andThen]
 rw[Oper.upon_value]
 go_wp2
 rw[run_callFunc_extern Tryz.func276 (by kernel_rfl) (by kernel_rfl) (by kernel_rfl) (e:=Extern.AbiNoEscape.same) (by kernel_rfl)]
 rw[Lib.run_noEscape]
 simp only[Result.andThen]
 rw[Oper.upon_value]
 go_wp2
 rw[Lib.run_from_unsafe w ⟨b,0,none⟩ Tryz.underlying247 Tryz.underlying195 hj hsh NK]
 simp only[Result.andThen]
 rw[Oper.upon_value]
 go_wp2
 go_end0
 exact⟨rfl,rfl⟩
theorem ni(B b:Nat)(bs:List Value)(w:World)(h:SB w B b bs):
  Calls Tryz.prog 252 #[.pointer (some ⟨b,0,none⟩)] w fun e w'=>e= .returned (.tuple #[])∧(Lib.BuilderAtF 197 5 B b (.pointer (some ⟨b,0,none⟩)) bs w'∧Below B w w'∧Lib.OthersKept 5 (some b) w w'):=by
 rcases h with h|h
 ·refine(yx b w h.cell0 h.shape h.frozen0).mono ?_
  rintro e w' ⟨rfl,rfl⟩
  exact⟨rfl,h.used _,(Below.refl B w).setCell (p:=⟨b,0,none⟩) h.1 _,(Lib.OthersKept.refl _ _ w).setCell ⟨b,0,none⟩ rfl _⟩
 ·refine(Ap b w h.cell0).mono ?_
  rintro e w' ⟨rfl,rfl⟩
  exact⟨rfl,h,Below.refl B _,Lib.OthersKept.refl _ _ _⟩
theorem jR(B b:Nat)(bs:List Value)(c:Int)(w:World)(h:SB w B b bs)(hlen:bs.length+1≤140737488355328)(hBw:B≤w.heap.size):
  Calls Tryz.prog 198 #[.pointer (some ⟨b,0,none⟩),.int .u8 c] w fun e w'=>e= .returned .nilIface∧SB w' B b (bs++[.int .u8 c])∧Below B w w'∧Lib.OthersKept 5 (some b) w w':=by
 obtain⟨i0,hi,hz0,hz1,hz2⟩:=info_parts mF
 go_enter Tryz.func198,Tryz.ntmps198
 go_wp2_with(go_at_call 252;refine(ni B b bs _ h).mono ?_)
 rintro e w1 ⟨rfl,h1,hb1,hk1⟩
 obtain⟨hB,v,hbk,hown,hne⟩:=h1
 have c0:w1.cell? ⟨b,0,none⟩=some (.pointer (some ⟨b,0,none⟩)):=by rw[Lib.cell_of_heap hbk];rfl
 have c1:w1.cell? ⟨b,1,none⟩=some v:=by rw[Lib.cell_of_heap hbk];rfl
 go_wp2_with(at_builtin;refine wpList_append_ownF _ rfl _ _ 22 rfl B 5 i0 (.int .u8 0) 1 1 Tryz.underlying22 hi hz0 hz1 hz2 rfl (by decide) _ _ _ rfl (hown.alloc _) ⟨w1.heap.size,0,none⟩ 1 1 [.int .u8 c] rfl rfl ?c1 ?c2 ?c3 ?c4 ?c5 ?_)
 case c1=>
  intro j u hj
  match j,hj with
  |0,hj=>simp at hj;subst hj;simp[Addr.add]
 case c2=>intro u hu;simp at hu;subst hu;rfl
 case c3=>unfold maxLen;omega
 case c4=>omega
 case c5=>have:=hb1.size;simp;omega
 intro v' w2 hown' hgrow _
 have hlt:b<w1.heap.size:=dP hbk
 have hb2:w2.heap[b]? =some (.cells #[.pointer (some ⟨b,0,none⟩),v] 197 (0,0)):=by
  rw[hgrow.block b (by simp;omega) (fun e=>hne e.symm),Lib.alloc_old w1 _ b hlt]
  exact hbk
 have d0:w2.cell? ⟨b,0,none⟩=some (.pointer (some ⟨b,0,none⟩)):=by rw[Lib.cell_of_heap hb2];rfl
 have d1:w2.cell? ⟨b,1,none⟩=some v:=by rw[Lib.cell_of_heap hb2];rfl
 have f1:w2.frozen? ⟨b,1,none⟩=false:=Lib.frozen_of_heap hb2 1
 obtain⟨g,cap,rfl⟩:∃g cap,v'= .slice (some ⟨g,0,none⟩) (bs.length+1) cap:=by
  rcases hown'.2 with⟨_,h0⟩|⟨g,cap,cur,fz,hv,_⟩
  ·omega
  ·exact⟨g,cap,hv⟩
 go_wp2
 go_ret
 refine⟨rfl, ?_, ?_,((hk1.alloc _).grown hgrow (Lib.ownsRowF_kind (hown.alloc _))).setCell ⟨b,1,none⟩ rfl _⟩
 ·exact .inr (Lib.BuilderAtF.put (T:=197) (e:=5) hB hb2 (bs':=bs++[.int .u8 c]) (by simpa using hown') (by decide))
 ·exact((hb1.alloc (by have:=hb1.size;omega) _).grown hgrow (by have:=hb1.size;simp;omega) (fun k hk=>(hown.lt k hk).1)).setCell (p:=⟨b,1,none⟩) hB _
theorem oV(B b:Nat)(bs:List Value)(s:ByteArray)(w:World)(h:SB w B b bs)(hlen:bs.length+s.size≤140737488355328)(hBw:B≤w.heap.size):
  Calls Tryz.prog 200 #[.pointer (some ⟨b,0,none⟩),.string s] w fun e w'=>e= .returned (.tuple #[.int .i64 s.size,.nilIface])∧SB w' B b (bs++Lib.strCells s)∧Below B w w'∧Lib.OthersKept 5 (some b) w w':=by
 obtain⟨i0,hi,hz0,hz1,hz2⟩:=info_parts mF
 go_enter Tryz.func200,Tryz.ntmps200
 go_wp2_with(go_at_call 252;refine(ni B b bs _ h).mono ?_)
 rintro e w1 ⟨rfl,h1,hb1,hk1⟩
 obtain⟨hB,v,hbk,hown,hne⟩:=h1
 have c0:w1.cell? ⟨b,0,none⟩=some (.pointer (some ⟨b,0,none⟩)):=by rw[Lib.cell_of_heap hbk];rfl
 have c1:w1.cell? ⟨b,1,none⟩=some v:=by rw[Lib.cell_of_heap hbk];rfl
 go_wp2_with(at_builtin;refine Lib.wpList_append_own_stringF _ rfl _ _ 22 9 rfl B 5 i0 Tryz.underlying22 Tryz.underlying9 hi hz0 hz1 hz2 _ _ _ rfl hown s rfl ?c3 ?c4 ?c5 ?_)
 case c3=>unfold maxLen;omega
 case c4=>omega
 case c5=>have:=hb1.size;omega
 intro v' w2 hown' hgrow _
 have hlt:b<w1.heap.size:=dP hbk
 have hb2:w2.heap[b]? =some (.cells #[.pointer (some ⟨b,0,none⟩),v] 197 (0,0)):=by
  rw[hgrow.block b hlt (fun e=>hne e.symm)]
  exact hbk
 have d0:w2.cell? ⟨b,0,none⟩=some (.pointer (some ⟨b,0,none⟩)):=by rw[Lib.cell_of_heap hb2];rfl
 have d1:w2.cell? ⟨b,1,none⟩=some v:=by rw[Lib.cell_of_heap hb2];rfl
 have f1:w2.frozen? ⟨b,1,none⟩=false:=Lib.frozen_of_heap hb2 1
 obtain⟨ao,n',cap,rfl⟩:∃ao n' cap,v'= .slice ao n' cap:=by
  rcases hown'.2 with⟨hv,_⟩|⟨g,cap,cur,fz,hv,_⟩
  ·exact⟨_,_,_,hv⟩
  ·exact⟨_,_,_,hv⟩
 go_wp2
 go_ret2
 refine⟨rfl, ?_, ?_,(hk1.grown hgrow (Lib.ownsRowF_kind hown)).setCell ⟨b,1,none⟩ rfl _⟩
 ·exact .inr (Lib.BuilderAtF.put (T:=197) (e:=5) hB hb2 (bs':=bs++Lib.strCells s) (by simpa [Lib.strCells_length]using hown') (by decide))
 ·exact(hb1.grown hgrow (by have:=hb1.size;omega) (fun k hk=>(hown.lt k hk).1)).setCell (p:=⟨b,1,none⟩) hB _
theorem nY(B b:Nat)(bs:List Value)(r:Int)(hr0: -2147483648≤r)(hr1:r≤2147483647)(w:World)(h:SB w B b bs)(hlen:bs.length+4≤140737488355328)(hBw:B≤w.heap.size):
  Calls Tryz.prog 199 #[.pointer (some ⟨b,0,none⟩),.int .i32 r] w fun e w'=>(∃u v,e= .returned (.tuple #[u,v]))∧SB w' B b (bs++Lib.runeCells r)∧Below B w w'∧Lib.OthersKept 5 (some b) w w':=by
 have hk4:=Lib.runeCells_le r
 go_enter Tryz.func199,Tryz.ntmps199
 go_wp2_with(go_at_call 252;refine(ni B b bs _ h).mono ?_)
 rintro e w1 ⟨rfl,h1,hb1,hk1⟩
 obtain⟨hB,v,hbk,hown,hne⟩:=h1
 obtain⟨ao,cap,rfl⟩:∃ao cap,v= .slice ao bs.length cap:=by
  rcases hown.2 with⟨hv,h0⟩|⟨g,cap,cur,fz,hv,_⟩
  ·exact⟨none,0,by rw[hv,h0]⟩
  ·exact⟨_,_,hv⟩
 have c0:w1.cell? ⟨b,0,none⟩=some (.pointer (some ⟨b,0,none⟩)):=by rw[Lib.cell_of_heap hbk];rfl
 have c1:w1.cell? ⟨b,1,none⟩=some (.slice ao bs.length cap):=by rw[Lib.cell_of_heap hbk];rfl
 go_wp2_with(go_at_call 253;refine(Tryz.utf8_AppendRune_row B _ bs.length bs r hr0 hr1 _ hown hlen (by have:=hb1.size;omega)).mono ?_)
 rintro e w2 ⟨v',rfl,hown',o,hgrow⟩
 have hlt:b<w1.heap.size:=dP hbk
 have hb2:w2.heap[b]? =some (.cells #[.pointer (some ⟨b,0,none⟩),.slice ao bs.length cap] 197 (0,0)):=by
  rw[hgrow.block b (by simp;omega) (fun e=>hne e.symm),Lib.alloc_old w1 _ b hlt]
  exact hbk
 have d0:w2.cell? ⟨b,0,none⟩=some (.pointer (some ⟨b,0,none⟩)):=by rw[Lib.cell_of_heap hb2];rfl
 have d1:w2.cell? ⟨b,1,none⟩=some (.slice ao bs.length cap):=by rw[Lib.cell_of_heap hb2];rfl
 have f1:w2.frozen? ⟨b,1,none⟩=false:=Lib.frozen_of_heap hb2 1
 obtain⟨g,cap',rfl⟩:∃g cap',v'= .slice (some ⟨g,0,none⟩) (bs.length+(Lib.runeCells r).length) cap':=by
  rcases hown'.2 with⟨_,h0⟩|⟨g,cap',cur,fz,hv,_⟩
  ·omega
  ·exact⟨g,cap',hv⟩
 go_wp2
 go_ret2
 refine⟨⟨_,_,rfl⟩, ?_, ?_,((hk1.alloc _).grown hgrow (Lib.ownsRowF_kind (hown.alloc _))).setCell ⟨b,1,none⟩ rfl _⟩
 ·exact .inr (Lib.BuilderAtF.put (T:=197) (e:=5) hB hb2 (bs':=bs++Lib.runeCells r) (by simpa using hown') (by decide))
 ·exact((hb1.alloc (by have:=hb1.size;omega) _).grown hgrow (by have:=hb1.size;simp;omega) (fun k hk=>(hown.lt k hk).1)).setCell (p:=⟨b,1,none⟩) hB _
end Go.Proofs.YtkblmloobkiloaaGreatDoor
namespace Go.Proofs.YtkblmloobkiloaaGreatDoor
open Go.Lib (hid)
open Go.Lib (decDigits)
theorem Ij(m:Mg)(f:Fld):(m.bytes f).length=m.long f:=by
 cases f
 case bI=>exact bK _ _
 case version=>exact ji _
 case dB=>exact bK _ _
 case uname=>exact ji _
 case bF=>exact ji _
 case bH=>exact ji _
 case aT=>exact bK _ _
 case fid=>exact bK _ _
 case aU=>exact bK _ _
 case names=>
  show(le 2 m.names.length++m.names.flatMap fP).length=2+(m.names.map fun s=>2+s.size).sum
  rw[List.length_append,bK,List.length_flatMap]
  congr 2
  exact List.map_congr_left fun s _=>ji s
 case aV=>
  show(le 2 m.aV.length++m.aV.flatMap kR).length=2+13*m.aV.length
  rw[List.length_append,bK,List.length_flatMap]
  congr 1
  induction m.aV with
  |nil=>rfl
  |cons q l ih=>rw[List.map_cons,List.sum_cons,ih,nH,List.length_cons];omega
 case qid=>exact nH _
 case mode=>exact bK _ _
 case aQ=>exact bK _ _
 case name=>exact ji _
 case perm=>exact bK _ _
 case offset=>exact bK _ _
 case count=>exact bK _ _
 case data=>show(le 4 _++_).length=_;rw[List.length_append,bK];rfl
 case stat=>show(le 2 _++_).length=_;rw[List.length_append,bK,pW];rfl
theorem En{α:Type}{f:α→Nat}{x:α}{l:List α}(h:x∈l):f x≤(l.map f).sum:=by
 induction l with
 |nil=>cases h
 |cons y l ih=>
  rw[List.map_cons,List.sum_cons]
  rcases List.mem_cons.1 h with rfl|h
  ·omega
  ·have:=ih h;omega
theorem J5(c m:Mg)(f:Fld)(r:List UInt8)(ho:m.ok)(hg:m.good f=true)(hl:m.long f≤65536)(hr:f= .stat→r=[]):nD c (m.bytes f++r) f=some (c.move m f,r):=by
 cases f
 case bI=>
  show(bU 4 (le 4 m.bI++r)).map (fun p=>(c.aG p.1 .bI,p.2))=_
  rw[fG 4 _ _ ho.bI]
  rfl
 case version=>
  have h2:2+m.version.size≤65536:=hl
  show(aN (fP m.version++r)).map _=_
  rw[iO m.version _ (by omega) hg]
  rfl
 case dB=>
  show(bU 4 (le 4 m.dB++r)).map (fun p=>(c.aG p.1 .dB,p.2))=_
  rw[fG 4 _ _ ho.dB]
  rfl
 case uname=>
  have h2:2+m.uname.size≤65536:=hl
  show(aN (fP m.uname++r)).map _=_
  rw[iO m.uname _ (by omega) hg]
  rfl
 case bF=>
  have h2:2+m.bF.size≤65536:=hl
  show(aN (fP m.bF++r)).map _=_
  rw[iO m.bF _ (by omega) hg]
  rfl
 case bH=>
  have h2:2+m.bH.size≤65536:=hl
  show(aN (fP m.bH++r)).map _=_
  rw[iO m.bH _ (by omega) hg]
  rfl
 case aT=>
  show(bU 2 (le 2 m.aT++r)).map (fun p=>(c.aG p.1 .aT,p.2))=_
  rw[fG 2 _ _ ho.aT]
  rfl
 case fid=>
  show(bU 4 (le 4 m.fid++r)).map (fun p=>(c.aG p.1 .fid,p.2))=_
  rw[fG 4 _ _ ho.fid]
  rfl
 case aU=>
  show(bU 4 (le 4 m.aU++r)).map (fun p=>(c.aG p.1 .aU,p.2))=_
  rw[fG 4 _ _ ho.aU]
  rfl
 case names=>
  have hg':(decide (m.names.length≤16)&&m.names.all good)=true:=hg
  rw[Bool.and_eq_true,decide_eq_true_iff,List.all_eq_true]at hg'
  have hl':2+(m.names.map fun s=>2+s.size).sum≤65536:=hl
  show(fF aN (le 2 m.names.length++m.names.flatMap fP++r)).map _=_
  rw[tY m.names r hg'.1 (fun x hx r=>iO x r (by
   have:2+x.size≤_:=En (f:=fun s:ByteArray=>2+s.size) hx
   omega) (hg'.2 x hx))]
  rfl
 case aV=>
  have hg':decide (m.aV.length≤16)=true:=hg
  rw[decide_eq_true_iff]at hg'
  show(fF dR (le 2 m.aV.length++m.aV.flatMap kR++r)).map _=_
  rw[tY m.aV r hg' (fun x hx r=>vH x r (ho.aV x hx))]
  rfl
 case qid=>
  show(dR (kR m.qid++r)).map (fun p=>({c with qid:=p.1},p.2))=_
  rw[vH _ _ ho.qid]
  rfl
 case mode=>
  show(bU 1 (le 1 m.mode++r)).map (fun p=>(c.aG p.1 .mode,p.2))=_
  rw[fG 1 _ _ ho.mode]
  rfl
 case aQ=>
  show(bU 4 (le 4 m.aQ++r)).map (fun p=>(c.aG p.1 .aQ,p.2))=_
  rw[fG 4 _ _ ho.aQ]
  rfl
 case name=>
  have h2:2+m.name.size≤65536:=hl
  show(aN (fP m.name++r)).map _=_
  rw[iO m.name _ (by omega) hg]
  rfl
 case perm=>
  show(bU 4 (le 4 m.perm++r)).map (fun p=>(c.aG p.1 .perm,p.2))=_
  rw[fG 4 _ _ ho.perm]
  rfl
 case offset=>
  show(bU 8 (le 8 m.offset++r)).map (fun p=>(c.aG p.1 .offset,p.2))=_
  rw[fG 8 _ _ ho.offset]
  rfl
 case count=>
  show(bU 4 (le 4 m.count++r)).map (fun p=>(c.aG p.1 .count,p.2))=_
  rw[fG 4 _ _ ho.count]
  rfl
 case data=>
  have h2:4+m.data.length≤65536:=hl
  show(match bU 4 (le 4 m.data.length++m.data++r)with|none=>none|some (n,r)=>(gJ n r).map fun p:List UInt8×List UInt8=>({c with data:=p.1},p.2))=_
  rw[List.append_assoc,fG 4 _ _ (by omega)]
  dsimp only
  rw[vG _ _ rfl]
  rfl
 case stat=>
  have h2:2+dY m.stat≤65536:=hl
  rw[hr rfl,List.append_nil]
  show(kH (le 2 (dY m.stat)++kX m.stat)).map _=_
  rw[BZ _ ho.stat (by omega) hg]
  rfl
theorem NM{f g:Fld}(h:f≠g)(c d m:Mg):d.move (c.move m f) g=d.move c g:=by
 cases f<;>cases g<;>first|exact absurd rfl h|rfl
theorem NP(c d m:Mg)(f:Fld):d.move (c.move m f) f=d.move m f:=by
 cases f<;>rfl
theorem vI(c m:Mg)(f:Fld):(c.move m f).bytes f=m.bytes f:=by
 cases f<;>rfl
theorem y5(c m:Mg)(f:Fld):(c.move m f).good f=m.good f:=by
 cases f<;>rfl
theorem y7(c m:Mg)(f:Fld):(c.move m f).long f=m.long f:=by
 cases f<;>rfl
theorem Ik(c m:Mg)(f:Fld):(c.move m f).kind=c.kind∧(c.move m f).tag=c.tag:=by
 cases f<;>exact⟨rfl,rfl⟩
def Alike(a b:Mg)(f:Fld):Prop:=∀d:Mg,d.move a f=d.move b f
theorem Alike.bytes{a b:Mg}{f:Fld}(h:Alike a b f):a.bytes f=b.bytes f:=by rw[←vI a a f,←vI a b f,h]
theorem Alike.good{a b:Mg}{f:Fld}(h:Alike a b f):a.good f=b.good f:=by rw[←y5 a a f,←y5 a b f,h]
theorem Alike.long{a b:Mg}{f:Fld}(h:Alike a b f):a.long f=b.long f:=by rw[←y7 a a f,←y7 a b f,h]
theorem qP(m:Mg):∀(fs:List Fld) (c:Mg),(fs.foldl (fun c f=>c.move m f) c).kind=c.kind∧(fs.foldl (fun c f=>c.move m f) c).tag=c.tag
 | [],c=>⟨rfl,rfl⟩
 |f::fs,c=>by rw[List.foldl_cons,(qP m fs _).1,(qP m fs _).2];exact Ik c m f
theorem pY(m:Mg)(g:Fld):∀(fs:List Fld) (c:Mg),g∉fs→Alike (fs.foldl (fun c f=>c.move m f) c) c g
 | [],c,_=>fun _=>rfl
 |f::fs,c,h=>fun d=>by
  rw[List.foldl_cons,pY m g fs _ (fun hh=>h (List.mem_cons_of_mem _ hh)) d,NM (fun hh=>h (by rw[hh];exact List.mem_cons_self))]
theorem Ce(m:Mg)(g:Fld):∀(fs:List Fld) (c:Mg),g∈fs→fs.Nodup→Alike (fs.foldl (fun c f=>c.move m f) c) m g
 |f::fs,c,h,hn=>fun d=>by
  rw[List.nodup_cons]at hn
  rcases List.mem_cons.1 h with rfl|h
  ·rw[List.foldl_cons,pY m g fs _ hn.1 d,NP]
  ·rw[List.foldl_cons,Ce m g fs _ h hn.2 d]
def Fld.J6:Fld→Bool
 | .stat=>true
 |_=>false
def Gu:List Fld→Bool
 | []=>true
 |f::fs=>(!f.J6||fs.isEmpty)&&Gu fs
instance:DecidableEq Fld:=fun a b=>by
 cases a<;>cases b<;>first|exact isTrue rfl|exact isFalse (fun h=>by cases h)
theorem iP{k:Nat}{fs:List Fld}(h:bQ k=some fs):Gu fs=true∧fs.Nodup∧100≤k∧k<128:=by
 unfold bQ at h
 split at h<;>first|(obtain rfl:=Option.some.inj h;decide)|(exact absurd h (by simp))
theorem vJ(m:Mg)(ho:m.ok):∀(fs:List Fld) (c:Mg),Gu fs=true→(∀f∈fs,m.good f=true∧m.long f≤65536)→getAll fs c (body m fs)=some (fs.foldl (fun c f=>c.move m f) c,[])
 | [],c,_,_=>rfl
 |f::fs,c,hw,h=>by
  rw[Gu,Bool.and_eq_true]at hw
  have hf:=h f List.mem_cons_self
  have:nD c (m.bytes f++body m fs) f=some (c.move m f,body m fs):=J5 c m f _ ho hf.1 hf.2 (fun he=>by
   subst he
   have h1:=hw.1
   rw[show Fld.stat.J6=true from rfl,Bool.not_true,Bool.false_or,List.isEmpty_iff]at h1
   subst h1
   rfl)
  unfold body at this⊢
  rw[List.flatMap_cons,getAll,this]
  dsimp only
  exact vJ m ho fs _ hw.2 (fun g hg=>h g (List.mem_cons_of_mem _ hg))
theorem vK(m:Mg)(fs:List Fld):(body m fs).length=(fs.map m.long).sum:=by
 unfold body
 rw[List.length_flatMap]
 congr 1
 exact List.map_congr_left fun f _=>Ij m f
theorem nZ{m:Mg}(h:(refused m).1=0):∃fs,bQ m.kind=some fs∧(∀f∈fs,m.good f=true)∧m.size fs≤65536∧(refused m).2=m.size fs∧enc m=(le 4 (m.size fs)++le 1 m.kind++le 2 m.tag++body m fs,0):=by
 have h0:=h
 unfold refused at h
 cases hk:bQ m.kind with
 |none=>rw[hk]at h;simp at h
 |some fs=>
  rw[hk]at h
  dsimp only at h
  split at h
  ·rename_i hg
   split at h
   ·simp at h
   ·rename_i hs
    refine⟨fs,rfl,List.all_eq_true.1 hg,by omega, ?_, ?_⟩
    ·unfold refused;rw[hk];dsimp only;rw[if_pos hg,if_neg hs]
    ·unfold enc;rw[hk];dsimp only;rw[if_pos h0]
  ·simp at h
theorem qQ{m:Mg}{fs:List Fld}(hk:bQ m.kind=some fs)(hg:∀f∈fs,m.good f=true)(hs:m.size fs≤65536):refused m=(0,m.size fs):=by
 unfold refused
 rw[hk]
 dsimp only
 rw[if_pos (List.all_eq_true.2 hg),if_neg (by omega)]
theorem NQ{m:Mg}(h:(refused m).1=0):(enc m).1.length=(refused m).2:=by
 obtain⟨fs, -, -, -,h2,he⟩:=nZ h
 rw[he,h2]
 simp only[List.length_append,bK,vK,Mg.size]
theorem NR{m:Mg}(ho:m.ok)(h:(refused m).1=0):dec (enc m).1=(clean m,0):=by
 have hlen:=NQ h
 obtain⟨fs,hk,hg,hs,h2,he⟩:=nZ h
 rw[h2]at hlen
 have hsz:7≤m.size fs:=by unfold Mg.size;omega
 have hb:∀f∈fs,m.good f=true∧m.long f≤65536:=fun f hf=>⟨hg f hf,by
  have:=En (f:=m.long) hf
  unfold Mg.size at hs
  omega⟩
 rw[he]at hlen⊢
 dsimp only at hlen⊢
 have e1:(le 4 (m.size fs)++le 1 m.kind++le 2 m.tag++body m fs).take 4=le 4 (m.size fs):=by
  rw[List.append_assoc,List.append_assoc,kZ _ _ (bK _ _)]
 have e2:((le 4 (m.size fs)++le 1 m.kind++le 2 m.tag++body m fs).drop 4).take 1=le 1 m.kind:=by
  rw[List.append_assoc,List.append_assoc,kJ _ _ (bK _ _),kZ _ _ (bK _ _)]
 have e3:((le 4 (m.size fs)++le 1 m.kind++le 2 m.tag++body m fs).drop 5).take 2=le 2 m.tag:=by
  rw[List.append_assoc,kJ (le 4 (m.size fs)++le 1 m.kind) _ (by simp[bK]),kZ _ _ (bK _ _)]
 have e4:(le 4 (m.size fs)++le 1 m.kind++le 2 m.tag++body m fs).drop 7=body m fs:=kJ _ _ (by simp[bK])
 unfold dec
 rw[hlen,if_neg (by omega),e1,e2,e3,e4,iD 4 _ (by omega),if_neg (by simp),iD 1 _ ho.kind,iD 2 _ ho.tag,hk]
 dsimp only
 rw[vJ m ho fs _ (iP hk).1 hb]
 dsimp only
 unfold clean
 rw[hk]
 rfl
theorem NS{k t:Nat}(hk:k<256)(ht:t<65536):(head k t).ok where
 kind:=hk
 tag:=ht
 bI:=show 0<4294967296 by decide
 dB:=show 0<4294967296 by decide
 fid:=show 0<4294967296 by decide
 aU:=show 0<4294967296 by decide
 aQ:=show 0<4294967296 by decide
 perm:=show 0<4294967296 by decide
 count:=show 0<4294967296 by decide
 aT:=show 0<65536 by decide
 mode:=show 0<256 by decide
 offset:=show 0<18446744073709551616 by decide
 aV:=by simp[head]
 qid:=show 0<256∧0<4294967296∧0<18446744073709551616 by decide
 stat:=show 0<65536∧0<4294967296∧(0<256∧0<4294967296∧0<18446744073709551616)∧0<4294967296∧0<4294967296∧0<4294967296∧0<18446744073709551616 by decide
theorem tZ{m:Mg}{fs:List Fld}(hk:bQ m.kind=some fs){f:Fld}(hf:f∈fs):Alike (clean m) m f:=by
 unfold clean
 rw[hk]
 exact Ce m f fs _ hf (iP hk).2.1
theorem Eo(m:Mg):(clean m).kind=m.kind∧(clean m).tag=m.tag:=qP m _ _
theorem vM{m:Mg}{fs:List Fld}(hk:bQ m.kind=some fs):(clean m).size fs=m.size fs:=by
 unfold Mg.size
 congr 2
 exact List.map_congr_left fun f hf=>(tZ hk hf).long
theorem yA{m:Mg}(h:(refused m).1=0):refused (clean m)=refused m:=by
 obtain⟨fs,hk,hg,hs,h2, -⟩:=nZ h
 rw[qQ hk hg hs,qQ (m:=clean m) (fs:=fs) (by rw[(Eo m).1];exact hk) (fun f hf=>by rw[(tZ hk hf).good];exact hg f hf) (by rw[vM hk];exact hs),vM hk]
end Go.Proofs.YtkblmloobkiloaaGreatDoor
