/-
  MQ: what the laws of package msg need of them.
-/
import Derived.Test.YtkblmloobkiloaaGreatDoorK00
import Derived.Test.YtkblmloobkiloaaGreatDoorK04
import Derived.Laws.StructEq
namespace Go.Proofs.YtkblmloobkiloaaGreatDoor
open Go.Lib (hid)
open Go.RowKit
def ifv(c:Bool)(v:Value):Value:=if c=true then v else undef
theorem aO{c:Bool}{v:Value}(h:c=true):ifv c v=v:=if_pos h
section
variable {ops:Array Oper} {rest:List Oper} {op:Oper} {a:Act} {w:World} {Q:Exit→Act→World→Prop}
theorem aj{j d:Nat}{b:Bool}(z:Bool)(hg:op.guard=some (j,z))(hj:(ops[j]?).bind (·.dst)=some d)(hd:a.tmps[d]? =some (.bool b)):Region.wanted op (yielded ops a.tmps)=(b==z):=by
 unfold Region.wanted yielded
 rw[hg]
 simp only[hj,Option.bind_some,hd]
 cases b<;>cases z<;>rfl
theorem ak(d:Nat){v:Value}(hd:op.dst=some d)(hw:Region.wanted op (yielded ops a.tmps)=true)(hy:(execOp a.eval op).run Tryz.prog w= .ok (.value v) w)(h:wpList Tryz.prog ops Q rest (a.put (some d) v) w):wpList Tryz.prog ops Q (op::rest) a w:=
 wpList_step fun K hK=>by
  rw[if_pos hw]
  unfold Oper.wp
  rw[hy,Oper.upon_value,hd]
  exact hK _ _ h
theorem aA(d:Nat){v:Value}{c:Bool}(hd:op.dst=some d)(hw:Region.wanted op (yielded ops a.tmps)=c)(hy:c=true→(execOp a.eval op).run Tryz.prog w= .ok (.value v) w)(h:wpList Tryz.prog ops Q rest (a.put (some d) (ifv c v)) w):wpList Tryz.prog ops Q (op::rest) a w:=by
 cases c with
 |true=>exact ak d hd hw (hy rfl) h
 |false=>exact wpList_skip hw (by rw[hd];exact h)
theorem dM(x:Operand){v:Value}(ho:op.op= .move x)(hx:a.eval x=v):(execOp a.eval op).run Tryz.prog w= .ok (.value v) w:=by
 unfold execOp
 simp only[ho,hx]
 rfl
theorem kL(x y z:Operand){c:Bool}{u v r:Value}(ho:op.op= .pick x y z)(hx:a.eval x= .bool c)(hy:a.eval y=u)(hz:a.eval z=v)(hr:(if c=true then u else v)=r):(execOp a.eval op).run Tryz.prog w= .ok (.value r) w:=by
 subst hr
 unfold execOp
 simp only[ho,hx,hy,hz]
 cases c<;>rfl
theorem kM{c b:Bool}:(if c=true then .bool true else ifv (c==false) (.bool b))=Value.bool (c||b):=by cases c<;>rfl
end
section
variable {ops:Array Oper} {rest:List Oper} {op:Oper} {a:Act} {w:World} {Q:Exit→Act→World→Prop}
theorem Mc(x:Operand){q:Nat}(ho:op.op= .fieldAddr 41 x 0)(hx:a.eval x= .pointer (some ⟨q,0,none⟩)):(execOp a.eval op).run Tryz.prog w= .ok (.value (.pointer (some ⟨q,0,none⟩))) w:=by
 unfold execOp
 simp only[ho,hx]
 go_simp
theorem Md(x:Operand){q:Nat}(ho:op.op= .fieldAddr 41 x 1)(hx:a.eval x= .pointer (some ⟨q,0,none⟩)):(execOp a.eval op).run Tryz.prog w= .ok (.value (.pointer (some ⟨q,1,none⟩))) w:=by
 unfold execOp
 simp only[ho,hx]
 go_simp
theorem Me(x:Operand){q:Nat}(ho:op.op= .fieldAddr 41 x 2)(hx:a.eval x= .pointer (some ⟨q,0,none⟩)):(execOp a.eval op).run Tryz.prog w= .ok (.value (.pointer (some ⟨q,2,none⟩))) w:=by
 unfold execOp
 simp only[ho,hx]
 go_simp
theorem MB(x:Operand){q:Nat}(ho:op.op= .fieldAddr 41 x 3)(hx:a.eval x= .pointer (some ⟨q,0,none⟩)):(execOp a.eval op).run Tryz.prog w= .ok (.value (.pointer (some ⟨q,3,none⟩))) w:=by
 unfold execOp
 simp only[ho,hx]
 go_simp
theorem MC(x:Operand){q:Nat}(ho:op.op= .fieldAddr 41 x 4)(hx:a.eval x= .pointer (some ⟨q,0,none⟩)):(execOp a.eval op).run Tryz.prog w= .ok (.value (.pointer (some ⟨q,4,none⟩))) w:=by
 unfold execOp
 simp only[ho,hx]
 go_simp
theorem MF(x:Operand){q:Nat}(ho:op.op= .fieldAddr 41 x 5)(hx:a.eval x= .pointer (some ⟨q,0,none⟩)):(execOp a.eval op).run Tryz.prog w= .ok (.value (.pointer (some ⟨q,5,none⟩))) w:=by
 unfold execOp
 simp only[ho,hx]
 go_simp
theorem MG(x:Operand){q:Nat}(ho:op.op= .fieldAddr 41 x 6)(hx:a.eval x= .pointer (some ⟨q,0,none⟩)):(execOp a.eval op).run Tryz.prog w= .ok (.value (.pointer (some ⟨q,6,none⟩))) w:=by
 unfold execOp
 simp only[ho,hx]
 go_simp
theorem MH(x:Operand){q:Nat}(ho:op.op= .fieldAddr 41 x 7)(hx:a.eval x= .pointer (some ⟨q,0,none⟩)):(execOp a.eval op).run Tryz.prog w= .ok (.value (.pointer (some ⟨q,7,none⟩))) w:=by
 unfold execOp
 simp only[ho,hx]
 go_simp
theorem MI(x:Operand){q:Nat}(ho:op.op= .fieldAddr 41 x 8)(hx:a.eval x= .pointer (some ⟨q,0,none⟩)):(execOp a.eval op).run Tryz.prog w= .ok (.value (.pointer (some ⟨q,8,none⟩))) w:=by
 unfold execOp
 simp only[ho,hx]
 go_simp
theorem MJ(x:Operand){q:Nat}(ho:op.op= .fieldAddr 41 x 9)(hx:a.eval x= .pointer (some ⟨q,0,none⟩)):(execOp a.eval op).run Tryz.prog w= .ok (.value (.pointer (some ⟨q,9,none⟩))) w:=by
 unfold execOp
 simp only[ho,hx]
 go_simp
theorem G5(x:Operand){q:Nat}(ho:op.op= .fieldAddr 41 x 10)(hx:a.eval x= .pointer (some ⟨q,0,none⟩)):(execOp a.eval op).run Tryz.prog w= .ok (.value (.pointer (some ⟨q,10,none⟩))) w:=by
 unfold execOp
 simp only[ho,hx]
 go_simp
theorem G6(x:Operand){q:Nat}(ho:op.op= .fieldAddr 41 x 11)(hx:a.eval x= .pointer (some ⟨q,0,none⟩)):(execOp a.eval op).run Tryz.prog w= .ok (.value (.pointer (some ⟨q,11,none⟩))) w:=by
 unfold execOp
 simp only[ho,hx]
 go_simp
theorem G7(x:Operand){q:Nat}(ho:op.op= .fieldAddr 41 x 12)(hx:a.eval x= .pointer (some ⟨q,0,none⟩)):(execOp a.eval op).run Tryz.prog w= .ok (.value (.pointer (some ⟨q,12,none⟩))) w:=by
 unfold execOp
 simp only[ho,hx]
 go_simp
theorem G8(x:Operand){q:Nat}(ho:op.op= .fieldAddr 41 x 13)(hx:a.eval x= .pointer (some ⟨q,0,none⟩)):(execOp a.eval op).run Tryz.prog w= .ok (.value (.pointer (some ⟨q,13,none⟩))) w:=by
 unfold execOp
 simp only[ho,hx]
 go_simp
theorem G9(x:Operand){q:Nat}(ho:op.op= .fieldAddr 41 x 14)(hx:a.eval x= .pointer (some ⟨q,0,none⟩)):(execOp a.eval op).run Tryz.prog w= .ok (.value (.pointer (some ⟨q,16,none⟩))) w:=by
 unfold execOp
 simp only[ho,hx]
 go_simp
theorem G_(x:Operand){q:Nat}(ho:op.op= .fieldAddr 41 x 15)(hx:a.eval x= .pointer (some ⟨q,0,none⟩)):(execOp a.eval op).run Tryz.prog w= .ok (.value (.pointer (some ⟨q,17,none⟩))) w:=by
 unfold execOp
 simp only[ho,hx]
 go_simp
theorem He(x:Operand){q:Nat}(ho:op.op= .fieldAddr 41 x 16)(hx:a.eval x= .pointer (some ⟨q,0,none⟩)):(execOp a.eval op).run Tryz.prog w= .ok (.value (.pointer (some ⟨q,18,none⟩))) w:=by
 unfold execOp
 simp only[ho,hx]
 go_simp
theorem Hf(x:Operand){q:Nat}(ho:op.op= .fieldAddr 41 x 17)(hx:a.eval x= .pointer (some ⟨q,0,none⟩)):(execOp a.eval op).run Tryz.prog w= .ok (.value (.pointer (some ⟨q,19,none⟩))) w:=by
 unfold execOp
 simp only[ho,hx]
 go_simp
theorem Hg(x:Operand){q:Nat}(ho:op.op= .fieldAddr 41 x 18)(hx:a.eval x= .pointer (some ⟨q,0,none⟩)):(execOp a.eval op).run Tryz.prog w= .ok (.value (.pointer (some ⟨q,20,none⟩))) w:=by
 unfold execOp
 simp only[ho,hx]
 go_simp
theorem Hl(x:Operand){q:Nat}(ho:op.op= .fieldAddr 41 x 19)(hx:a.eval x= .pointer (some ⟨q,0,none⟩)):(execOp a.eval op).run Tryz.prog w= .ok (.value (.pointer (some ⟨q,21,none⟩))) w:=by
 unfold execOp
 simp only[ho,hx]
 go_simp
theorem Ho(x:Operand){q:Nat}(ho:op.op= .fieldAddr 41 x 20)(hx:a.eval x= .pointer (some ⟨q,0,none⟩)):(execOp a.eval op).run Tryz.prog w= .ok (.value (.pointer (some ⟨q,22,none⟩))) w:=by
 unfold execOp
 simp only[ho,hx]
 go_simp
theorem Hq(x:Operand){q:Nat}(ho:op.op= .fieldAddr 41 x 21)(hx:a.eval x= .pointer (some ⟨q,0,none⟩)):(execOp a.eval op).run Tryz.prog w= .ok (.value (.pointer (some ⟨q,23,none⟩))) w:=by
 unfold execOp
 simp only[ho,hx]
 go_simp
theorem DT(x:Operand){q i:Nat}{v:Int}(ho:op.op= .load 30 x)(hx:a.eval x= .pointer (some ⟨q,i,none⟩))(hc:w.cell? ⟨q,i,none⟩=some (.int .u8 v)):(execOp a.eval op).run Tryz.prog w= .ok (.value (.int .u8 v)) w:=by
 unfold execOp
 simp only[ho,hx]
 go_simp
theorem MK(x y:Operand){i j:Int}(ho:op.op= .binOp .neq 30 x y 30)(hx:a.eval x= .int .u8 i)(hy:a.eval y= .int .u8 j):(execOp a.eval op).run Tryz.prog w= .ok (.value (.bool (i != j))) w:=by
 unfold execOp
 simp only[ho,hx,hy]
 go_simp
theorem u_(x:Operand){q i:Nat}{v:Int}(ho:op.op= .load 31 x)(hx:a.eval x= .pointer (some ⟨q,i,none⟩))(hc:w.cell? ⟨q,i,none⟩=some (.int .u16 v)):(execOp a.eval op).run Tryz.prog w= .ok (.value (.int .u16 v)) w:=by
 unfold execOp
 simp only[ho,hx]
 go_simp
theorem Hr(x y:Operand){i j:Int}(ho:op.op= .binOp .neq 31 x y 31)(hx:a.eval x= .int .u16 i)(hy:a.eval y= .int .u16 j):(execOp a.eval op).run Tryz.prog w= .ok (.value (.bool (i != j))) w:=by
 unfold execOp
 simp only[ho,hx,hy]
 go_simp
theorem jE(x:Operand){q i:Nat}{v:Int}(ho:op.op= .load 32 x)(hx:a.eval x= .pointer (some ⟨q,i,none⟩))(hc:w.cell? ⟨q,i,none⟩=some (.int .u32 v)):(execOp a.eval op).run Tryz.prog w= .ok (.value (.int .u32 v)) w:=by
 unfold execOp
 simp only[ho,hx]
 go_simp
theorem oG(x y:Operand){i j:Int}(ho:op.op= .binOp .neq 32 x y 32)(hx:a.eval x= .int .u32 i)(hy:a.eval y= .int .u32 j):(execOp a.eval op).run Tryz.prog w= .ok (.value (.bool (i != j))) w:=by
 unfold execOp
 simp only[ho,hx,hy]
 go_simp
theorem ML(x:Operand){q i:Nat}{v:Int}(ho:op.op= .load 5 x)(hx:a.eval x= .pointer (some ⟨q,i,none⟩))(hc:w.cell? ⟨q,i,none⟩=some (.int .u8 v)):(execOp a.eval op).run Tryz.prog w= .ok (.value (.int .u8 v)) w:=by
 unfold execOp
 simp only[ho,hx]
 go_simp
theorem QW(x y:Operand){i j:Int}(ho:op.op= .binOp .neq 5 x y 5)(hx:a.eval x= .int .u8 i)(hy:a.eval y= .int .u8 j):(execOp a.eval op).run Tryz.prog w= .ok (.value (.bool (i != j))) w:=by
 unfold execOp
 simp only[ho,hx,hy]
 go_simp
theorem Ht(x:Operand){q i:Nat}{v:Int}(ho:op.op= .load 35 x)(hx:a.eval x= .pointer (some ⟨q,i,none⟩))(hc:w.cell? ⟨q,i,none⟩=some (.int .u64 v)):(execOp a.eval op).run Tryz.prog w= .ok (.value (.int .u64 v)) w:=by
 unfold execOp
 simp only[ho,hx]
 go_simp
theorem OJ(x y:Operand){i j:Int}(ho:op.op= .binOp .neq 35 x y 35)(hx:a.eval x= .int .u64 i)(hy:a.eval y= .int .u64 j):(execOp a.eval op).run Tryz.prog w= .ok (.value (.bool (i != j))) w:=by
 unfold execOp
 simp only[ho,hx,hy]
 go_simp
theorem Hu(x y:Operand){i j:Int}(ho:op.op= .binOp .neq 3 x y 3)(hx:a.eval x= .int .i64 i)(hy:a.eval y= .int .i64 j):(execOp a.eval op).run Tryz.prog w= .ok (.value (.bool (i != j))) w:=by
 unfold execOp
 simp only[ho,hx,hy]
 go_simp
theorem kW(x:Operand){q i:Nat}{v:ByteArray}(ho:op.op= .load 9 x)(hx:a.eval x= .pointer (some ⟨q,i,none⟩))(hc:w.cell? ⟨q,i,none⟩=some (.string v)):(execOp a.eval op).run Tryz.prog w= .ok (.value (.string v)) w:=by
 unfold execOp
 simp only[ho,hx]
 go_simp
theorem qj(x y:Operand){i j:ByteArray}(ho:op.op= .binOp .neq 9 x y 9)(hx:a.eval x= .string i)(hy:a.eval y= .string j):(execOp a.eval op).run Tryz.prog w= .ok (.value (.bool (!(i.toList==j.toList)))) w:=by
 unfold execOp
 simp only[ho,hx,hy]
 go_simp
theorem zK(x:Operand){q i:Nat}{A:Option Addr}{n c:Nat}(ho:op.op= .load 33 x)(hx:a.eval x= .pointer (some ⟨q,i,none⟩))(hc:w.cell? ⟨q,i,none⟩=some (.slice A n c)):(execOp a.eval op).run Tryz.prog w= .ok (.value (.slice A n c)) w:=by
 unfold execOp
 simp only[ho,hx]
 go_simp
theorem DU(x:Operand){q i:Nat}{A:Option Addr}{n c:Nat}(ho:op.op= .load 34 x)(hx:a.eval x= .pointer (some ⟨q,i,none⟩))(hc:w.cell? ⟨q,i,none⟩=some (.slice A n c)):(execOp a.eval op).run Tryz.prog w= .ok (.value (.slice A n c)) w:=by
 unfold execOp
 simp only[ho,hx]
 go_simp
theorem DV(x:Operand){q i:Nat}{A:Option Addr}{n c:Nat}(ho:op.op= .load 22 x)(hx:a.eval x= .pointer (some ⟨q,i,none⟩))(hc:w.cell? ⟨q,i,none⟩=some (.slice A n c)):(execOp a.eval op).run Tryz.prog w= .ok (.value (.slice A n c)) w:=by
 unfold execOp
 simp only[ho,hx]
 go_simp
theorem Hw(x:Operand){B:Nat}{v:Value}{l:List UInt8}(ho:op.op= .convert 22 9 x)(hx:a.eval x=v)(hv:Bys w B v l):(execOp a.eval op).run Tryz.prog w= .ok (.value (.string (ofL l))) w:=by
 unfold execOp
 simp only[ho,hx]
 rw[Sem.run_bind,jH hv]
 rfl
end
def xQ(a b:Qd):Bool:=(a.kind:Int)==b.kind&&((a.vers:Int)==b.vers&&(a.path:Int)==b.path)
def Hy(a b:Sta):Bool:=(a.type:Int)==b.type&&((a.dev:Int)==b.dev&&(xQ a.qid b.qid&&((a.mode:Int)==b.mode&&((a.atime:Int)==b.atime&&((a.mtime:Int)==b.mtime&&((a.length:Int)==b.length&&(a.name.toList==b.name.toList&&(a.uid.toList==b.uid.toList&&(a.gid.toList==b.gid.toList&&a.fE.toList==b.fE.toList)))))))))
theorem QX{a b:Nat}:((a:Int)==(b:Int))=true↔a=b:=by
 rw[beq_iff_eq]
 omega
theorem tC{a b:Qd}:xQ a b=true↔a=b:=by
 obtain⟨a0,a1,a2⟩:=a
 obtain⟨b0,b1,b2⟩:=b
 unfold xQ
 simp only[QX,Bool.and_eq_true,Qd.mk.injEq]
theorem Js{a b:ByteArray}:(a.toList==b.toList)=true↔a=b:=by
 rw[Nv,decide_eq_true_iff]
theorem zL{a b:Sta}:Hy a b=true↔a=b:=by
 obtain⟨a0,a1,a2,a3,a4,a5,a6,a7,a8,a9,a10⟩:=a
 obtain⟨b0,b1,b2,b3,b4,b5,b6,b7,b8,b9,b10⟩:=b
 unfold Hy
 simp only[QX,Js,tC,Bool.and_eq_true,Sta.mk.injEq]
theorem pR{α:Type} [BEq α] [LawfulBEq α] {x y:α} [Decidable (x=y)] {c:Bool}{X:Result Bool}{w:World}(h:X= .ok c w):(if x=y then X else .ok false w)= .ok (x==y&&c) w:=by
 by_cases e:x=y
 ·subst e;simp[h]
 ·simp[e]
theorem Uh{b c:Bool}{X:Result Bool}{w:World}(h:X= .ok c w):(if b=false then .ok false w else X)= .ok (b&&c) w:=by
 cases b<;>simp[h]
theorem xR(n:Nat)(w:World)(a b:Qd):(Op.equalIn (n+2) 37 (.agg (nU a).toArray) (.agg (nU b).toArray)).run Tryz.prog w= .ok (xQ a b) w:=by
 have hp:Tryz.prog.stoodInHeld 37=false:=by kernel_rfl
 have hu:Tryz.prog.underlying 37=some (.struct (Tryz.prog.fieldsOf 37)):=by kernel_rfl
 rw[run_equalIn_agg w (n+1) 37 _ _ hu hp]
 have e5:∀(w:World) (a b:Int),(Op.equalIn (n+1) 35 (.int .u64 a) (.int .u64 b)).run Tryz.prog w= .ok (a==b) w:=fun w a b=>run_equalIn_int w n _ _ _ a b Tryz.underlying35
 have e6:∀(w:World) (a b:Int),(Op.equalIn (n+1) 32 (.int .u32 a) (.int .u32 b)).run Tryz.prog w= .ok (a==b) w:=fun w a b=>run_equalIn_int w n _ _ _ a b Tryz.underlying32
 have e7:∀(w:World) (a b:Int),(Op.equalIn (n+1) 5 (.int .u8 a) (.int .u8 b)).run Tryz.prog w= .ok (a==b) w:=fun w a b=>run_equalIn_int w n _ _ _ a b Tryz.underlying5
 obtain⟨a0,a1,a2⟩:=a
 obtain⟨b0,b1,b2⟩:=b
 unfold xQ nU
 dsimp only
 generalize(a0:Int)=x0
 generalize(a1:Int)=x1
 generalize(a2:Int)=x2
 generalize(b0:Int)=y0
 generalize(b1:Int)=y1
 generalize(b2:Int)=y2
 simp only[Program.fieldsOf,Tryz.underlying37,Op.eqFields]
 simp[part,e5,e6,e7,Result.andThen_ok, -ite_eq_right_iff]
 refine pR (pR ?_)
 by_cases h:x2=y2<;>simp[h]
theorem FT(w:World)(a b:Qd)(x y:Operand):(do eqGuard .neq 37 x y (.agg (nU a).toArray) (.agg (nU b).toArray);binOp .neq 37 (.agg (nU a).toArray) (.agg (nU b).toArray):Sem Value).run Tryz.prog w= .ok (.bool (!xQ a b)) w:=by
 have hg:Tryz.prog.eqGuardType Tryz.prog.depth 37=false:=by kernel_rfl
 rw[Sem.run_bind,run_eqGuard_agg w .neq 37 x y _ _ hg,Result.andThen_ok,run_neq_struct,xR 9998]
 rfl
theorem FU(n:Nat)(w:World)(a b:Sta):(Op.equalIn (n+3) 39 (.agg (stL a).toArray) (.agg (stL b).toArray)).run Tryz.prog w= .ok (Hy a b) w:=by
 have hp:Tryz.prog.stoodInHeld 39=false:=by kernel_rfl
 have hu:Tryz.prog.underlying 39=some (.struct (Tryz.prog.fieldsOf 39)):=by kernel_rfl
 rw[run_equalIn_agg w (n+2) 39 _ _ hu hp]
 have e1:∀(w:World) (a b:Int),(Op.equalIn (n+2) 35 (.int .u64 a) (.int .u64 b)).run Tryz.prog w= .ok (a==b) w:=fun w a b=>run_equalIn_int w (n+1) _ _ _ a b Tryz.underlying35
 have e2:∀(w:World) (a b:Int),(Op.equalIn (n+2) 32 (.int .u32 a) (.int .u32 b)).run Tryz.prog w= .ok (a==b) w:=fun w a b=>run_equalIn_int w (n+1) _ _ _ a b Tryz.underlying32
 have e3:∀(w:World) (a b:Int),(Op.equalIn (n+2) 31 (.int .u16 a) (.int .u16 b)).run Tryz.prog w= .ok (a==b) w:=fun w a b=>run_equalIn_int w (n+1) _ _ _ a b Tryz.underlying31
 have e4:∀(w:World) (a b:ByteArray),(Op.equalIn (n+2) 9 (.string a) (.string b)).run Tryz.prog w= .ok (a.toList==b.toList) w:=fun w a b=>run_equalIn_string w (n+1) _ a b Tryz.underlying9
 have e8:∀(w:World),(Op.equalIn (n+2) 37 (.agg #[.int .u8 (a.qid.kind:Int),.int .u32 (a.qid.vers:Int),.int .u64 (a.qid.path:Int)]) (.agg #[.int .u8 (b.qid.kind:Int),.int .u32 (b.qid.vers:Int),.int .u64 (b.qid.path:Int)])).run Tryz.prog w= .ok (xQ a.qid b.qid) w:=fun w=>xR n w a.qid b.qid
 obtain⟨a0,a1,aq,a3,a4,a5,a6,a7,a8,a9,a10⟩:=a
 obtain⟨b0,b1,bq,b3,b4,b5,b6,b7,b8,b9,b10⟩:=b
 unfold Hy stL
 dsimp only at e8⊢
 generalize xQ aq bq=qe at e8⊢
 generalize(aq.kind:Int)=x0 at e8⊢
 generalize(aq.vers:Int)=x1 at e8⊢
 generalize(aq.path:Int)=x2 at e8⊢
 generalize(bq.kind:Int)=y0 at e8⊢
 generalize(bq.vers:Int)=y1 at e8⊢
 generalize(bq.path:Int)=y2 at e8⊢
 generalize(a0:Int)=u0
 generalize(b0:Int)=v0
 generalize(a1:Int)=u1
 generalize(b1:Int)=v1
 generalize(a3:Int)=u3
 generalize(b3:Int)=v3
 generalize(a4:Int)=u4
 generalize(b4:Int)=v4
 generalize(a5:Int)=u5
 generalize(b5:Int)=v5
 generalize(a6:Int)=u6
 generalize(b6:Int)=v6
 simp only[Program.fieldsOf,Tryz.underlying39,Op.eqFields]
 simp[part,e1,e2,e3,e4,e8,Result.andThen_ok, -ite_eq_right_iff]
 refine pR (pR (Uh (pR (pR (pR (pR (pR (pR (pR ?_)))))))))
 by_cases h:a10.toList=b10.toList<;>simp[h]
theorem FV(w:World)(a b:Sta)(x y:Operand):(do eqGuard .neq 39 x y (.agg (stL a).toArray) (.agg (stL b).toArray);binOp .neq 39 (.agg (stL a).toArray) (.agg (stL b).toArray):Sem Value).run Tryz.prog w= .ok (.bool (!Hy a b)) w:=by
 have hg:Tryz.prog.eqGuardType Tryz.prog.depth 39=false:=by kernel_rfl
 rw[Sem.run_bind,run_eqGuard_agg w .neq 39 x y _ _ hg,Result.andThen_ok,run_neq_struct,FU 9997]
 rfl
section
variable {ops:Array Oper} {rest:List Oper} {op:Oper} {a:Act} {w:World} {Q:Exit→Act→World→Prop}
theorem tH:(Tryz.prog.info? 37).map (·.size)=some 3:=by kernel_rfl
theorem Hz(x:Operand){q i:Nat}{t:TypeId}{cs:Array Value}(d:Qd)(hk:Blk w q t cs)(hl:(cs.toList.drop i).take 3=nU d)(ho:op.op= .load 37 x)(hx:a.eval x= .pointer (some ⟨q,i,none⟩)):(execOp a.eval op).run Tryz.prog w= .ok (.value (.agg (nU d).toArray)) w:=by
 unfold execOp
 simp only[ho,hx,Instr.loadAt,Instr.sureAddr,Sem.run_bind,Sem.run_pure,Result.andThen_ok,run_loadVar_mid w q i 37 (nU d) _ (Blk.range hk i _ hl) Tryz.underlying37 rfl tH]
theorem H7(x:Operand){q i:Nat}{t:TypeId}{cs:Array Value}(d:Sta)(hk:Blk w q t cs)(hl:(cs.toList.drop i).take 13=stL d)(ho:op.op= .load 39 x)(hx:a.eval x= .pointer (some ⟨q,i,none⟩)):(execOp a.eval op).run Tryz.prog w= .ok (.value (.agg (stL d).toArray)) w:=by
 unfold execOp
 simp only[ho,hx,Instr.loadAt,Instr.sureAddr,Sem.run_bind,Sem.run_pure,Result.andThen_ok,run_loadVar_mid w q i 39 (stL d) _ (Blk.range hk i _ hl) Tryz.underlying39 rfl bP]
theorem OM(x y:Operand){i j:Qd}(ho:op.op= .binOp .neq 37 x y 37)(hx:a.eval x= .agg (nU i).toArray)(hy:a.eval y= .agg (nU j).toArray):(execOp a.eval op).run Tryz.prog w= .ok (.value (.bool (!xQ i j))) w:=by
 unfold execOp
 simp only[ho,hx,hy]
 rw[Sem.run_bind,FT]
 rfl
theorem OO(x y:Operand){i j:Sta}(ho:op.op= .binOp .neq 39 x y 39)(hx:a.eval x= .agg (stL i).toArray)(hy:a.eval y= .agg (stL j).toArray):(execOp a.eval op).run Tryz.prog w= .ok (.value (.bool (!Hy i j))) w:=by
 unfold execOp
 simp only[ho,hx,hy]
 rw[Sem.run_bind,FV]
 rfl
end
def qK(a b:Mg)(w:World)(e:Ending)(w':World):Prop:=(∃r:Bool,e= .returned (.bool r)∧(r=true↔a=b))∧Below w.heap.size w w'
theorem qK.no{a b:Mg}{w w':World}(h:a≠b)(hb:Below w.heap.size w w'):qK a b w (.returned (.bool false)) w':=⟨⟨false,rfl,by simp[h]⟩,hb⟩
theorem OQ{a b:List UInt8}(h:ofL a=ofL b):a=b:=by
 have:=congrArg (fun x:ByteArray=>x.data.toList) h
 simpa [ofL]using this
theorem MN{a b:Mg}{k1:Bool}{k2:Bool}{k3:Bool}{k4:Bool}{k5:Bool}{k6:Bool}{k7:Bool}{k8:Bool}(hk1:(((a.kind:Int) != (b.kind:Int))||((a.tag:Int) != (b.tag:Int)))=k1)(hk2:(k1||((a.bI:Int) != (b.bI:Int)))=k2)(hk3:(k2||(!(a.version.toList==b.version.toList)))=k3)(hk4:(k3||((a.dB:Int) != (b.dB:Int)))=k4)(hk5:(k4||(!(a.uname.toList==b.uname.toList)))=k5)(hk6:(k5||(!(a.bF.toList==b.bF.toList)))=k6)(hk7:(k6||(!(a.bH.toList==b.bH.toList)))=k7)(hk8:(k7||((a.aT:Int) != (b.aT:Int)))=k8)(h:k8=true):a≠b:=by
 subst hk1
 subst hk2
 subst hk3
 subst hk4
 subst hk5
 subst hk6
 subst hk7
 subst hk8
 rintro rfl
 simp at h
theorem MO{a b:Mg}{l1:Bool}{l2:Bool}{l3:Bool}{l4:Bool}{l5:Bool}{l6:Bool}{l7:Bool}{l8:Bool}{l9:Bool}(hl1:(((a.fid:Int) != (b.fid:Int))||((a.aU:Int) != (b.aU:Int)))=l1)(hl2:(l1||(!xQ a.qid b.qid))=l2)(hl3:(l2||((a.mode:Int) != (b.mode:Int)))=l3)(hl4:(l3||((a.aQ:Int) != (b.aQ:Int)))=l4)(hl5:(l4||(!(a.name.toList==b.name.toList)))=l5)(hl6:(l5||((a.perm:Int) != (b.perm:Int)))=l6)(hl7:(l6||((a.offset:Int) != (b.offset:Int)))=l7)(hl8:(l7||((a.count:Int) != (b.count:Int)))=l8)(hl9:(l8||(!Hy a.stat b.stat))=l9)(h:l9=true):a≠b:=by
 subst hl1
 subst hl2
 subst hl3
 subst hl4
 subst hl5
 subst hl6
 subst hl7
 subst hl8
 subst hl9
 rintro rfl
 simp[tC.2,zL.2]at h
theorem MP{a b:Mg}{m1:Bool}{m2:Bool}(hm1:(((a.names.length:Int) != (b.names.length:Int))||((a.aV.length:Int) != (b.aV.length:Int)))=m1)(hm2:(m1||(!((ofL a.data).toList==(ofL b.data).toList)))=m2)(h:m2=true):a≠b:=by
 subst hm1
 subst hm2
 rintro rfl
 simp at h
theorem QY{a b:Nat}:((a:Int) != (b:Int))=false↔a=b:=by
 rw[bne,Bool.not_eq_false',QX]
theorem Jt{a b:Mg}{m1:Bool}{m2:Bool}(hm1:(((a.names.length:Int) != (b.names.length:Int))||((a.aV.length:Int) != (b.aV.length:Int)))=m1)(hm2:(m1||(!((ofL a.data).toList==(ofL b.data).toList)))=m2)(h:m2=false):a.names.length=b.names.length∧a.aV.length=b.aV.length∧a.data=b.data:=by
 subst hm1
 subst hm2
 simp only[Bool.or_eq_false_iff,Bool.not_eq_false',Js,QY]at h
 exact⟨h.1.1,h.1.2,OQ h.2⟩
def BG(a b:Mg):Prop:=a.kind=b.kind∧a.tag=b.tag∧a.bI=b.bI∧a.version=b.version∧a.dB=b.dB∧a.uname=b.uname∧a.bF=b.bF∧a.bH=b.bH∧a.aT=b.aT
def BH(a b:Mg):Prop:=a.fid=b.fid∧a.aU=b.aU∧a.qid=b.qid∧a.mode=b.mode∧a.aQ=b.aQ∧a.name=b.name∧a.perm=b.perm∧a.offset=b.offset∧a.count=b.count∧a.stat=b.stat
theorem Ju{a b:Mg}{k1:Bool}{k2:Bool}{k3:Bool}{k4:Bool}{k5:Bool}{k6:Bool}{k7:Bool}{k8:Bool}(hk1:(((a.kind:Int) != (b.kind:Int))||((a.tag:Int) != (b.tag:Int)))=k1)(hk2:(k1||((a.bI:Int) != (b.bI:Int)))=k2)(hk3:(k2||(!(a.version.toList==b.version.toList)))=k3)(hk4:(k3||((a.dB:Int) != (b.dB:Int)))=k4)(hk5:(k4||(!(a.uname.toList==b.uname.toList)))=k5)(hk6:(k5||(!(a.bF.toList==b.bF.toList)))=k6)(hk7:(k6||(!(a.bH.toList==b.bH.toList)))=k7)(hk8:(k7||((a.aT:Int) != (b.aT:Int)))=k8)(h:k8=false):BG a b:=by
 subst hk1
 subst hk2
 subst hk3
 subst hk4
 subst hk5
 subst hk6
 subst hk7
 subst hk8
 simp only[Bool.or_eq_false_iff,Bool.not_eq_false',Js,QY]at h
 unfold BG
 simp[h]
theorem Jv{a b:Mg}{l1:Bool}{l2:Bool}{l3:Bool}{l4:Bool}{l5:Bool}{l6:Bool}{l7:Bool}{l8:Bool}{l9:Bool}(hl1:(((a.fid:Int) != (b.fid:Int))||((a.aU:Int) != (b.aU:Int)))=l1)(hl2:(l1||(!xQ a.qid b.qid))=l2)(hl3:(l2||((a.mode:Int) != (b.mode:Int)))=l3)(hl4:(l3||((a.aQ:Int) != (b.aQ:Int)))=l4)(hl5:(l4||(!(a.name.toList==b.name.toList)))=l5)(hl6:(l5||((a.perm:Int) != (b.perm:Int)))=l6)(hl7:(l6||((a.offset:Int) != (b.offset:Int)))=l7)(hl8:(l7||((a.count:Int) != (b.count:Int)))=l8)(hl9:(l8||(!Hy a.stat b.stat))=l9)(h:l9=false):BH a b:=by
 subst hl1
 subst hl2
 subst hl3
 subst hl4
 subst hl5
 subst hl6
 subst hl7
 subst hl8
 subst hl9
 simp only[Bool.or_eq_false_iff,Bool.not_eq_false',Js,QY,tC,zL]at h
 unfold BH
 simp[h]
theorem MQ{a b:Mg}(h1:BG a b)(h2:BH a b)(hd:a.data=b.data)(hn:a.names=b.names)(hq:a.aV=b.aV):a=b:=by
 obtain⟨a0,a1,a2,a3,a4,a5,a6,a7,a8,a9,a10,a11,a12,a13,a14,a15,a16,a17,a18,a19,a20,a21⟩:=a
 obtain⟨b0,b1,b2,b3,b4,b5,b6,b7,b8,b9,b10,b11,b12,b13,b14,b15,b16,b17,b18,b19,b20,b21⟩:=b
 unfold BG at h1
 unfold BH at h2
 dsimp only at h1 h2 hd hn hq
 simp only[Mg.mk.injEq]
 simp[h1,h2,hd,hn,hq]
theorem DW{α:Type}{l m:List α}(hl:l.length=m.length)(h:∀j,j<l.length→l[j]? =m[j]?):l=m:=by
 apply List.ext_getElem?
 intro j
 by_cases hj:j<l.length
 ·exact h j hj
 ·rw[List.getElem?_eq_none (by omega),List.getElem?_eq_none (by omega)]
set_option maxRecDepth 100000 in
set_option maxHeartbeats 6400000 in
theorem FW(a b:Mg)(an aq ad bn bq bd:Value)(w:World)(hla:Lists w w.heap.size a an aq ad)(hlb:Lists w w.heap.size b bn bq bd):
  Calls Tryz.prog 15 #[iM a an aq ad,iM b bn bq bd] w (qK a b w):=by
 have hup:Below w.heap.size w ((w.alloc (.cells (aF a an aq ad).toArray 41)).alloc (.cells (aF b bn bq bd).toArray 41)):=((Below.refl _ _).alloc (Nat.le_refl _) _).alloc (by rw[World.size_alloc];omega) _
 have LA:=hid (hla.below hup)
 have LB:=hid (hlb.below hup)
 have HA:=hid (show aK ((w.alloc (.cells (aF a an aq ad).toArray 41)).alloc (.cells (aF b bn bq bd).toArray 41)) w.heap.size a an aq ad from(Blk.new w _ _).alloc _)
 have HB:=hid (show aK ((w.alloc (.cells (aF a an aq ad).toArray 41)).alloc (.cells (aF b bn bq bd).toArray 41)) (w.alloc (.cells (aF a an aq ad).toArray 41)).heap.size b bn bq bd from Blk.new _ _ _)
 have HUP:=hid hup
 obtain⟨anA,anc,rfl,hn1,hn2, -⟩:=hla.n
 obtain⟨aqA,aqc,rfl,hq1,hq2, -⟩:=hla.q
 have hn3:a.names.length≤9223372036854775807:=by unfold maxLen at hn2;omega
 have hq3:a.aV.length≤9223372036854775807:=by unfold maxLen at hq2;omega
 clear hn1 hn2 hq1 hq2
 obtain⟨adA,adc,rfl, -⟩:=hla.d
 obtain⟨bnA,bnc,rfl, -⟩:=hlb.n
 obtain⟨bqA,bqc,rfl, -⟩:=hlb.q
 obtain⟨bdA,bdc,rfl, -⟩:=hlb.d
 clear hla hlb hup
 rw[World.size_alloc]at HB
 go_enter Tryz.func15,Tryz.ntmps15
 go_upto_region 1 with(fail)
 generalize(w.alloc (.cells (aF a (.slice anA a.names.length anc) (.slice aqA a.aV.length aqc) (.slice adA a.data.length adc)).toArray 41)).alloc (.cells (aF b (.slice bnA b.names.length bnc) (.slice bqA b.aV.length bqc) (.slice bdA b.data.length bdc)).toArray 41)=w2 at HA HB LA LB HUP⊢
 generalize hza:w.heap.size=za at HA HB LA LB HUP⊢
 have HZA:=hid hza;clear hza
 have HZ2:=hid (show za≤w2.heap.size from Nat.le_of_lt (Blk.lt HA.out))
 generalize hzb:za+1=zb at HB⊢
 have HZB:=hid hzb;clear hzb
 refine wp_region_lit ?_
 refine ak 7 (v:= .pointer (some ⟨za,0,none⟩)) rfl (by rfl) (Mc _ rfl (rfl)) ?_
 simp only[ah]
 refine ak 8 (v:= .int .u8 (a.kind:Int)) rfl (by rfl) (DT _ rfl (rfl) (Blk.cell HA.out 0)) ?_
 simp only[ah]
 refine ak 9 (v:= .pointer (some ⟨zb,0,none⟩)) rfl (by rfl) (Mc _ rfl (rfl)) ?_
 simp only[ah]
 refine ak 10 (v:= .int .u8 (b.kind:Int)) rfl (by rfl) (DT _ rfl (rfl) (Blk.cell HB.out 0)) ?_
 simp only[ah]
 refine ak 11 (v:= .bool ((a.kind:Int) != (b.kind:Int))) rfl (by rfl) (MK _ _ rfl (rfl) (rfl)) ?_
 simp only[ah]
 refine ak 12 (v:= .bool ((a.kind:Int) != (b.kind:Int))) rfl (by rfl) (dM _ rfl (rfl)) ?_
 simp only[ah]
 refine aA 13 (v:= .pointer (some ⟨za,1,none⟩)) (c:=(((a.kind:Int) != (b.kind:Int))==false)) rfl (aj false rfl rfl rfl) (fun hc=>Md _ rfl (rfl)) ?_
 simp only[ah]
 refine aA 14 (v:= .int .u16 (a.tag:Int)) (c:=(((a.kind:Int) != (b.kind:Int))==false)) rfl (aj false rfl rfl rfl) (fun hc=>u_ _ rfl ((show _=ifv _ _ from rfl).trans (aO hc)) (Blk.cell HA.out 1)) ?_
 simp only[ah]
 refine aA 15 (v:= .pointer (some ⟨zb,1,none⟩)) (c:=(((a.kind:Int) != (b.kind:Int))==false)) rfl (aj false rfl rfl rfl) (fun hc=>Md _ rfl (rfl)) ?_
 simp only[ah]
 refine aA 16 (v:= .int .u16 (b.tag:Int)) (c:=(((a.kind:Int) != (b.kind:Int))==false)) rfl (aj false rfl rfl rfl) (fun hc=>u_ _ rfl ((show _=ifv _ _ from rfl).trans (aO hc)) (Blk.cell HB.out 1)) ?_
 simp only[ah]
 refine aA 17 (v:= .bool ((a.tag:Int) != (b.tag:Int))) (c:=(((a.kind:Int) != (b.kind:Int))==false)) rfl (aj false rfl rfl rfl) (fun hc=>Hr _ _ rfl ((show _=ifv _ _ from rfl).trans (aO hc)) ((show _=ifv _ _ from rfl).trans (aO hc))) ?_
 simp only[ah]
 refine ak 18 (v:= .bool (((a.kind:Int) != (b.kind:Int))||((a.tag:Int) != (b.tag:Int)))) rfl (by rfl) (kL _ _ _ rfl (rfl) rfl rfl kM) ?_
 simp only[ah]
 generalize hk1:(((a.kind:Int) != (b.kind:Int))||((a.tag:Int) != (b.tag:Int)))=k1
 refine ak 19 (v:= .bool k1) rfl (by rfl) (dM _ rfl (rfl)) ?_
 simp only[ah]
 refine aA 20 (v:= .pointer (some ⟨za,2,none⟩)) (c:=(k1==false)) rfl (aj false rfl rfl rfl) (fun hc=>Me _ rfl (rfl)) ?_
 simp only[ah]
 refine aA 21 (v:= .int .u32 (a.bI:Int)) (c:=(k1==false)) rfl (aj false rfl rfl rfl) (fun hc=>jE _ rfl ((show _=ifv _ _ from rfl).trans (aO hc)) (Blk.cell HA.out 2)) ?_
 simp only[ah]
 refine aA 22 (v:= .pointer (some ⟨zb,2,none⟩)) (c:=(k1==false)) rfl (aj false rfl rfl rfl) (fun hc=>Me _ rfl (rfl)) ?_
 simp only[ah]
 refine aA 23 (v:= .int .u32 (b.bI:Int)) (c:=(k1==false)) rfl (aj false rfl rfl rfl) (fun hc=>jE _ rfl ((show _=ifv _ _ from rfl).trans (aO hc)) (Blk.cell HB.out 2)) ?_
 simp only[ah]
 refine aA 24 (v:= .bool ((a.bI:Int) != (b.bI:Int))) (c:=(k1==false)) rfl (aj false rfl rfl rfl) (fun hc=>oG _ _ rfl ((show _=ifv _ _ from rfl).trans (aO hc)) ((show _=ifv _ _ from rfl).trans (aO hc))) ?_
 simp only[ah]
 refine ak 25 (v:= .bool (k1||((a.bI:Int) != (b.bI:Int)))) rfl (by rfl) (kL _ _ _ rfl (rfl) rfl rfl kM) ?_
 simp only[ah]
 generalize hk2:(k1||((a.bI:Int) != (b.bI:Int)))=k2
 refine ak 26 (v:= .bool k2) rfl (by rfl) (dM _ rfl (rfl)) ?_
 simp only[ah]
 refine aA 27 (v:= .pointer (some ⟨za,3,none⟩)) (c:=(k2==false)) rfl (aj false rfl rfl rfl) (fun hc=>MB _ rfl (rfl)) ?_
 simp only[ah]
 refine aA 28 (v:= .string a.version) (c:=(k2==false)) rfl (aj false rfl rfl rfl) (fun hc=>kW _ rfl ((show _=ifv _ _ from rfl).trans (aO hc)) (Blk.cell HA.out 3)) ?_
 simp only[ah]
 refine aA 29 (v:= .pointer (some ⟨zb,3,none⟩)) (c:=(k2==false)) rfl (aj false rfl rfl rfl) (fun hc=>MB _ rfl (rfl)) ?_
 simp only[ah]
 refine aA 30 (v:= .string b.version) (c:=(k2==false)) rfl (aj false rfl rfl rfl) (fun hc=>kW _ rfl ((show _=ifv _ _ from rfl).trans (aO hc)) (Blk.cell HB.out 3)) ?_
 simp only[ah]
 refine aA 31 (v:= .bool (!(a.version.toList==b.version.toList))) (c:=(k2==false)) rfl (aj false rfl rfl rfl) (fun hc=>qj _ _ rfl ((show _=ifv _ _ from rfl).trans (aO hc)) ((show _=ifv _ _ from rfl).trans (aO hc))) ?_
 simp only[ah]
 refine ak 32 (v:= .bool (k2||(!(a.version.toList==b.version.toList)))) rfl (by rfl) (kL _ _ _ rfl (rfl) rfl rfl kM) ?_
 simp only[ah]
 generalize hk3:(k2||(!(a.version.toList==b.version.toList)))=k3
 refine ak 33 (v:= .bool k3) rfl (by rfl) (dM _ rfl (rfl)) ?_
 simp only[ah]
 refine aA 34 (v:= .pointer (some ⟨za,4,none⟩)) (c:=(k3==false)) rfl (aj false rfl rfl rfl) (fun hc=>MC _ rfl (rfl)) ?_
 simp only[ah]
 refine aA 35 (v:= .int .u32 (a.dB:Int)) (c:=(k3==false)) rfl (aj false rfl rfl rfl) (fun hc=>jE _ rfl ((show _=ifv _ _ from rfl).trans (aO hc)) (Blk.cell HA.out 4)) ?_
 simp only[ah]
 refine aA 36 (v:= .pointer (some ⟨zb,4,none⟩)) (c:=(k3==false)) rfl (aj false rfl rfl rfl) (fun hc=>MC _ rfl (rfl)) ?_
 simp only[ah]
 refine aA 37 (v:= .int .u32 (b.dB:Int)) (c:=(k3==false)) rfl (aj false rfl rfl rfl) (fun hc=>jE _ rfl ((show _=ifv _ _ from rfl).trans (aO hc)) (Blk.cell HB.out 4)) ?_
 simp only[ah]
 refine aA 38 (v:= .bool ((a.dB:Int) != (b.dB:Int))) (c:=(k3==false)) rfl (aj false rfl rfl rfl) (fun hc=>oG _ _ rfl ((show _=ifv _ _ from rfl).trans (aO hc)) ((show _=ifv _ _ from rfl).trans (aO hc))) ?_
 simp only[ah]
 refine ak 39 (v:= .bool (k3||((a.dB:Int) != (b.dB:Int)))) rfl (by rfl) (kL _ _ _ rfl (rfl) rfl rfl kM) ?_
 simp only[ah]
 generalize hk4:(k3||((a.dB:Int) != (b.dB:Int)))=k4
 refine ak 40 (v:= .bool k4) rfl (by rfl) (dM _ rfl (rfl)) ?_
 simp only[ah]
 refine aA 41 (v:= .pointer (some ⟨za,5,none⟩)) (c:=(k4==false)) rfl (aj false rfl rfl rfl) (fun hc=>MF _ rfl (rfl)) ?_
 simp only[ah]
 refine aA 42 (v:= .string a.uname) (c:=(k4==false)) rfl (aj false rfl rfl rfl) (fun hc=>kW _ rfl ((show _=ifv _ _ from rfl).trans (aO hc)) (Blk.cell HA.out 5)) ?_
 simp only[ah]
 refine aA 43 (v:= .pointer (some ⟨zb,5,none⟩)) (c:=(k4==false)) rfl (aj false rfl rfl rfl) (fun hc=>MF _ rfl (rfl)) ?_
 simp only[ah]
 refine aA 44 (v:= .string b.uname) (c:=(k4==false)) rfl (aj false rfl rfl rfl) (fun hc=>kW _ rfl ((show _=ifv _ _ from rfl).trans (aO hc)) (Blk.cell HB.out 5)) ?_
 simp only[ah]
 refine aA 45 (v:= .bool (!(a.uname.toList==b.uname.toList))) (c:=(k4==false)) rfl (aj false rfl rfl rfl) (fun hc=>qj _ _ rfl ((show _=ifv _ _ from rfl).trans (aO hc)) ((show _=ifv _ _ from rfl).trans (aO hc))) ?_
 simp only[ah]
 refine ak 46 (v:= .bool (k4||(!(a.uname.toList==b.uname.toList)))) rfl (by rfl) (kL _ _ _ rfl (rfl) rfl rfl kM) ?_
 simp only[ah]
 generalize hk5:(k4||(!(a.uname.toList==b.uname.toList)))=k5
 refine ak 47 (v:= .bool k5) rfl (by rfl) (dM _ rfl (rfl)) ?_
 simp only[ah]
 refine aA 48 (v:= .pointer (some ⟨za,6,none⟩)) (c:=(k5==false)) rfl (aj false rfl rfl rfl) (fun hc=>MG _ rfl (rfl)) ?_
 simp only[ah]
 refine aA 49 (v:= .string a.bF) (c:=(k5==false)) rfl (aj false rfl rfl rfl) (fun hc=>kW _ rfl ((show _=ifv _ _ from rfl).trans (aO hc)) (Blk.cell HA.out 6)) ?_
 simp only[ah]
 refine aA 50 (v:= .pointer (some ⟨zb,6,none⟩)) (c:=(k5==false)) rfl (aj false rfl rfl rfl) (fun hc=>MG _ rfl (rfl)) ?_
 simp only[ah]
 refine aA 51 (v:= .string b.bF) (c:=(k5==false)) rfl (aj false rfl rfl rfl) (fun hc=>kW _ rfl ((show _=ifv _ _ from rfl).trans (aO hc)) (Blk.cell HB.out 6)) ?_
 simp only[ah]
 refine aA 52 (v:= .bool (!(a.bF.toList==b.bF.toList))) (c:=(k5==false)) rfl (aj false rfl rfl rfl) (fun hc=>qj _ _ rfl ((show _=ifv _ _ from rfl).trans (aO hc)) ((show _=ifv _ _ from rfl).trans (aO hc))) ?_
 simp only[ah]
 refine ak 53 (v:= .bool (k5||(!(a.bF.toList==b.bF.toList)))) rfl (by rfl) (kL _ _ _ rfl (rfl) rfl rfl kM) ?_
 simp only[ah]
 generalize hk6:(k5||(!(a.bF.toList==b.bF.toList)))=k6
 refine ak 54 (v:= .bool k6) rfl (by rfl) (dM _ rfl (rfl)) ?_
 simp only[ah]
 refine aA 55 (v:= .pointer (some ⟨za,7,none⟩)) (c:=(k6==false)) rfl (aj false rfl rfl rfl) (fun hc=>MH _ rfl (rfl)) ?_
 simp only[ah]
 refine aA 56 (v:= .string a.bH) (c:=(k6==false)) rfl (aj false rfl rfl rfl) (fun hc=>kW _ rfl ((show _=ifv _ _ from rfl).trans (aO hc)) (Blk.cell HA.out 7)) ?_
 simp only[ah]
 refine aA 57 (v:= .pointer (some ⟨zb,7,none⟩)) (c:=(k6==false)) rfl (aj false rfl rfl rfl) (fun hc=>MH _ rfl (rfl)) ?_
 simp only[ah]
 refine aA 58 (v:= .string b.bH) (c:=(k6==false)) rfl (aj false rfl rfl rfl) (fun hc=>kW _ rfl ((show _=ifv _ _ from rfl).trans (aO hc)) (Blk.cell HB.out 7)) ?_
 simp only[ah]
 refine aA 59 (v:= .bool (!(a.bH.toList==b.bH.toList))) (c:=(k6==false)) rfl (aj false rfl rfl rfl) (fun hc=>qj _ _ rfl ((show _=ifv _ _ from rfl).trans (aO hc)) ((show _=ifv _ _ from rfl).trans (aO hc))) ?_
 simp only[ah]
 refine ak 60 (v:= .bool (k6||(!(a.bH.toList==b.bH.toList)))) rfl (by rfl) (kL _ _ _ rfl (rfl) rfl rfl kM) ?_
 simp only[ah]
 generalize hk7:(k6||(!(a.bH.toList==b.bH.toList)))=k7
 refine ak 61 (v:= .bool k7) rfl (by rfl) (dM _ rfl (rfl)) ?_
 simp only[ah]
 refine aA 62 (v:= .pointer (some ⟨za,8,none⟩)) (c:=(k7==false)) rfl (aj false rfl rfl rfl) (fun hc=>MI _ rfl (rfl)) ?_
 simp only[ah]
 refine aA 63 (v:= .int .u16 (a.aT:Int)) (c:=(k7==false)) rfl (aj false rfl rfl rfl) (fun hc=>u_ _ rfl ((show _=ifv _ _ from rfl).trans (aO hc)) (Blk.cell HA.out 8)) ?_
 simp only[ah]
 refine aA 64 (v:= .pointer (some ⟨zb,8,none⟩)) (c:=(k7==false)) rfl (aj false rfl rfl rfl) (fun hc=>MI _ rfl (rfl)) ?_
 simp only[ah]
 refine aA 65 (v:= .int .u16 (b.aT:Int)) (c:=(k7==false)) rfl (aj false rfl rfl rfl) (fun hc=>u_ _ rfl ((show _=ifv _ _ from rfl).trans (aO hc)) (Blk.cell HB.out 8)) ?_
 simp only[ah]
 refine aA 66 (v:= .bool ((a.aT:Int) != (b.aT:Int))) (c:=(k7==false)) rfl (aj false rfl rfl rfl) (fun hc=>Hr _ _ rfl ((show _=ifv _ _ from rfl).trans (aO hc)) ((show _=ifv _ _ from rfl).trans (aO hc))) ?_
 simp only[ah]
 refine ak 67 (v:= .bool (k7||((a.aT:Int) != (b.aT:Int)))) rfl (by rfl) (kL _ _ _ rfl (rfl) rfl rfl kM) ?_
 simp only[ah]
 generalize hk8:(k7||((a.aT:Int) != (b.aT:Int)))=k8
 have HX1:=hid (fun h=>MN hk1 hk2 hk3 hk4 hk5 hk6 hk7 hk8 (a:=a) (b:=b) h)
 have HY1:=hid (fun(h1:k8=false)=>Ju hk1 hk2 hk3 hk4 hk5 hk6 hk7 hk8 (a:=a) (b:=b) h1)
 clear hk1 hk2 hk3 hk4 hk5 hk6 hk7 hk8
 cases k8 with
 |true=>
  go_wp2_with fail
  refine bodyPost_ret (v:= .bool false) (by simp[results,Tryz.results15]) rfl ?_
  exact qK.no (HX1.out trivial) (by rw[HZA.out];exact HUP.out)
 |false=>
  go_upto_region 3 with(fail)
  refine wp_region_lit ?_
  refine ak 68 (v:= .pointer (some ⟨za,9,none⟩)) rfl (by rfl) (MJ _ rfl (rfl)) ?_
  simp only[ah]
  refine ak 69 (v:= .int .u32 (a.fid:Int)) rfl (by rfl) (jE _ rfl (rfl) (Blk.cell HA.out 9)) ?_
  simp only[ah]
  refine ak 70 (v:= .pointer (some ⟨zb,9,none⟩)) rfl (by rfl) (MJ _ rfl (rfl)) ?_
  simp only[ah]
  refine ak 71 (v:= .int .u32 (b.fid:Int)) rfl (by rfl) (jE _ rfl (rfl) (Blk.cell HB.out 9)) ?_
  simp only[ah]
  refine ak 72 (v:= .bool ((a.fid:Int) != (b.fid:Int))) rfl (by rfl) (oG _ _ rfl (rfl) (rfl)) ?_
  simp only[ah]
  refine ak 73 (v:= .bool ((a.fid:Int) != (b.fid:Int))) rfl (by rfl) (dM _ rfl (rfl)) ?_
  simp only[ah]
  refine aA 74 (v:= .pointer (some ⟨za,10,none⟩)) (c:=(((a.fid:Int) != (b.fid:Int))==false)) rfl (aj false rfl rfl rfl) (fun hc=>G5 _ rfl (rfl)) ?_
  simp only[ah]
  refine aA 75 (v:= .int .u32 (a.aU:Int)) (c:=(((a.fid:Int) != (b.fid:Int))==false)) rfl (aj false rfl rfl rfl) (fun hc=>jE _ rfl ((show _=ifv _ _ from rfl).trans (aO hc)) (Blk.cell HA.out 10)) ?_
  simp only[ah]
  refine aA 76 (v:= .pointer (some ⟨zb,10,none⟩)) (c:=(((a.fid:Int) != (b.fid:Int))==false)) rfl (aj false rfl rfl rfl) (fun hc=>G5 _ rfl (rfl)) ?_
  simp only[ah]
  refine aA 77 (v:= .int .u32 (b.aU:Int)) (c:=(((a.fid:Int) != (b.fid:Int))==false)) rfl (aj false rfl rfl rfl) (fun hc=>jE _ rfl ((show _=ifv _ _ from rfl).trans (aO hc)) (Blk.cell HB.out 10)) ?_
  simp only[ah]
  refine aA 78 (v:= .bool ((a.aU:Int) != (b.aU:Int))) (c:=(((a.fid:Int) != (b.fid:Int))==false)) rfl (aj false rfl rfl rfl) (fun hc=>oG _ _ rfl ((show _=ifv _ _ from rfl).trans (aO hc)) ((show _=ifv _ _ from rfl).trans (aO hc))) ?_
  simp only[ah]
  refine ak 79 (v:= .bool (((a.fid:Int) != (b.fid:Int))||((a.aU:Int) != (b.aU:Int)))) rfl (by rfl) (kL _ _ _ rfl (rfl) rfl rfl kM) ?_
  simp only[ah]
  generalize hl1:(((a.fid:Int) != (b.fid:Int))||((a.aU:Int) != (b.aU:Int)))=l1
  refine ak 80 (v:= .bool l1) rfl (by rfl) (dM _ rfl (rfl)) ?_
  simp only[ah]
  refine aA 81 (v:= .pointer (some ⟨za,13,none⟩)) (c:=(l1==false)) rfl (aj false rfl rfl rfl) (fun hc=>G8 _ rfl (rfl)) ?_
  simp only[ah]
  refine aA 82 (v:= .agg (nU a.qid).toArray) (c:=(l1==false)) rfl (aj false rfl rfl rfl) (fun hc=>Hz _ a.qid HA.out rfl rfl ((show _=ifv _ _ from rfl).trans (aO hc))) ?_
  simp only[ah]
  refine aA 83 (v:= .pointer (some ⟨zb,13,none⟩)) (c:=(l1==false)) rfl (aj false rfl rfl rfl) (fun hc=>G8 _ rfl (rfl)) ?_
  simp only[ah]
  refine aA 84 (v:= .agg (nU b.qid).toArray) (c:=(l1==false)) rfl (aj false rfl rfl rfl) (fun hc=>Hz _ b.qid HB.out rfl rfl ((show _=ifv _ _ from rfl).trans (aO hc))) ?_
  simp only[ah]
  refine aA 85 (v:= .bool (!xQ a.qid b.qid)) (c:=(l1==false)) rfl (aj false rfl rfl rfl) (fun hc=>OM _ _ rfl ((show _=ifv _ _ from rfl).trans (aO hc)) ((show _=ifv _ _ from rfl).trans (aO hc))) ?_
  simp only[ah]
  refine ak 86 (v:= .bool (l1||(!xQ a.qid b.qid))) rfl (by rfl) (kL _ _ _ rfl (rfl) rfl rfl kM) ?_
  simp only[ah]
  generalize hl2:(l1||(!xQ a.qid b.qid))=l2
  refine ak 87 (v:= .bool l2) rfl (by rfl) (dM _ rfl (rfl)) ?_
  simp only[ah]
  refine aA 88 (v:= .pointer (some ⟨za,16,none⟩)) (c:=(l2==false)) rfl (aj false rfl rfl rfl) (fun hc=>G9 _ rfl (rfl)) ?_
  simp only[ah]
  refine aA 89 (v:= .int .u8 (a.mode:Int)) (c:=(l2==false)) rfl (aj false rfl rfl rfl) (fun hc=>ML _ rfl ((show _=ifv _ _ from rfl).trans (aO hc)) (Blk.cell HA.out 16)) ?_
  simp only[ah]
  refine aA 90 (v:= .pointer (some ⟨zb,16,none⟩)) (c:=(l2==false)) rfl (aj false rfl rfl rfl) (fun hc=>G9 _ rfl (rfl)) ?_
  simp only[ah]
  refine aA 91 (v:= .int .u8 (b.mode:Int)) (c:=(l2==false)) rfl (aj false rfl rfl rfl) (fun hc=>ML _ rfl ((show _=ifv _ _ from rfl).trans (aO hc)) (Blk.cell HB.out 16)) ?_
  simp only[ah]
  refine aA 92 (v:= .bool ((a.mode:Int) != (b.mode:Int))) (c:=(l2==false)) rfl (aj false rfl rfl rfl) (fun hc=>QW _ _ rfl ((show _=ifv _ _ from rfl).trans (aO hc)) ((show _=ifv _ _ from rfl).trans (aO hc))) ?_
  simp only[ah]
  refine ak 93 (v:= .bool (l2||((a.mode:Int) != (b.mode:Int)))) rfl (by rfl) (kL _ _ _ rfl (rfl) rfl rfl kM) ?_
  simp only[ah]
  generalize hl3:(l2||((a.mode:Int) != (b.mode:Int)))=l3
  refine ak 94 (v:= .bool l3) rfl (by rfl) (dM _ rfl (rfl)) ?_
  simp only[ah]
  refine aA 95 (v:= .pointer (some ⟨za,17,none⟩)) (c:=(l3==false)) rfl (aj false rfl rfl rfl) (fun hc=>G_ _ rfl (rfl)) ?_
  simp only[ah]
  refine aA 96 (v:= .int .u32 (a.aQ:Int)) (c:=(l3==false)) rfl (aj false rfl rfl rfl) (fun hc=>jE _ rfl ((show _=ifv _ _ from rfl).trans (aO hc)) (Blk.cell HA.out 17)) ?_
  simp only[ah]
  refine aA 97 (v:= .pointer (some ⟨zb,17,none⟩)) (c:=(l3==false)) rfl (aj false rfl rfl rfl) (fun hc=>G_ _ rfl (rfl)) ?_
  simp only[ah]
  refine aA 98 (v:= .int .u32 (b.aQ:Int)) (c:=(l3==false)) rfl (aj false rfl rfl rfl) (fun hc=>jE _ rfl ((show _=ifv _ _ from rfl).trans (aO hc)) (Blk.cell HB.out 17)) ?_
  simp only[ah]
  refine aA 99 (v:= .bool ((a.aQ:Int) != (b.aQ:Int))) (c:=(l3==false)) rfl (aj false rfl rfl rfl) (fun hc=>oG _ _ rfl ((show _=ifv _ _ from rfl).trans (aO hc)) ((show _=ifv _ _ from rfl).trans (aO hc))) ?_
  simp only[ah]
  refine ak 100 (v:= .bool (l3||((a.aQ:Int) != (b.aQ:Int)))) rfl (by rfl) (kL _ _ _ rfl (rfl) rfl rfl kM) ?_
  simp only[ah]
  generalize hl4:(l3||((a.aQ:Int) != (b.aQ:Int)))=l4
  refine ak 101 (v:= .bool l4) rfl (by rfl) (dM _ rfl (rfl)) ?_
  simp only[ah]
  refine aA 102 (v:= .pointer (some ⟨za,18,none⟩)) (c:=(l4==false)) rfl (aj false rfl rfl rfl) (fun hc=>He _ rfl (rfl)) ?_
  simp only[ah]
  refine aA 103 (v:= .string a.name) (c:=(l4==false)) rfl (aj false rfl rfl rfl) (fun hc=>kW _ rfl ((show _=ifv _ _ from rfl).trans (aO hc)) (Blk.cell HA.out 18)) ?_
  simp only[ah]
  refine aA 104 (v:= .pointer (some ⟨zb,18,none⟩)) (c:=(l4==false)) rfl (aj false rfl rfl rfl) (fun hc=>He _ rfl (rfl)) ?_
  simp only[ah]
  refine aA 105 (v:= .string b.name) (c:=(l4==false)) rfl (aj false rfl rfl rfl) (fun hc=>kW _ rfl ((show _=ifv _ _ from rfl).trans (aO hc)) (Blk.cell HB.out 18)) ?_
  simp only[ah]
  refine aA 106 (v:= .bool (!(a.name.toList==b.name.toList))) (c:=(l4==false)) rfl (aj false rfl rfl rfl) (fun hc=>qj _ _ rfl ((show _=ifv _ _ from rfl).trans (aO hc)) ((show _=ifv _ _ from rfl).trans (aO hc))) ?_
  simp only[ah]
  refine ak 107 (v:= .bool (l4||(!(a.name.toList==b.name.toList)))) rfl (by rfl) (kL _ _ _ rfl (rfl) rfl rfl kM) ?_
  simp only[ah]
  generalize hl5:(l4||(!(a.name.toList==b.name.toList)))=l5
  refine ak 108 (v:= .bool l5) rfl (by rfl) (dM _ rfl (rfl)) ?_
  simp only[ah]
  refine aA 109 (v:= .pointer (some ⟨za,19,none⟩)) (c:=(l5==false)) rfl (aj false rfl rfl rfl) (fun hc=>Hf _ rfl (rfl)) ?_
  simp only[ah]
  refine aA 110 (v:= .int .u32 (a.perm:Int)) (c:=(l5==false)) rfl (aj false rfl rfl rfl) (fun hc=>jE _ rfl ((show _=ifv _ _ from rfl).trans (aO hc)) (Blk.cell HA.out 19)) ?_
  simp only[ah]
  refine aA 111 (v:= .pointer (some ⟨zb,19,none⟩)) (c:=(l5==false)) rfl (aj false rfl rfl rfl) (fun hc=>Hf _ rfl (rfl)) ?_
  simp only[ah]
  refine aA 112 (v:= .int .u32 (b.perm:Int)) (c:=(l5==false)) rfl (aj false rfl rfl rfl) (fun hc=>jE _ rfl ((show _=ifv _ _ from rfl).trans (aO hc)) (Blk.cell HB.out 19)) ?_
  simp only[ah]
  refine aA 113 (v:= .bool ((a.perm:Int) != (b.perm:Int))) (c:=(l5==false)) rfl (aj false rfl rfl rfl) (fun hc=>oG _ _ rfl ((show _=ifv _ _ from rfl).trans (aO hc)) ((show _=ifv _ _ from rfl).trans (aO hc))) ?_
  simp only[ah]
  refine ak 114 (v:= .bool (l5||((a.perm:Int) != (b.perm:Int)))) rfl (by rfl) (kL _ _ _ rfl (rfl) rfl rfl kM) ?_
  simp only[ah]
  generalize hl6:(l5||((a.perm:Int) != (b.perm:Int)))=l6
  refine ak 115 (v:= .bool l6) rfl (by rfl) (dM _ rfl (rfl)) ?_
  simp only[ah]
  refine aA 116 (v:= .pointer (some ⟨za,20,none⟩)) (c:=(l6==false)) rfl (aj false rfl rfl rfl) (fun hc=>Hg _ rfl (rfl)) ?_
  simp only[ah]
  refine aA 117 (v:= .int .u64 (a.offset:Int)) (c:=(l6==false)) rfl (aj false rfl rfl rfl) (fun hc=>Ht _ rfl ((show _=ifv _ _ from rfl).trans (aO hc)) (Blk.cell HA.out 20)) ?_
  simp only[ah]
  refine aA 118 (v:= .pointer (some ⟨zb,20,none⟩)) (c:=(l6==false)) rfl (aj false rfl rfl rfl) (fun hc=>Hg _ rfl (rfl)) ?_
  simp only[ah]
  refine aA 119 (v:= .int .u64 (b.offset:Int)) (c:=(l6==false)) rfl (aj false rfl rfl rfl) (fun hc=>Ht _ rfl ((show _=ifv _ _ from rfl).trans (aO hc)) (Blk.cell HB.out 20)) ?_
  simp only[ah]
  refine aA 120 (v:= .bool ((a.offset:Int) != (b.offset:Int))) (c:=(l6==false)) rfl (aj false rfl rfl rfl) (fun hc=>OJ _ _ rfl ((show _=ifv _ _ from rfl).trans (aO hc)) ((show _=ifv _ _ from rfl).trans (aO hc))) ?_
  simp only[ah]
  refine ak 121 (v:= .bool (l6||((a.offset:Int) != (b.offset:Int)))) rfl (by rfl) (kL _ _ _ rfl (rfl) rfl rfl kM) ?_
  simp only[ah]
  generalize hl7:(l6||((a.offset:Int) != (b.offset:Int)))=l7
  refine ak 122 (v:= .bool l7) rfl (by rfl) (dM _ rfl (rfl)) ?_
  simp only[ah]
  refine aA 123 (v:= .pointer (some ⟨za,21,none⟩)) (c:=(l7==false)) rfl (aj false rfl rfl rfl) (fun hc=>Hl _ rfl (rfl)) ?_
  simp only[ah]
  refine aA 124 (v:= .int .u32 (a.count:Int)) (c:=(l7==false)) rfl (aj false rfl rfl rfl) (fun hc=>jE _ rfl ((show _=ifv _ _ from rfl).trans (aO hc)) (Blk.cell HA.out 21)) ?_
  simp only[ah]
  refine aA 125 (v:= .pointer (some ⟨zb,21,none⟩)) (c:=(l7==false)) rfl (aj false rfl rfl rfl) (fun hc=>Hl _ rfl (rfl)) ?_
  simp only[ah]
  refine aA 126 (v:= .int .u32 (b.count:Int)) (c:=(l7==false)) rfl (aj false rfl rfl rfl) (fun hc=>jE _ rfl ((show _=ifv _ _ from rfl).trans (aO hc)) (Blk.cell HB.out 21)) ?_
  simp only[ah]
  refine aA 127 (v:= .bool ((a.count:Int) != (b.count:Int))) (c:=(l7==false)) rfl (aj false rfl rfl rfl) (fun hc=>oG _ _ rfl ((show _=ifv _ _ from rfl).trans (aO hc)) ((show _=ifv _ _ from rfl).trans (aO hc))) ?_
  simp only[ah]
  refine ak 128 (v:= .bool (l7||((a.count:Int) != (b.count:Int)))) rfl (by rfl) (kL _ _ _ rfl (rfl) rfl rfl kM) ?_
  simp only[ah]
  generalize hl8:(l7||((a.count:Int) != (b.count:Int)))=l8
  refine ak 129 (v:= .bool l8) rfl (by rfl) (dM _ rfl (rfl)) ?_
  simp only[ah]
  refine aA 130 (v:= .pointer (some ⟨za,23,none⟩)) (c:=(l8==false)) rfl (aj false rfl rfl rfl) (fun hc=>Hq _ rfl (rfl)) ?_
  simp only[ah]
  refine aA 131 (v:= .agg (stL a.stat).toArray) (c:=(l8==false)) rfl (aj false rfl rfl rfl) (fun hc=>H7 _ a.stat HA.out rfl rfl ((show _=ifv _ _ from rfl).trans (aO hc))) ?_
  simp only[ah]
  refine aA 132 (v:= .pointer (some ⟨zb,23,none⟩)) (c:=(l8==false)) rfl (aj false rfl rfl rfl) (fun hc=>Hq _ rfl (rfl)) ?_
  simp only[ah]
  refine aA 133 (v:= .agg (stL b.stat).toArray) (c:=(l8==false)) rfl (aj false rfl rfl rfl) (fun hc=>H7 _ b.stat HB.out rfl rfl ((show _=ifv _ _ from rfl).trans (aO hc))) ?_
  simp only[ah]
  refine aA 134 (v:= .bool (!Hy a.stat b.stat)) (c:=(l8==false)) rfl (aj false rfl rfl rfl) (fun hc=>OO _ _ rfl ((show _=ifv _ _ from rfl).trans (aO hc)) ((show _=ifv _ _ from rfl).trans (aO hc))) ?_
  simp only[ah]
  refine ak 135 (v:= .bool (l8||(!Hy a.stat b.stat))) rfl (by rfl) (kL _ _ _ rfl (rfl) rfl rfl kM) ?_
  simp only[ah]
  generalize hl9:(l8||(!Hy a.stat b.stat))=l9
  have HX2:=hid (fun h=>MO hl1 hl2 hl3 hl4 hl5 hl6 hl7 hl8 hl9 (a:=a) (b:=b) h)
  have HY2:=hid (fun(h1:l9=false)=>Jv hl1 hl2 hl3 hl4 hl5 hl6 hl7 hl8 hl9 (a:=a) (b:=b) h1)
  clear hl1 hl2 hl3 hl4 hl5 hl6 hl7 hl8 hl9
  cases l9 with
  |true=>
   go_wp2_with fail
   refine bodyPost_ret (v:= .bool false) (by simp[results,Tryz.results15]) rfl ?_
   exact qK.no (HX2.out trivial) (by rw[HZA.out];exact HUP.out)
  |false=>
   go_upto_region 5 with(fail)
   refine wp_region_lit ?_
   refine ak 136 (v:= .pointer (some ⟨za,11,none⟩)) rfl (by rfl) (G6 _ rfl (rfl)) ?_
   simp only[ah]
   refine ak 137 (v:= .slice anA a.names.length anc) rfl (by rfl) (zK _ rfl (rfl) (Blk.cell HA.out 11)) ?_
   simp only[ah]
   refine ak 138 (v:= .int .i64 (a.names.length:Int)) rfl (by rfl) (by go_simp) ?_
   simp only[ah]
   refine ak 139 (v:= .pointer (some ⟨zb,11,none⟩)) rfl (by rfl) (G6 _ rfl (rfl)) ?_
   simp only[ah]
   refine ak 140 (v:= .slice bnA b.names.length bnc) rfl (by rfl) (zK _ rfl (rfl) (Blk.cell HB.out 11)) ?_
   simp only[ah]
   refine ak 141 (v:= .int .i64 (b.names.length:Int)) rfl (by rfl) (by go_simp) ?_
   simp only[ah]
   refine ak 142 (v:= .bool ((a.names.length:Int) != (b.names.length:Int))) rfl (by rfl) (Hu _ _ rfl (rfl) (rfl)) ?_
   simp only[ah]
   refine ak 143 (v:= .bool ((a.names.length:Int) != (b.names.length:Int))) rfl (by rfl) (dM _ rfl (rfl)) ?_
   simp only[ah]
   refine aA 144 (v:= .pointer (some ⟨za,12,none⟩)) (c:=(((a.names.length:Int) != (b.names.length:Int))==false)) rfl (aj false rfl rfl rfl) (fun hc=>G7 _ rfl (rfl)) ?_
   simp only[ah]
   refine aA 145 (v:= .slice aqA a.aV.length aqc) (c:=(((a.names.length:Int) != (b.names.length:Int))==false)) rfl (aj false rfl rfl rfl) (fun hc=>DU _ rfl ((show _=ifv _ _ from rfl).trans (aO hc)) (Blk.cell HA.out 12)) ?_
   simp only[ah]
   refine aA 146 (v:= .int .i64 (a.aV.length:Int)) (c:=(((a.names.length:Int) != (b.names.length:Int))==false)) rfl (aj false rfl rfl rfl) (fun hc=>by simp only[aO hc];go_simp) ?_
   simp only[ah]
   refine aA 147 (v:= .pointer (some ⟨zb,12,none⟩)) (c:=(((a.names.length:Int) != (b.names.length:Int))==false)) rfl (aj false rfl rfl rfl) (fun hc=>G7 _ rfl (rfl)) ?_
   simp only[ah]
   refine aA 148 (v:= .slice bqA b.aV.length bqc) (c:=(((a.names.length:Int) != (b.names.length:Int))==false)) rfl (aj false rfl rfl rfl) (fun hc=>DU _ rfl ((show _=ifv _ _ from rfl).trans (aO hc)) (Blk.cell HB.out 12)) ?_
   simp only[ah]
   refine aA 149 (v:= .int .i64 (b.aV.length:Int)) (c:=(((a.names.length:Int) != (b.names.length:Int))==false)) rfl (aj false rfl rfl rfl) (fun hc=>by simp only[aO hc];go_simp) ?_
   simp only[ah]
   refine aA 150 (v:= .bool ((a.aV.length:Int) != (b.aV.length:Int))) (c:=(((a.names.length:Int) != (b.names.length:Int))==false)) rfl (aj false rfl rfl rfl) (fun hc=>Hu _ _ rfl ((show _=ifv _ _ from rfl).trans (aO hc)) ((show _=ifv _ _ from rfl).trans (aO hc))) ?_
   simp only[ah]
   refine ak 151 (v:= .bool (((a.names.length:Int) != (b.names.length:Int))||((a.aV.length:Int) != (b.aV.length:Int)))) rfl (by rfl) (kL _ _ _ rfl (rfl) rfl rfl kM) ?_
   simp only[ah]
   generalize hm1:(((a.names.length:Int) != (b.names.length:Int))||((a.aV.length:Int) != (b.aV.length:Int)))=m1
   refine ak 152 (v:= .bool m1) rfl (by rfl) (dM _ rfl (rfl)) ?_
   simp only[ah]
   refine aA 153 (v:= .pointer (some ⟨za,22,none⟩)) (c:=(m1==false)) rfl (aj false rfl rfl rfl) (fun hc=>Ho _ rfl (rfl)) ?_
   simp only[ah]
   refine aA 154 (v:= .slice adA a.data.length adc) (c:=(m1==false)) rfl (aj false rfl rfl rfl) (fun hc=>DV _ rfl ((show _=ifv _ _ from rfl).trans (aO hc)) (Blk.cell HA.out 22)) ?_
   simp only[ah]
   refine aA 155 (v:= .string (ofL a.data)) (c:=(m1==false)) rfl (aj false rfl rfl rfl) (fun hc=>Hw _ rfl ((show _=ifv _ _ from rfl).trans (aO hc)) LA.out.d) ?_
   simp only[ah]
   refine aA 156 (v:= .pointer (some ⟨zb,22,none⟩)) (c:=(m1==false)) rfl (aj false rfl rfl rfl) (fun hc=>Ho _ rfl (rfl)) ?_
   simp only[ah]
   refine aA 157 (v:= .slice bdA b.data.length bdc) (c:=(m1==false)) rfl (aj false rfl rfl rfl) (fun hc=>DV _ rfl ((show _=ifv _ _ from rfl).trans (aO hc)) (Blk.cell HB.out 22)) ?_
   simp only[ah]
   refine aA 158 (v:= .string (ofL b.data)) (c:=(m1==false)) rfl (aj false rfl rfl rfl) (fun hc=>Hw _ rfl ((show _=ifv _ _ from rfl).trans (aO hc)) LB.out.d) ?_
   simp only[ah]
   refine aA 159 (v:= .bool (!((ofL a.data).toList==(ofL b.data).toList))) (c:=(m1==false)) rfl (aj false rfl rfl rfl) (fun hc=>qj _ _ rfl ((show _=ifv _ _ from rfl).trans (aO hc)) ((show _=ifv _ _ from rfl).trans (aO hc))) ?_
   simp only[ah]
   refine ak 160 (v:= .bool (m1||(!((ofL a.data).toList==(ofL b.data).toList)))) rfl (by rfl) (kL _ _ _ rfl (rfl) rfl rfl kM) ?_
   simp only[ah]
   generalize hm2:(m1||(!((ofL a.data).toList==(ofL b.data).toList)))=m2
   have HX5:=hid (fun h=>MP hm1 hm2 (a:=a) (b:=b) h)
   have HY5:=hid (fun(h1:m2=false)=>Jt hm1 hm2 (a:=a) (b:=b) h1)
   clear hm1 hm2
   cases m2 with
   |true=>
    go_wp2_with fail
    refine bodyPost_ret (v:= .bool false) (by simp[results,Tryz.results15]) rfl ?_
    exact qK.no (HX5.out trivial) (by rw[HZA.out];exact HUP.out)
   |false=>
    have HLN:=hid (HY5.out rfl)
    go_upto_region 8 with(fail)
    go_loopw [5] (fun i wr=>∃k:Nat,k≤a.names.length∧i= .int .i64 (k:Int)∧Below w2.heap.size w2 wr∧∀j,j<k→a.names[j]? =b.names[j]?) (fun i _=>a.names.length-(intOf i).toNat)
    case atStart=>exact⟨0,by omega,rfl,Below.refl _ _,fun j hj=>absurd hj (Nat.not_lt_zero j)⟩
    case round=>
     obtain⟨k,hk,rfl,hb,hno⟩:=hrel
     have HBR:=hid hb
     have HNO:=hid hno
     clear hno
     have k1:wr.cell? ⟨za,11,none⟩=some (.slice anA a.names.length anc):=Blk.cell (Blk.below HA.out hb (Blk.lt HA.out)) 11
     have k2:wr.cell? ⟨zb,11,none⟩=some (.slice bnA b.names.length bnc):=Blk.cell (Blk.below HB.out hb (Blk.lt HB.out)) 11
     by_cases hlt:k<a.names.length
     ·obtain⟨x,hx⟩:∃x,a.names[k]? =some x:=⟨a.names[k],List.getElem?_eq_getElem _⟩
      have hlt2:k<b.names.length:=by have:=HLN.out.1;omega
      obtain⟨y,hy⟩:∃y,b.names[k]? =some y:=⟨b.names[k],List.getElem?_eq_getElem _⟩
      obtain⟨ad,rfl, -,kx⟩:=(LA.out.n.below (hb.mono HZ2.out)).at_ hx
      obtain⟨bd_,rfl, -,ky⟩:=(LB.out.n.below (hb.mono HZ2.out)).at_ hy
      have j1:wr.drew.cell? ⟨za,11,none⟩=some (.slice (some ad) a.names.length anc):=k1
      have j2:wr.drew.cell? ⟨zb,11,none⟩=some (.slice (some bd_) b.names.length bnc):=k2
      have jx:wr.drew.cell? (ad.add k)=some (.string x):=kx
      have jy:wr.drew.cell? (bd_.add k)=some (.string y):=ky
      have HX:=hid hx
      have HY:=hid hy
      clear hx hy hb
      by_cases hxy:x=y
      ·have hbq:(x.toList==y.toList)=true:=by rw[Js];exact hxy
       have HXY:=hid hxy;clear hxy
       go_wp2_with fail
       go_region
       go_wp2_with fail
       go_roundw
       case rel=>exact⟨k+1,by omega,by go_num,HBR.out.drew,fun j hj=>(by rcases Nat.lt_succ_iff_lt_or_eq.1 hj with h|h;exact HNO.out j h;rw[h,HX.out,HY.out,HXY.out])⟩
       case measure=>simp[intOf];omega
      ·have hbq:(x.toList==y.toList)=false:=by rw[Bool.eq_false_iff,ne_eq,Js];exact hxy
       have HNE:=hid (show a≠b from fun h=>hxy (by have h1:=HX.out;rw[h,HY.out]at h1;exact(Option.some.inj h1).symm))
       clear hxy
       go_wp2_with fail
       go_region
       go_wp2_with fail
       refine bodyPost_ret (v:= .bool false) (by simp[results,Tryz.results15]) rfl ?_
       exact qK.no HNE.out (by rw[HZA.out];exact HUP.out.trans ((HBR.out.drew).mono HZ2.out))
     ·have EJ:=hid (show a.names=b.names from DW HLN.out.1 (fun j hj=>HNO.out j (by omega)))
      clear hb
      go_upto_region 13 with(fail)
      go_loopw [6] (fun i wr=>∃k:Nat,k≤a.aV.length∧i= .int .i64 (k:Int)∧Below w2.heap.size w2 wr∧∀j,j<k→a.aV[j]? =b.aV[j]?) (fun i _=>a.aV.length-(intOf i).toNat)
      case atStart=>exact⟨0,by omega,rfl,HBR.out,fun j hj=>absurd hj (Nat.not_lt_zero j)⟩
      case round=>
       clear k1 k2 hlt hk
       clear HBR HNO
       obtain⟨k,hk,rfl,hb,hno⟩:=hrel
       have HBR:=hid hb
       have HNO:=hid hno
       clear hno
       have k1:wr.cell? ⟨za,12,none⟩=some (.slice aqA a.aV.length aqc):=Blk.cell (Blk.below HA.out hb (Blk.lt HA.out)) 12
       have k2:wr.cell? ⟨zb,12,none⟩=some (.slice bqA b.aV.length bqc):=Blk.cell (Blk.below HB.out hb (Blk.lt HB.out)) 12
       by_cases hlt:k<a.aV.length
       ·obtain⟨x,hx⟩:∃x,a.aV[k]? =some x:=⟨a.aV[k],List.getElem?_eq_getElem _⟩
        have hlt2:k<b.aV.length:=by have:=HLN.out.2.1;omega
        obtain⟨y,hy⟩:∃y,b.aV[k]? =some y:=⟨b.aV[k],List.getElem?_eq_getElem _⟩
        obtain⟨ad,rfl, -,kx0,kx1,kx2⟩:=(LA.out.q.below (hb.mono HZ2.out)).at_ hx
        obtain⟨bd_,rfl, -,ky0,ky1,ky2⟩:=(LB.out.q.below (hb.mono HZ2.out)).at_ hy
        have j1:wr.drew.cell? ⟨za,12,none⟩=some (.slice (some ad) a.aV.length aqc):=k1
        have j2:wr.drew.cell? ⟨zb,12,none⟩=some (.slice (some bd_) b.aV.length bqc):=k2
        have HX:=hid hx
        have HY:=hid hy
        have HZX:=hid (show∀j,j<k+1→x=y→a.aV[j]? =b.aV[j]? from fun j hj he=>by rcases Nat.lt_succ_iff_lt_or_eq.1 hj with h|h;exact HNO.out j h;rw[h,hx,hy,he])
        have HNE:=hid (show x≠y→a≠b from fun hxy h=>hxy (by have h1:=hx;rw[h,hy]at h1;exact(Option.some.inj h1).symm))
        clear hx hy hb HX HY
        have m0:wr.drew.cell? (ad.add (k*3))=some (.int .u8 (x.kind:Int)):=kx0
        have m1:wr.drew.cell? ⟨(ad.add (k*3)).block,(ad.add (k*3)).off+1,none⟩=some (.int .u32 (x.vers:Int)):=kx1
        have m2:wr.drew.cell? ⟨(ad.add (k*3)).block,(ad.add (k*3)).off+2,none⟩=some (.int .u64 (x.path:Int)):=kx2
        have n0:wr.drew.cell? (bd_.add (k*3))=some (.int .u8 (y.kind:Int)):=ky0
        have n1:wr.drew.cell? ⟨(bd_.add (k*3)).block,(bd_.add (k*3)).off+1,none⟩=some (.int .u32 (y.vers:Int)):=ky1
        have n2:wr.drew.cell? ⟨(bd_.add (k*3)).block,(bd_.add (k*3)).off+2,none⟩=some (.int .u64 (y.path:Int)):=ky2
        clear kx0 kx1 kx2 ky0 ky1 ky2
        by_cases h0:(x.kind:Int)=(y.kind:Int)
        ·by_cases h1:(x.vers:Int)=(y.vers:Int)
         ·by_cases h2:(x.path:Int)=(y.path:Int)
          ·have hxy:x=y:=by
            obtain⟨x0,x1,x2⟩:=x
            obtain⟨y0,y1,y2⟩:=y
            simp only[Qd.mk.injEq]
            dsimp only at h0 h1 h2
            omega
           have HXY:=hid hxy;clear hxy
           rw[←h0]at n0
           rw[←h1]at n1
           rw[←h2]at n2
           clear h0 h1 h2
           go_wp2_with fail
           go_region
           go_wp2_with fail
           go_roundw
           case rel=>exact⟨k+1,by omega,by go_num,HBR.out.drew,fun j hj=>HZX.out j hj HXY.out⟩
           case measure=>simp[intOf];omega
          ·have HNX:=hid (HNE.out fun e=>h2 (by rw[e]))
           go_wp2_with fail
           go_region
           go_wp2_with fail
           refine bodyPost_ret (v:= .bool false) (by simp[results,Tryz.results15]) rfl ?_
           exact qK.no HNX.out (by rw[HZA.out];exact HUP.out.trans ((HBR.out.drew).mono HZ2.out))
         ·have HNX:=hid (HNE.out fun e=>h1 (by rw[e]))
          go_wp2_with fail
          go_region
          go_wp2_with fail
          refine bodyPost_ret (v:= .bool false) (by simp[results,Tryz.results15]) rfl ?_
          exact qK.no HNX.out (by rw[HZA.out];exact HUP.out.trans ((HBR.out.drew).mono HZ2.out))
        ·have HNX:=hid (HNE.out fun e=>h0 (by rw[e]))
         go_wp2_with fail
         go_region
         go_wp2_with fail
         refine bodyPost_ret (v:= .bool false) (by simp[results,Tryz.results15]) rfl ?_
         exact qK.no HNX.out (by rw[HZA.out];exact HUP.out.trans ((HBR.out.drew).mono HZ2.out))
       ·have Wh:=hid (show a.aV=b.aV from DW HLN.out.2.1 (fun j hj=>HNO.out j (by omega)))
        clear hb
        go_wp2_with fail
        refine bodyPost_ret (v:= .bool true) (by simp[results,Tryz.results15]) rfl ?_
        exact⟨⟨true,rfl,by simp[MQ (HY1.out trivial) (HY2.out trivial) HLN.out.2.2 EJ.out Wh.out]⟩,by rw[HZA.out];exact HUP.out.trans (HBR.out.mono HZ2.out)⟩
end Go.Proofs.YtkblmloobkiloaaGreatDoor
