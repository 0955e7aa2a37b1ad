
/-
  An evaluator of the program's own code over memory whose blocks have numbers of their own: values, trees, what is read. Conditions: none.
-/
import Derived.Recover
import Derived.Orders
namespace Go.Proofs.YtkblmloobkiloaaGreatDoor.Ev

/-- A value whose blocks have numbers of their own. A slice's capacity is `cap` and what its block has behind the known cells. -/
inductive AV where
  | g (v : Value)
  | ptr (i off : Nat)
  | sl (i off len cap : Nat)
  | fn (f : Fn) (fs cs : List AV)
  | ifc (t : TypeId) (v : AV)
  | agg (cs : List AV)
  | tup (vs : List AV)
/-- A tree of numbered things. -/
inductive Tr (α : Type) where
  | e
  | n (l : Tr α) (v : Option α) (r : Tr α)
def Tr.get {α : Type} : Tr α → Nat → Option α
  | .e, _ => none
  | .n l v r, i => match i with
    | 0 => v
    | j + 1 => match Nat.beq (j % 2) 0 with
      | true => l.get (j / 2)
      | false => r.get (j / 2)
def Tr.putF {α : Type} : Nat → Tr α → Nat → Option α → Tr α
  | 0, t, _, _ => t
  | d + 1, .e, i, x => match i with
    | 0 => .n .e x .e
    | j + 1 => match Nat.beq (j % 2) 0 with
      | true => .n (Tr.putF d .e (j / 2) x) none .e
      | false => .n .e none (Tr.putF d .e (j / 2) x)
  | d + 1, .n l v r, i, x => match i with
    | 0 => .n l x r
    | j + 1 => match Nat.beq (j % 2) 0 with
      | true => .n (Tr.putF d l (j / 2) x) v r
      | false => .n l v (Tr.putF d r (j / 2) x)
def Tr.put {α : Type} (t : Tr α) (i : Nat) (x : Option α) : Tr α := Tr.putF (i + 1) t i x
/-- What a block holds: its known cells, whether there may be more of them behind, whether some may be frozen. -/
inductive AO where
  | cells (cs : List AV) (elem : TypeId) (opn fz : Bool)
  | str (s : ByteArray) (pos : Nat)
structure AS where
  h : Tr AO
  next : Nat
def AS.get (s : AS) (i : Nat) : Option AO := s.h.get i
def AS.set (s : AS) (i : Nat) (o : AO) : AS := { s with h := s.h.put i (some o) }
def AS.drop (s : AS) (i : Nat) : AS := { s with h := s.h.put i none }
def AS.new (s : AS) (o : AO) : AS := { h := s.h.put s.next (some o), next := s.next + 1 }
structure AD where
  f : FuncId
  cap : List AV
  args : List AV
structure AF where
  n : Nat
  t : Tr AV
  ds : List AD
def AF.put (fr : AF) (d : Option Nat) (v : AV) : AF := match d with
  | some d => match Nat.ble (d + 1) fr.n with
    | true => { fr with t := fr.t.put d (some v) }
    | false => fr
  | none => fr
def AF.ev (fr : AF) : Operand → Option AV
  | .tmp t => fr.t.get t
  | .const v => some (.g v)
  | .global g => some (.g (.pointer (some ⟨g, 0, none⟩)))
  | .func f => some (.g (.func (.func f) #[] #[]))
/-- What a step of the model gives that reads nothing but the program. -/
def prun (P : Program) {α : Type} : Sem α → Option α
  | .pure a => some a
  | .program k => prun P (k P)
  | .mark _ k => prun P k
  | _ => none
mutual
def AV.un : AV → Option Value
  | .g v => some v
  | .agg cs => (AV.uns cs).bind fun l => some (.agg l.toArray)
  | .tup cs => (AV.uns cs).bind fun l => some (.tuple l.toArray)
  | .ifc t v => (AV.un v).bind fun x => some (.iface t x)
  | .fn f a b => (AV.uns a).bind fun x => (AV.uns b).bind fun y => some (.func f x.toArray y.toArray)
  | _ => none
def AV.uns : List AV → Option (List Value)
  | [] => some []
  | c :: cs => (AV.un c).bind fun x => (AV.uns cs).bind fun l => some (x :: l)
end
def AV.cells : AV → List AV
  | .g (.agg cs) => cs.toList.map .g
  | .agg cs => cs
  | v => [v]
def isAggB (P : Program) (t : TypeId) : Option Bool := (P.underlying t).bind fun d => match d with
  | .struct _ => some true
  | .array _ _ => some true
  | _ => some false
def szB (P : Program) (t : TypeId) : Option Nat := (P.info? t).bind fun i => some i.size
def cutL (l : List AV) (off n : Nat) : Option (List AV) := match Nat.beq ((l.drop off).take n).length n with
  | true => some ((l.drop off).take n)
  | false => none
/-- A variable of a type in a list of cells. -/
def apart (P : Program) (t : TypeId) (cs : List AV) (off : Nat) : Option AV := (isAggB P t).bind fun b => match b with
  | true => (szB P t).bind fun n => (cutL cs off n).bind fun r => some (.agg r)
  | false => cs[off]?
def aload (P : Program) (s : AS) (t : TypeId) : AV → Option AV
  | .ptr i off => match s.get i with
    | some (.cells cs _ _ _) => apart P t cs off
    | _ => none
  | _ => none
def setL (l : List AV) (off : Nat) (vs : List AV) : Option (List AV) := match Nat.ble (off + vs.length) l.length with
  | true => some (l.take off ++ vs ++ l.drop (off + vs.length))
  | false => none
def natOf : AV → Option Nat
  | .g (.int _ (.ofNat n)) => some n
  | _ => none
def fillA (place : Nat → Option (Nat × Nat)) (cells : List AV) : List (Nat × AV) → Option (List AV)
  | [] => some cells
  | (i, v) :: rest => (place i).bind fun p => match Nat.beq v.cells.length p.2 with
    | true => (setL cells p.1 v.cells).bind fun r => fillA place r rest
    | false => none
def zeroCellsB (P : Program) (t : TypeId) : Option (List AV) := (P.info? t).bind fun i => i.zero.bind fun z => some (z.cells.toList.map .g)
def buildB (P : Program) (d : TypeDesc) (z : List AV) (ps : List (Nat × AV)) : Option (List AV) := match d with
  | .struct fs => (fs.toList.mapM fun f => (P.info? f.type).map fun i => (f.offset, i.size)).bind fun pl => fillA (pl[·]?) z ps
  | .array _ e => (szB P e).bind fun n => fillA (fun i => some (i * n, n)) z ps
  | _ => none
def evsP (fr : AF) : List (Nat × Operand) → Option (List (Nat × AV))
  | [] => some []
  | (i, x) :: r => (fr.ev x).bind fun v => (evsP fr r).bind fun l => some ((i, v) :: l)
def evs (fr : AF) : List Operand → Option (List AV)
  | [] => some []
  | x :: r => (fr.ev x).bind fun v => (evs fr r).bind fun l => some (v :: l)
/-- Plain operands: what they are. -/
def evG (fr : AF) (x : Operand) : Value := match (fr.ev x).bind AV.un with
  | some v => v
  | none => .tuple #[]
def plainB (fr : AF) (xs : List Operand) : Bool := xs.all fun x => ((fr.ev x).bind AV.un).isSome
/-- Operations that are done as the model does them, if their operands are plain. -/
def asModel : Op → Bool
  | .binOp .. | .unOp .. | .convert .. | .index .. | .slice .. | .field .. | .extract .. | .pick .. | .nilCheck .. | .makeInterface .. => true
  | .call ⟨.builtin .len, _, _⟩ | .call ⟨.builtin .cap, _, _⟩ | .call ⟨.builtin .min, _, _⟩ | .call ⟨.builtin .max, _, _⟩ => true
  | _ => false
def eqB (P : Program) : TypeDesc → AV → AV → Option Bool
  | .pointer _, .g (.pointer none), .ptr _ _ => some false
  | .pointer _, .ptr _ _, .g (.pointer none) => some false
  | .pointer e, .ptr i x, .ptr j y => match Nat.beq i j, szB P e with
    | true, some (_ + 1) => some (Nat.beq x y)
    | _, _ => none
  | .slice _, .g (.slice none _ _), .sl _ _ _ _ => some false
  | .slice _, .sl _ _ _ _, .g (.slice none _ _) => some false
  | .func _ _ _, .g .nilFunc, .fn _ _ _ => some false
  | .func _ _ _, .fn _ _ _, .g .nilFunc => some false
  | .interface _, .g .nilIface, .ifc _ _ => some false
  | .interface _, .ifc _ _, .g .nilIface => some false
  | _, _, _ => none
/-- What an operation reads that neither writes nor makes anything, and whose operands are not all plain. -/
def aread (P : Program) (fr : AF) (s : AS) : Op → Option AV
  | .move x => fr.ev x
  | .assign x => fr.ev x
  | .pick c a b => (fr.ev c).bind fun v => match v with
    | .g (.bool true) => fr.ev a
    | .g (.bool false) => fr.ev b
    | _ => none
  | .load t x => (fr.ev x).bind (aload P s t)
  | .nilCheck x => (fr.ev x).bind fun v => match v with
    | .ptr i off => some (.ptr i off)
    | .fn (.func f) a b => some (.fn (.func f) a b)
    | _ => none
  | .fieldAddr t x f => (fr.ev x).bind fun v => match v with
    | .ptr i off => (P.underlying t).bind fun d => match d with
      | .struct fs => (fs[f]?).bind fun fd => (szB P fd.type).bind fun n => match n with
        | 0 => none
        | _ + 1 => some (.ptr i (off + fd.offset))
      | _ => none
    | _ => none
  | .field t x f => (fr.ev x).bind fun v => match v with
    | .agg cs => (P.underlying t).bind fun d => match d with
      | .struct fs => (fs[f]?).bind fun fd => apart P fd.type cs fd.offset
      | _ => none
    | _ => none
  | .indexAddr t x ix => (fr.ev x).bind fun v => (fr.ev ix).bind fun w => (natOf w).bind fun k => match v with
    | .sl i off len _ => (P.underlying t).bind fun d => match d with
      | .slice e => match Nat.ble (k + 1) len with
        | true => (szB P e).bind fun n => some (.ptr i (off + k * n))
        | false => none
      | _ => none
    | .ptr i off => (P.underlying t).bind fun d => match d with
      | .array len e => match Nat.ble (k + 1) len with
        | true => (szB P e).bind fun n => some (.ptr i (off + k * n))
        | false => none
      | _ => none
    | _ => none
  | .extract x k => (fr.ev x).bind fun v => match v with
    | .tup vs => vs[k]?
    | _ => none
  | .build t ps => (evsP fr ps.toList).bind fun l => (zeroCellsB P t).bind fun z => (P.underlying t).bind fun d => (buildB P d z l).bind fun r => some (.agg r)
  | .makeInterface t x => (fr.ev x).bind fun v => (P.underlying t).bind fun d => match d with
    | .interface _ => none
    | _ => some (.ifc t v)
  | .makeFunc f a b => (evs fr a.toList).bind fun x => (evs fr b.toList).bind fun y => some (.fn f x y)
  | .slice t x lo hi none => (fr.ev x).bind fun v => match v with
    | .sl i off len cap => (P.underlying t).bind fun d => match d with
      | .slice e => (szB P e).bind fun n =>
        (match hi with | some y => (fr.ev y).bind natOf | none => some len).bind fun h => (match lo with | some y => (fr.ev y).bind natOf | none => some 0).bind fun l =>
        match Nat.ble l h, (match hi with | some _ => Nat.ble h cap | none => true) with
        | true, true => match l with
          | 0 => some (.sl i off h cap)
          | l + 1 => match Nat.ble (l + 2) cap with
            | true => some (.sl i (off + (l + 1) * n) (h - (l + 1)) (cap - (l + 1)))
            | false => none
        | _, _ => none
      | _ => none
    | _ => none
  | .call ⟨.builtin .len, xs, ts⟩ => match xs.toList with
    | [x] => (fr.ev x).bind fun v => match v with
      | .sl _ _ len _ => (ts[0]?).bind fun t => (P.underlying t).bind fun d => match d with
        | .slice _ => some (.g (.int .i64 (Int.ofNat len)))
        | _ => none
      | _ => none
    | _ => none
  | .call ⟨.builtin .cap, xs, ts⟩ => match xs.toList with
    | [x] => (fr.ev x).bind fun v => match v with
      | .sl i _ _ cap => match s.get i with
        | some (.cells _ _ false _) => (ts[0]?).bind fun t => (P.underlying t).bind fun d => match d with
          | .slice _ => some (.g (.int .i64 (Int.ofNat cap)))
          | _ => none
        | _ => none
      | _ => none
    | _ => none
  | .binOp .eql t x y _ => (fr.ev x).bind fun a => (fr.ev y).bind fun b => (P.underlying t).bind fun d => (eqB P d a b).bind fun r => some (.g (.bool r))
  | .binOp .neq t x y _ => (fr.ev x).bind fun a => (fr.ev y).bind fun b => (P.underlying t).bind fun d => (eqB P d a b).bind fun r => some (.g (.bool (!r)))
  | _ => none
/-- What an operation reads that neither writes nor makes anything. -/
def aval (P : Program) (fr : AF) (s : AS) (o : Oper) : Option AV := match asModel o.op, plainB fr o.op.operands.toList with
  | true, true => match prun P (execOp (evG fr) o) with
    | some (.value v) => some (.g v)
    | _ => none
  | _, _ => aread P fr s o.op
end Go.Proofs.YtkblmloobkiloaaGreatDoor.Ev
