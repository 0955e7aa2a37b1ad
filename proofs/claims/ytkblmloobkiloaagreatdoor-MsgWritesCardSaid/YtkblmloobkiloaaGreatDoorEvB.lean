
/-
  The evaluator: what writes, control, calls. Conditions: none.
-/
import Derived.Test.YtkblmloobkiloaaGreatDoorEvA
namespace Go.Proofs.YtkblmloobkiloaaGreatDoor.Ev

inductive AR where
  | bad
  | v (v : AV) (s : AS)
  | skip (s : AS)
  | enter (f : FuncId) (args : List AV)
  | defer (d : AD)
  | pan (v : AV)
def orBad {α : Type} (o : Option α) (k : α → AR) : AR := match o with
  | some a => k a
  | none => .bad
/-- The functions without a body that are met. -/
inductive Ext where
  | same
  | noZero
/-- A value of one cell. -/
def oneB : AV → Bool
  | .g (.agg _) | .g (.tuple _) | .agg _ | .tup _ => false
  | _ => true
/-- The cells of what is appended, and how many elements they are. -/
def appCells (s : AS) (n : Nat) (d : TypeDesc) (v : AV) : Option (List AV × Nat) := match d, v with
  | .slice _, .g (.slice none 0 _) => some ([], 0)
  | .string, .g (.string b) => match n with
    | 1 => some (b.data.toList.map fun c => .g (.int .u8 c.toNat), b.size)
    | _ => none
  | .slice _, .sl i off len _ => match s.get i with
    | some (.cells cs _ _ _) => (cutL cs off (len * n)).bind fun r => some (r, len)
    | _ => none
  | _, _ => none
def smallB (P : Program) (e : TypeId) : Bool := match P.info? e with
  | some i => Nat.ble i.bytes 1000000
  | none => false
def aappend (P : Program) (s : AS) : List TypeId → List AV → AR
  | [t, u], [x, y] => orBad (P.underlying t) fun d => orBad (P.underlying u) fun du => match du, d with
    | .int _, _ => .bad
    | _, .slice e => orBad (szB P e) fun n => orBad (zeroCellsB P e) fun z => orBad (appCells s n du y) fun p => match Nat.beq z.length n && Nat.ble p.2 65536 && p.1.all oneB && smallB P e with
      | true => match x with
        | .g (.slice none 0 0) => match p.2 with
          | 0 => .v x s
          | k + 1 => .v (.sl s.next 0 (k + 1) (k + 1)) (s.new (.cells p.1 e true false))
        | .sl i off len cap => match s.get i with
          | some (.cells cs e' o false) => match Nat.ble (len + p.2) cap with
            | true => orBad (setL cs (off + len * n) p.1) fun r => .v (.sl i off (len + p.2) cap) (s.set i (.cells r e' o false))
            | false => match Nat.ble len 65536 with
              | false => .bad
              | true => orBad (cutL cs off (len * n)) fun old => match o, off with
                | false, _ => .v (.sl s.next 0 (len + p.2) (len + p.2)) (s.new (.cells (old ++ p.1) e true false))
                | true, 0 => match Nat.beq (cap * n) cs.length, Nat.beq e e' with
                  | true, true => .v (.sl s.next 0 (len + p.2) (len + p.2)) ((s.drop i).new (.cells (old ++ p.1) e true false))
                  | _, _ => .bad
                | _, _ => .bad
          | _ => .bad
        | _ => .bad
      | false => .bad
    | _, _ => .bad
  | _, _ => .bad
def acopy (P : Program) (s : AS) : List TypeId → List AV → AR
  | [t, u], [.sl _ _ _ _, y] => orBad (P.underlying t) fun d => match d with
    | .slice e => orBad (szB P e) fun n => match y with
      | .g (.slice none 0 _) => .v (.g (.int .i64 0)) s
      | .sl _ _ 0 _ => .v (.g (.int .i64 0)) s
      | _ => .bad
    | _ => .bad
  | _, _ => .bad
def acall (ext : FuncId → Option Ext) (P : Program) (s : AS) (f : FuncId) (args : List AV) : AR := match ext f with
  | none => .enter f args
  | some .same => match args with
    | [x] => .v x s
    | _ => .bad
  | some .noZero => match args with
    | [.g (.int .i64 (.ofNat n))] => orBad ((P.funcs[f]?).bind fun fn => match fn.resultTypes.toList with | [t] => some t | _ => none) fun t => orBad (P.underlying t) fun d => match d with
      | .slice e => match szB P e, Nat.ble n 65536 with
        | some 1, true => .v (.sl s.next 0 n 0) (s.new (.cells [] e true false))
        | _, _ => .bad
      | _ => .bad
    | _ => .bad
def toFn : AV → Option (FuncId × List AV × List AV)
  | .g (.func (.func f) a b) => some (f, a.toList.map .g, b.toList.map .g)
  | .fn (.func f) a b => some (f, a, b)
  | _ => none
def bytesA : List AV → Option (List UInt8)
  | [] => some []
  | .g (.int .u8 (.ofNat n)) :: r => match Nat.ble (n + 1) 256 with
    | true => (bytesA r).bind fun l => some (UInt8.ofNat n :: l)
    | false => none
  | _ => none
def isU8 (P : Program) (e : TypeId) : Bool := match P.underlying e with
  | some (.int .u8) => true
  | _ => false
def repL {α : Type} (l : List α) : Nat → List α
  | 0 => []
  | n + 1 => l ++ repL l n
def awrite (ext : FuncId → Option Ext) (P : Program) (fr : AF) (s : AS) : Op → AR
  | .alloc t => orBad (zeroCellsB P t) fun z => .v (.ptr s.next 0) (s.new (.cells z t false false))
  | .box t x => orBad (fr.ev x) fun v => .v (.ptr s.next 0) (s.new (.cells v.cells t false false))
  | .buildSlice t len ps => orBad (evsP fr ps.toList) fun l => orBad (P.underlying t) fun d => match d with
    | .slice e => orBad (szB P e) fun n => orBad (zeroCellsB P e) fun z => match Nat.beq z.length n, Nat.ble (len * n) 16777216 with
      | true, true => match Nat.beq (len * n) 0 with
        | true => .bad
        | false => orBad (fillA (fun i => some (i * n, n)) (repL z len) l) fun r => .v (.sl s.next 0 len len) (s.new (.cells r e false false))
      | _, _ => .bad
    | _ => .bad
  | .store t a x => orBad (fr.ev a) fun av => orBad (fr.ev x) fun v => match av with
    | .ptr i off => match s.get i with
      | some (.cells cs e o false) => orBad (szB P t) fun n => match Nat.beq v.cells.length n with
        | true => match v.cells.all oneB with
          | true => orBad (setL cs off v.cells) fun r => .skip (s.set i (.cells r e o false))
          | false => .bad
        | false => .bad
      | _ => .bad
    | _ => .bad
  | .range t x => orBad (fr.ev x) fun v => orBad (P.underlying t) fun d => match v, d with
    | .g (.string b), .string => .v (.ptr s.next 0) (s.new (.str b 0))
    | _, _ => .bad
  | .next it true => orBad (fr.ev it) fun v => match v with
    | .ptr i 0 => match s.get i with
      | some (.str b p) => match Nat.ble (p + 1) b.size with
        | true => .v (.g (.tuple #[.bool true, .int .i64 (Int.ofNat p), .int .i32 (Utf8.decode b p).1])) (s.set i (.str b (p + (Utf8.decode b p).2)))
        | false => .v (.g (.tuple #[.bool false])) s
      | _ => .bad
    | _ => .bad
  | .convert t u x => orBad (fr.ev x) fun v => orBad (P.underlying t) fun dt => orBad (P.underlying u) fun du => match dt, du, v with
    | .string, .slice e, .g (.string b) => match isU8 P e, szB P e with
      | true, some 1 => .v (.sl s.next 0 b.size b.size) (s.new (.cells (b.data.toList.map fun c => .g (.int .u8 c.toNat)) e true false))
      | _, _ => .bad
    | .slice e, .string, .sl i off len _ => match isU8 P e, s.get i with
      | true, some (.cells cs _ _ _) => orBad ((cutL cs off len).bind bytesA) fun l => .v (.g (.string ⟨l.toArray⟩)) s
      | _, _ => .bad
    | .pointer k, .unsafePointer, .ptr i off => match s.get i with
      | some (.cells cs _ _ _) => match cs[off]?, szB P k with
        | some _, some (_ + 1) => .v (.ptr i off) s
        | _, _ => .bad
      | _ => .bad
    | .unsafePointer, .pointer k, .ptr i off => match s.get i with
      | some (.cells cs e false _) => match szB P k, liesAt P P.depth e (cs.length / P.cellsOf e) off k 1 with
        | some _, true => .v (.ptr i off) s
        | _, _ => .bad
      | _ => .bad
    | _, _, _ => .bad
  | .defer ⟨.value f, args, _⟩ => orBad ((fr.ev f).bind toFn) fun k => orBad (evs fr args.toList) fun l => match ext k.1 with
    | none => .defer ⟨k.1, k.2.2, k.2.1 ++ l⟩
    | some _ => .bad
  | .panic x => orBad (fr.ev x) fun v => match v with
    | .ifc t v => .pan (.ifc t v)
    | .g (.iface t v) => .pan (.g (.iface t v))
    | _ => .bad
  | .call ⟨.builtin .append, xs, ts⟩ => orBad (evs fr xs.toList) fun l => aappend P s ts.toList l
  | .call ⟨.builtin .copy, xs, ts⟩ => orBad (evs fr xs.toList) fun l => acopy P s ts.toList l
  | .call ⟨.builtin .unsafeSliceData, xs, _⟩ => orBad (evs fr xs.toList) fun l => match l with
    | [.sl i off _ (_ + 1)] => .v (.ptr i off) s
    | _ => .bad
  | .call ⟨.builtin .unsafeString, xs, ts⟩ => orBad (evs fr xs.toList) fun l => match ts.toList with
    | [t, _] => orBad (P.underlying t) fun d => match l, d with
      | [.ptr i 0, .g (.int .i64 (.ofNat (n + 1)))], .pointer u => match s.get i with
        | some (.cells cs e o _) => match Nat.beq e u, szB P e, Nat.ble n 65536 with
          | true, some 1, true => orBad ((cutL cs 0 (n + 1)).bind bytesA) fun l => .v (.g (.string ⟨l.toArray⟩)) (s.set i (.cells cs e o true))
          | _, _, _ => .bad
        | _ => .bad
      | _, _ => .bad
    | _ => .bad
  | .call ⟨.value f, args, _⟩ => orBad ((fr.ev f).bind toFn) fun k => orBad (evs fr args.toList) fun l => acall ext P s k.1 (k.2.1 ++ l ++ k.2.2)
  | _ => .bad
inductive AX where
  | nrm
  | ext (id : Nat)
  | ret
  | pan (ch : List (AV × Bool))
inductive CR where
  | bad (why : Nat)
  | ok (e : AX) (fr : AF) (s : AS)
inductive AM where
  | ret
  | pan (ch : List (AV × Bool))
inductive AE where
  | ret (v : AV)
  | pan (ch : List (AV × Bool))
/-- What one operation comes to, a call and all. -/
inductive A1 where
  | bad
  | v (v : AV) (s : AS)
  | defer (d : AD)
  | pan (ch : List (AV × Bool)) (s : AS)
abbrev Caller := FuncId → List AV → AS → Option (AE × AS)
def ev1 (ext : FuncId → Option Ext) (P : Program) (cl : Caller) (fr : AF) (s : AS) (o : Oper) : A1 := match aval P fr s o with
  | some v => .v v s
  | none => match awrite ext P fr s o.op with
    | .v v s => .v v s
    | .skip s => .v (.g undef) s
    | .defer d => .defer d
    | .pan v => .pan [(v, false)] s
    | .enter f args => match cl f args s with
      | some (.ret v, s) => .v v s
      | some (.pan ch, s) => .pan ch s
      | none => .bad
    | .bad => .bad
def wantB (ops : Array Oper) (fr : AF) (o : Oper) : Option Bool := match o.guard with
  | none => some true
  | some (j, b) => ((ops[j]?).bind fun p => p.dst.bind fr.t.get).bind fun v => match v, b with
    | .g (.bool true), true => some true
    | .g (.bool false), false => some true
    | .g (.bool _), _ => some false
    | .g (.tuple _), _ => some false
    | _, _ => none
def evOps (ext : FuncId → Option Ext) (P : Program) (cl : Caller) (ops : Array Oper) : List Oper → AF → AS → CR
  | [], fr, s => .ok .nrm fr s
  | o :: r, fr, s => match wantB ops fr o with
    | some false => evOps ext P cl ops r (fr.put o.dst (.g undef)) s
    | some true => match ev1 ext P cl fr s o with
      | .v v s => evOps ext P cl ops r (fr.put o.dst v) s
      | .defer d => evOps ext P cl ops r (({ fr with ds := d :: fr.ds } : AF).put o.dst (.g undef)) s
      | .pan ch s => .ok (.pan ch) fr s
      | .bad => .bad 1
    | none => .bad 3
/-- A region whose order is drawn: which operations must stand ahead of which. -/
def maskOf (acc : List Nat) : List Edge → Nat → Nat
  | [], m => m
  | e :: r, m => maskOf acc r (match Region.binds .any e with
    | true => m ||| 2 ^ e.on ||| acc.getD e.on 0
    | false => m)
def masks : List Oper → List Nat → List Nat
  | [], acc => acc
  | o :: r, acc => masks r (acc ++ [maskOf acc o.after.toList 0])
/-- One of two places whose operations touch one slot stands ahead of the other. -/
def drawB (ops : Array Oper) (bm : List Nat) : Bool :=
  (List.range ops.size).all fun i => match ops[i]? with
    | none => false
    | some o => (match o.op with | .select .. => false | _ => true) && (o.after.toList.all fun e => !Region.binds .any e || Nat.ble (e.on + 1) i) && (match o.guard with | none => true | some (j, _) => (bm.getD i 0).testBit j) &&
      (List.range ops.size).all fun j => Nat.beq i j || match ops[j]? with
        | none => false
        | some p => match p.dst with
          | none => true
          | some d => o.dst != some d && (!(o.looksAt ops).contains d || (bm.getD i 0).testBit j || (bm.getD j 0).testBit i)
/-- What was reckoned for an operation, in the text's order: its frame, the memory ahead of it, its value; 0: left out, 1: it only reads, 2: it does something. -/
structure DR where
  fr : AF
  s : AS
  v : AV
  k : Nat
def evDraw (ext : FuncId → Option Ext) (P : Program) (cl : Caller) (ops : Array Oper) : List Oper → AF → AS → Option (List DR × AF × AS)
  | [], fr, s => some ([], fr, s)
  | o :: r, fr, s => match wantB ops fr o with
    | some false => (evDraw ext P cl ops r (fr.put o.dst (.g undef)) s).bind fun p => some (⟨fr, s, .g undef, 0⟩ :: p.1, p.2)
    | some true => match aval P fr s o with
      | some v => (evDraw ext P cl ops r (fr.put o.dst v) s).bind fun p => some (⟨fr, s, v, 1⟩ :: p.1, p.2)
      | none => match ev1 ext P cl fr s o with
        | .v v s1 => (evDraw ext P cl ops r (fr.put o.dst v) s1).bind fun p => some (⟨fr, s, v, 2⟩ :: p.1, p.2)
        | _ => none
    | none => none
def beqS : Value → Value → Bool
  | .bool a, .bool b => a == b
  | .int k a, .int j b => decide (k = j) && decide (a = b)
  | .string a, .string b => decide (a.data.toList = b.data.toList)
  | .pointer none, .pointer none => true
  | .slice none a b, .slice none c d => Nat.beq a c && Nat.beq b d
  | .nilFunc, .nilFunc => true
  | .func f a b, .func h c d => decide (f = h) && a.isEmpty && b.isEmpty && c.isEmpty && d.isEmpty
  | .nilIface, .nilIface => true
  | _, _ => false
mutual
def AV.beq : AV → AV → Bool
  | .g v, .g u => beqS v u
  | .ptr i a, .ptr j b => Nat.beq i j && Nat.beq a b
  | .sl i a b c, .sl j d e f => Nat.beq i j && Nat.beq a d && Nat.beq b e && Nat.beq c f
  | .fn f a b, .fn h c d => decide (f = h) && AV.beqs a c && AV.beqs b d
  | .ifc t v, .ifc u w => Nat.beq t u && AV.beq v w
  | .agg a, .agg b => AV.beqs a b
  | .tup a, .tup b => AV.beqs a b
  | _, _ => false
def AV.beqs : List AV → List AV → Bool
  | [], [] => true
  | a :: l, b :: r => AV.beq a b && AV.beqs l r
  | _, _ => false
end
def isMem : Op → Bool
  | .load .. => true
  | .call ⟨.builtin .cap, _, _⟩ => true
  | _ => false
def isCh (ds : List DR) (c : Nat) : Bool := match ds[c]? with
  | some d => Nat.beq d.k 2
  | none => false
def stAt (ds : List DR) (s : AS) (m : Nat) : AS := match ds[m]? with
  | some d => d.s
  | none => s
/-- Does each operation that does something stand behind all those ahead of it; does each that reads memory read the same wherever it may stand? -/
def drawSame (P : Program) (ops : Array Oper) (bm : List Nat) (ds : List DR) (s : AS) : Bool := (List.range ops.size).all fun i => match ds[i]?, ops[i]? with
  | some d, some o => match d.k with
    | 0 => true
    | 1 => !isMem o.op || (List.range (ops.size + 1)).all fun m => match m with
      | 0 => (List.range ops.size).any (fun c => isCh ds c && (bm.getD i 0).testBit c) || (match aval P d.fr (stAt ds s 0) o with | some v => AV.beq v d.v | none => false)
      | m + 1 => !isCh ds m || (List.range ops.size).any (fun c => Nat.ble (m + 1) c && isCh ds c && (bm.getD i 0).testBit c) || (match aval P d.fr (stAt ds s (m + 1)) o with | some v => AV.beq v d.v | none => false)
    | _ => (List.range i).all fun c => !isCh ds c || (bm.getD i 0).testBit c
  | _, _ => false
def evRegion (ext : FuncId → Option Ext) (P : Program) (cl : Caller) (ops : Array Oper) (fr : AF) (s : AS) : CR :=
  match drawB ops (masks ops.toList []) && P.follows .mixedOrders with
  | true => match evDraw ext P cl ops ops.toList fr s with
    | some (ds, fr', s') => match drawSame P ops (masks ops.toList []) ds s' with
      | true => .ok .nrm fr' s'
      | false => .bad 7
    | none => .bad 8
  | false => .bad 9
def loopR (f : AF → AS → CR) : Nat → AF → AS → CR
  | 0, _, _ => .bad 4
  | n + 1, fr, s => match f fr s with
    | .ok .nrm fr s => loopR f n fr s
    | r => r
def evC (ext : FuncId → Option Ext) (P : Program) (cl : Caller) (L : Nat) : Code → AF → AS → CR
  | .skip, fr, s => .ok .nrm fr s
  | .region _ ops false, fr, s => evOps ext P cl ops ops.toList fr s
  | .region _ ops true, fr, s => evRegion ext P cl ops fr s
  | .seq a b, fr, s => match evC ext P cl L a fr s with
    | .ok .nrm fr s => evC ext P cl L b fr s
    | r => r
  | .cond c a b, fr, s => match fr.ev c with
    | some (.g (.bool true)) => evC ext P cl L a fr s
    | some (.g (.bool false)) => evC ext P cl L b fr s
    | _ => .bad 5
  | .block id b, fr, s => match evC ext P cl L b fr s with
    | .ok (.ext j) fr s => match Nat.beq j id with
      | true => .ok .nrm fr s
      | false => .ok (.ext j) fr s
    | r => r
  | .loop b, fr, s => loopR (evC ext P cl L b) L fr s
  | .exit id, fr, s => .ok (.ext id) fr s
  | .label _, fr, s => .ok .nrm fr s
  | .ret, fr, s => .ok .ret fr s
  | _, _, _ => .bad 6
/-- A deferred call's code: what it recovers. -/
def evOpsS (ext : FuncId → Option Ext) (P : Program) (cl : Caller) (ops : Array Oper) : List Oper → AF → AM → AS → Option (AF × AM × AS)
  | [], fr, m, s => some (fr, m, s)
  | o :: r, fr, m, s => match o.op, o.guard with
    | .call ⟨.builtin .recover, _, _⟩, none => match m with
      | .pan ((v, false) :: rest) => evOpsS ext P cl ops r (fr.put o.dst v) (.pan ((v, true) :: rest)) s
      | .pan _ => none
      | .ret => evOpsS ext P cl ops r (fr.put o.dst (.g .nilIface)) m s
    | _, _ => match wantB ops fr o with
      | some false => evOpsS ext P cl ops r (fr.put o.dst (.g undef)) m s
      | some true => match ev1 ext P cl fr s o with
        | .v v s => evOpsS ext P cl ops r (fr.put o.dst v) m s
        | _ => none
      | none => none
def evCS (ext : FuncId → Option Ext) (P : Program) (cl : Caller) (L : Nat) : Code → AF → AM → AS → Option (CR × AM)
  | .seq a b, fr, m, s => match evCS ext P cl L a fr m s with
    | some (.ok .nrm fr s, m) => evCS ext P cl L b fr m s
    | r => r
  | .region _ ops false, fr, m, s => (evOpsS ext P cl ops ops.toList fr m s).bind fun r => some (.ok .nrm r.1 r.2.2, r.2.1)
  | c, fr, m, s => some (evC ext P cl L c fr s, m)
def argsT : List AV → Nat → Tr AV → Tr AV
  | [], _, t => t
  | a :: l, i, t => argsT l (i + 1) (t.put i (some a))
def resA (P : Program) (fr : AF) (s : AS) : List ResultVar → Option (List AV)
  | [] => some []
  | .tmp t :: r => (fr.t.get t).bind fun v => (resA P fr s r).bind fun l => some (v :: l)
  | .cell a t :: r => ((fr.t.get a).bind fun p => aload P s t p).bind fun v => (resA P fr s r).bind fun l => some (v :: l)
def resV : List AV → AV
  | [v] => v
  | l => .tup l
def settleA : AM → AM
  | .pan ((_, true) :: _) => .ret
  | m => m
def raisedA (m : AM) (ch : List (AV × Bool)) : AM := match m with
  | .pan old => .pan (ch ++ old)
  | .ret => .pan ch
abbrev CallerD := FuncId → List AV → AM → AS → Option (AE × AM × AS)
def evDef (clD : CallerD) (P : Program) (fn : Func) (fr : AF) : List AD → AM → AS → Option (AE × AS)
  | [], .ret, s => (resA P fr s fn.results.toList).bind fun l => some (.ret (resV l), s)
  | [], .pan ch, s => some (.pan ch, s)
  | d :: ds, m, s => match clD d.f (d.args ++ d.cap) m s with
    | some (.ret _, m, s) => evDef clD P fn fr ds (settleA m) s
    | some (.pan ch, m, s) => evDef clD P fn fr ds (raisedA m ch) s
    | none => none
def fnOf (ext : FuncId → Option Ext) (P : Program) (f : FuncId) (k : Nat) : Option (Func × Code) := match ext f with
  | none => (P.funcs[f]?).bind fun fn => match Nat.ble k fn.ntmps with
    | true => fn.body.bind fun c => some (fn, c)
    | false => none
  | some _ => none
def evFnD (ext : FuncId → Option Ext) (P : Program) (L : Nat) (cl : Caller) : CallerD := fun f args m s =>
  (fnOf ext P f args.length).bind fun p => match evCS ext P cl L p.2 ⟨p.1.ntmps, argsT args 0 .e, []⟩ m s with
    | some (.ok .nrm fr s, m) => match fr.ds with | [] => (resA P fr s p.1.results.toList).bind fun l => some (.ret (resV l), m, s) | _ => none
    | some (.ok .ret fr s, m) => match fr.ds with | [] => (resA P fr s p.1.results.toList).bind fun l => some (.ret (resV l), m, s) | _ => none
    | some (.ok (.pan ch) fr s, m) => match fr.ds with | [] => some (.pan ch, m, s) | _ => none
    | _ => none
def evFn (ext : FuncId → Option Ext) (P : Program) (L : Nat) : Nat → Caller
  | 0, _, _, _ => none
  | k + 1, f, args, s => (fnOf ext P f args.length).bind fun p => match evC ext P (evFn ext P L k) L p.2 ⟨p.1.ntmps, argsT args 0 .e, []⟩ s with
    | .ok .nrm fr s => evDef (evFnD ext P L (evFn ext P L k)) P p.1 fr fr.ds .ret s
    | .ok .ret fr s => evDef (evFnD ext P L (evFn ext P L k)) P p.1 fr fr.ds .ret s
    | .ok (.pan ch) fr s => evDef (evFnD ext P L (evFn ext P L k)) P p.1 fr fr.ds (.pan ch) s
    | _ => none
end Go.Proofs.YtkblmloobkiloaaGreatDoor.Ev
