
/-
  Two nodes held against each other; two records.
  The tables stand while a law writes into its own case.
  The mode of what is made, bit by bit, for RulesMade. No program in sight.
-/
import Derived.Test.YtlenlldiimohjaaGreatDoorV2
import Derived.Laws.StructEq
import Derived.Test.YtlenlldiimohjaaGreatDoorG1
import Derived.Test.YtlenlldiimohjaaGreatDoorW1
namespace Go.Proofs.YtlenlldiimohjaaGreatDoor
open Go.ChangeShapes Go.WideShapes Go.ChangeAt Go.RowKit

/-- Are two nodes one? -/
def ndEqB (a b : Nd) : Bool := a.path == b.path && (a.parent == b.parent && (a.name.toList == b.name.toList && (a.mode == b.mode && (a.uid.toList == b.uid.toList && (a.gid.toList == b.gid.toList && (a.muid.toList == b.muid.toList && (a.atime == b.atime && (a.mtime == b.mtime && (a.vers == b.vers && (a.length == b.length && (a.opens == b.opens && a.kids == b.kids)))))))))))
theorem ndEqB_iff {a b : Nd} : ndEqB a b = true ↔ a = b := by
  obtain ⟨a0, a1, a2, a3, a4, a5, a6, a7, a8, a9, a10, a11, a12⟩ := a
  obtain ⟨b0, b1, b2, b3, b4, b5, b6, b7, b8, b9, b10, b11, b12⟩ := b
  unfold ndEqB
  simp only [beq_str, decide_eq_true_iff, Bool.and_eq_true, beq_iff_eq, Nd.mk.injEq]
theorem ndEqB_self (a : Nd) : ndEqB a a = true := ndEqB_iff.2 rfl
theorem ndEqB_no {a b : Nd} (h : a ≠ b) : ndEqB a b = false := by
  cases hq : ndEqB a b with
  | false => rfl
  | true => exact absurd (ndEqB_iff.1 hq) h

theorem ite_b {α : Type} [BEq α] [LawfulBEq α] {x y : α} [Decidable (x = y)] {c : Bool} {X : Result Value} {w : World} (h : X = .ok (.bool c) w) : (if x = y then X else .ok (.bool false) w) = .ok (.bool (x == y && c)) w := by
  by_cases e : x = y
  · subst e; simp [h]
  · simp [e]
theorem run_eq_node (w : World) (a b : Nd) (x y : Operand) : (do eqGuard .eql 25 x y (nodeV a) (nodeV b); binOp .eql 25 (nodeV a) (nodeV b) : Sem Value).run Tryz.prog w = .ok (.bool (ndEqB a b)) w := by
  have hg : Tryz.prog.eqGuardType Tryz.prog.depth 25 = false := by kernel_rfl
  have hp : Tryz.prog.stoodInHeld 25 = false := by kernel_rfl
  have hu : Tryz.prog.underlying 25 = some (.struct (Tryz.prog.fieldsOf 25)) := by kernel_rfl
  rw [Sem.run_bind, run_eqGuard_agg w .eql 25 x y _ _ hg, Result.andThen_ok, run_eql_struct, run_equalIn_agg w 9999 25 _ _ hu hp]
  have e1 : ∀ (w : World) (a b : Int), (Op.equalIn 9999 22 (.int .u64 a) (.int .u64 b)).run Tryz.prog w = .ok (a == b) w := fun w a b => run_equalIn_int w 9998 _ _ _ a b Tryz.underlying22
  have e2 : ∀ (w : World) (a b : Int), (Op.equalIn 9999 23 (.int .u32 a) (.int .u32 b)).run Tryz.prog w = .ok (a == b) w := fun w a b => run_equalIn_int w 9998 _ _ _ a b Tryz.underlying23
  have e3 : ∀ (w : World) (a b : Int), (Op.equalIn 9999 3 (.int .i64 a) (.int .i64 b)).run Tryz.prog w = .ok (a == b) w := fun w a b => run_equalIn_int w 9998 _ _ _ a b Tryz.underlying3
  have e4 : ∀ (w : World) (a b : ByteArray), (Op.equalIn 9999 9 (.string a) (.string b)).run Tryz.prog w = .ok (a.toList == b.toList) w := fun w a b => run_equalIn_string w 9998 _ a b Tryz.underlying9
  simp only [Program.fieldsOf, Tryz.underlying25, Op.eqFields]
  simp [part, e1, e2, e3, e4, Result.andThen_ok, -ite_eq_right_iff]
  unfold ndEqB
  refine ite_b (ite_b (ite_b (ite_b (ite_b (ite_b (ite_b (ite_b (ite_b (ite_b (ite_b (ite_b ?_)))))))))))
  by_cases h : a.kids = b.kids <;> simp [h]
section
variable {ops : Array Oper} {rest : List Oper} {op : Oper} {a : Act} {w : World} {Q : Exit → Act → World → Prop}
/-- Two nodes are held against each other. -/
theorem weqN (m n : Nd) (hgd : Region.wanted op (yielded ops a.tmps) = true) (x y : Operand) {z : TypeId} (ho : op.op = .binOp .eql 25 x y z) (hx : a.eval x = nodeV m) (hy : a.eval y = nodeV n)
    (h : wpList Tryz.prog ops Q rest (a.put op.dst (.bool (ndEqB m n))) w) : wpList Tryz.prog ops Q (op :: rest) a w :=
  wpList_step fun K hK => by
    rw [if_pos hgd]
    unfold Oper.wp execOp
    simp only [ho, hx, hy]
    rw [Sem.run_bind, run_eq_node]
    exact hK _ _ h
end
end Go.Proofs.YtlenlldiimohjaaGreatDoor

namespace Go.Proofs.YtlenlldiimohjaaGreatDoor
open Go.ChangeShapes Go.WideShapes Go.ChangeAt Go.RowKit

section
variable {w w' : World} {g q : Nat} {L : List Acct} {t : TypeId} {cs : Array Value}
theorem PTab.other (h : PTab w g L) (hq : Blk w q t cs) (ht : t ≠ 139 ∧ t ≠ 9 ∧ t ≠ 127) (hw : ∀ i, i ≠ q → w'.heap[i]? = w.heap[i]?) : PTab w' g L := by
  obtain ⟨b, m, n, h⟩ := h
  obtain ⟨vl, h1, h2, h3, h4, h5⟩ := h
  have key : ∀ (i : Nat) c2 t2 fr, w.heap[i]? = some (.cells c2 t2 fr) → t2 ≠ t → w'.heap[i]? = w.heap[i]? := fun i c2 t2 fr hi hne => hw i (fun e => by
    subst e
    have := hi.symm.trans hq
    cases this
    exact hne rfl)
  have keym : ∀ (i : Nat) es ck, w.heap[i]? = some (.map es ck) → w'.heap[i]? = w.heap[i]? := fun i es ck hi => hw i (fun e => by
    subst e
    have := hi.symm.trans hq
    cases this)
  exact ⟨b, m, n, vl, (key g _ _ _ h1 (Ne.symm ht.1)).trans h1, h2.keep (fun i cur e fr hi he => key i cur e fr hi (he.elim (fun e => e ▸ Ne.symm ht.2.1) (fun e => e ▸ Ne.symm ht.2.2))), h3.keep (fun es ck hb => keym b es ck hb), h4.keep (fun es ck hb => keym m es ck hb), h5⟩
theorem RTab.other (h : RTab w g L) (hq : Blk w q t cs) (ht : t ≠ 135 ∧ t ≠ 9 ∧ t ≠ 127) (hw : ∀ i, i ≠ q → w'.heap[i]? = w.heap[i]?) : RTab w' g L := by
  obtain ⟨vl, h1, h2⟩ := h
  have key : ∀ (i : Nat) c2 t2 fr, w.heap[i]? = some (.cells c2 t2 fr) → t2 ≠ t → w'.heap[i]? = w.heap[i]? := fun i c2 t2 fr hi hne => hw i (fun e => by
    subst e
    have := hi.symm.trans hq
    cases this
    exact hne rfl)
  exact ⟨vl, (key g _ _ _ h1 (Ne.symm ht.1)).trans h1, h2.keep (fun i cur e fr hi he => key i cur e fr hi (he.elim (fun e => e ▸ Ne.symm ht.2.1) (fun e => e ▸ Ne.symm ht.2.2)))⟩
theorem setCell_other (w : World) (q i : Nat) (v : Value) : ∀ (j : Nat), j ≠ q → (w.setCell ⟨q, i, none⟩ v).heap[j]? = w.heap[j]? := fun _ hj => Below.heap_setCell _ _ _ _ hj
end

section
variable {ops : Array Oper} {rest : List Oper} {op : Oper} {a : Act} {w : World} {Q : Exit → Act → World → Prop} {q : Nat} {t : TypeId} {cs : Array Value}
theorem wstK (hk : Blk w q t cs) (o : Nat) (l : List Value) (cs' : Array Value) (hcs : over cs o l = cs') (hb : o + l.length ≤ cs.size) (h1 : l.toArray.all (·.oneCell') = true) (hgd : op.guard = none) (ty : TypeId) (x y : Operand) (ho : op.op = .store ty x y) (hx : a.eval x = .pointer (some ⟨q, o, none⟩)) (hy : a.eval y = .agg l.toArray)
    (hi : (Tryz.prog.info? ty).map (·.size) = some l.length)
    (h : ∀ w' : World, Blk w' q t cs' → (∀ i, i ≠ q → w'.heap[i]? = w.heap[i]?) → (∀ B (v : World), Below B v w → B ≤ q → Below B v w') → wpList Tryz.prog ops Q rest (a.put op.dst undef) w') : wpList Tryz.prog ops Q (op :: rest) a w :=
  wpList_store_mid hgd ty x y ho q o l.toArray hx hy (fun j hj => by
    have hj' : j < l.length := by simpa using hj
    refine ⟨?_, Blk.frozen hk _⟩
    rw [Blk.cell hk, Array.getElem?_eq_getElem (by omega)]
    rfl) (by simpa using hi) h1 (h _ (by rw [← hcs]; exact Blk.setCells_ _ _ hk) (fun i hi => setCells_other w q _ o i hi) (fun B v hb hq => below_setCells hb hq _ o))
theorem wst_caseK {text user name : ByteArray} {n p : Nd} {taken full : Bool} {perm mode : Int} (hk : Blk w q 29 (caseL text user n p taken full name perm mode).toArray) (d : Nd) (hgd : op.guard = none) (x y : Operand) (ho : op.op = .store 25 x y) (hx : a.eval x = .pointer (some ⟨q, 2, none⟩)) (hy : a.eval y = nodeV d)
    (h : ∀ w' : World, Blk w' q 29 (caseL text user d p taken full name perm mode).toArray → (∀ i, i ≠ q → w'.heap[i]? = w.heap[i]?) → (∀ B (v : World), Below B v w → B ≤ q → Below B v w') → wpList Tryz.prog ops Q rest (a.put op.dst undef) w') : wpList Tryz.prog ops Q (op :: rest) a w :=
  wstK hk 2 (nodeL d) _ (over_case text user name n p d taken full perm mode) (by show 2 + 13 ≤ 33; omega) (nodeV_cells d) hgd _ x y ho hx hy node_size h
end
end Go.Proofs.YtlenlldiimohjaaGreatDoor

namespace Go.Proofs.YtlenlldiimohjaaGreatDoor

theorem tb_compl (x i : Nat) (hx : x < 4294967296) : (4294967295 - x).testBit i = (decide (i < 32) && !x.testBit i) := by
  have h : 4294967295 - x = 2 ^ 32 - (x + 1) := by omega
  rw [h]
  exact Nat.testBit_two_pow_sub_succ (by omega) i
theorem tb_511 (i : Nat) : (511 : Nat).testBit i = decide (i < 9) := Nat.testBit_two_pow_sub_one 9 i
def madeX (P M : Nat) (d : Bool) : Nat := P &&& (4294967295 - (511 &&& (4294967295 - keepN M d)))
theorem keepN_lt (M : Nat) (d : Bool) : keepN M d < 512 := by
  have hl : M &&& 511 < 512 := Nat.lt_of_le_of_lt Nat.and_le_right (by omega)
  unfold keepN
  split
  · exact Nat.or_lt_two_pow (n := 9) hl (by omega)
  · exact hl
theorem madeS_X (P M : Nat) (hP : P < 4294967296) (hM : M < 4294967296) : madeS P M = ((madeX P M (bits .and .u32 (P : Int) 2147483648 == 0) : Nat) : Int) := by
  rw [madeS_nat P M hP hM, low_made]
  unfold madeX
  rw [made_nat P _ hP (keepN_lt _ _)]
section
variable (P M : Nat) (d : Bool) (i : Nat)
theorem keep_bit : (keepN M d).testBit i = ((M.testBit i && decide (i < 9)) || (d && (73 : Nat).testBit i)) := by
  unfold keepN
  cases d
  · simp [Nat.testBit_and, tb_511]
  · simp [Nat.testBit_and, Nat.testBit_or, tb_511]
theorem x_bit : (madeX P M d).testBit i = (P.testBit i && (decide (i < 32) && !(decide (i < 9) && (decide (i < 32) && !((M.testBit i && decide (i < 9)) || (d && (73 : Nat).testBit i)))))) := by
  have h1 := keepN_lt M d
  unfold madeX
  rw [Nat.testBit_and, tb_compl _ i (Nat.lt_of_le_of_lt Nat.and_le_left (by omega)), Nat.testBit_and, tb_511, tb_compl _ i (by omega), keep_bit]
theorem i9 : decide (i < 9) = true → decide (i < 32) = true := by simp; omega
end
section
variable {P M : Nat} {d : Bool}
theorem made_law1 (hM : M < 4294967296) : ((madeX P M d &&& 511) &&& (4294967295 - (if d then 73 else 0))) &&& (4294967295 - M) = 0 := by
  apply Nat.eq_of_testBit_eq
  intro i
  have hr : (if d then 73 else 0) < 4294967296 := by split <;> omega
  have hb : (if d then 73 else 0).testBit i = (d && (73 : Nat).testBit i) := by cases d <;> simp
  rw [Nat.testBit_and, Nat.testBit_and, Nat.testBit_and, x_bit, tb_511, tb_compl _ i hr, tb_compl _ i hM, hb, Nat.zero_testBit]
  generalize P.testBit i = a
  generalize M.testBit i = b
  generalize (73 : Nat).testBit i = c
  generalize decide (i < 9) = e
  generalize decide (i < 32) = f
  cases a <;> cases b <;> cases c <;> cases d <;> cases e <;> cases f <;> rfl
theorem made_law2 (hP : P < 4294967296) : madeX P M d &&& (4294967295 - P) = 0 := by
  apply Nat.eq_of_testBit_eq
  intro i
  rw [Nat.testBit_and, x_bit, tb_compl _ i hP, Nat.zero_testBit]
  generalize P.testBit i = a
  cases a <;> simp
theorem made_law3 : (madeX P M d ^^^ P) &&& (4294967295 - 511) = 0 := by
  apply Nat.eq_of_testBit_eq
  intro i
  rw [Nat.testBit_and, Nat.testBit_xor, x_bit, tb_compl _ i (by omega), tb_511, Nat.zero_testBit]
  generalize P.testBit i = a
  generalize M.testBit i = b
  generalize (73 : Nat).testBit i = c
  generalize decide (i < 9) = e
  generalize decide (i < 32) = f
  cases a <;> cases b <;> cases c <;> cases d <;> cases e <;> cases f <;> rfl
theorem made_law4 : madeX P M true &&& 73 = P &&& 73 := by
  apply Nat.eq_of_testBit_eq
  intro i
  have h9 := i9 i
  have h73 : (73 : Nat).testBit i = true → decide (i < 9) = true := by
    intro h
    by_cases hi : i < 9
    · simpa using hi
    · have := Nat.testBit_lt_two_pow (x := 73) (i := i) (Nat.lt_of_lt_of_le (show 73 < 2 ^ 9 by omega) (Nat.pow_le_pow_right (by omega) (by omega)))
      rw [this] at h
      cases h
  rw [Nat.testBit_and, Nat.testBit_and, x_bit]
  generalize P.testBit i = a
  generalize M.testBit i = b
  generalize (73 : Nat).testBit i = c at *
  generalize decide (i < 9) = e at *
  generalize decide (i < 32) = f at *
  cases a <;> cases b <;> cases c <;> cases e <;> cases f <;> simp_all
theorem made_law5 (h : M &&& 448 = 448) : madeX P M d &&& 448 = P &&& 448 := by
  apply Nat.eq_of_testBit_eq
  intro i
  have h9 := i9 i
  have h4 : (448 : Nat).testBit i = true → decide (i < 9) = true := by
    intro h
    by_cases hi : i < 9
    · simpa using hi
    · have := Nat.testBit_lt_two_pow (x := 448) (i := i) (Nat.lt_of_lt_of_le (show 448 < 2 ^ 9 by omega) (Nat.pow_le_pow_right (by omega) (by omega)))
      rw [this] at h
      cases h
  have hm : (M.testBit i && (448 : Nat).testBit i) = (448 : Nat).testBit i := by rw [← Nat.testBit_and, h]
  rw [Nat.testBit_and, Nat.testBit_and, x_bit]
  generalize P.testBit i = a
  generalize M.testBit i = b at *
  generalize (73 : Nat).testBit i = c at *
  generalize (448 : Nat).testBit i = g at *
  generalize decide (i < 9) = e at *
  generalize decide (i < 32) = f at *
  cases a <;> cases b <;> cases c <;> cases d <;> cases e <;> cases f <;> cases g <;> simp_all
end
end Go.Proofs.YtlenlldiimohjaaGreatDoor
