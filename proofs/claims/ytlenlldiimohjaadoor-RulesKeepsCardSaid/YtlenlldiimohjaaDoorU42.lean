/-
  vergerlaw09: RulesKeeps. Condition: the tables of utf8 lie as laid.
-/
import Derived.Test.YtlenlldiimohjaaDoorWst
import Derived.Test.YtlenlldiimohjaaDoorClsL
import Derived.Test.YtlenlldiimohjaaDoorOpen
import Derived.IntWalk
namespace Go.Proofs.YtlenlldiimohjaaDoor
open Go.ChangeShapes Go.WideShapes Go.ChangeAt Go.RowKit

/-- Where the law stands: its case, its record. -/
def KB (w0 : World) (cs : Array Value) (s : St) (w : World) : Prop := LAt w0 cs w ∧ SBlk w (w0.heap.size + 1) s
/-- And with the table, and a node. -/
def KQ (w0 : World) (cs : Array Value) (s : St) (g : Nat) (L : List Acct) (q : Nat) (x : Nd) (w : World) : Prop := KB w0 cs s w ∧ PTab w g L ∧ NBlk w q x
section
variable {w0 w w' : World} {cs : Array Value} {s : St} {g q : Nat} {L : List Acct} {x : Nd} {text user name : ByteArray} {n p : Nd} {taken full : Bool} {perm mode : Int}
theorem KB.next (h : KB w0 cs s w) (hb : Below w.heap.size w w') : KB w0 cs s w' := ⟨h.1.next hb, h.2.below hb⟩
theorem KB.at_ (h : KB w0 cs s w) : LAt w0 cs w := h.1
theorem KB.sb (h : KB w0 cs s w) : SBlk w (w0.heap.size + 1) s := h.2
theorem KB.start (hr : Ready w0) (cs : Array Value) (s : St) : KB w0 cs s ((w0.alloc (Obj.cells cs 38)).alloc (Obj.cells (statL s).toArray 66)) := by
  have h2 : SBlk ((w0.alloc (Obj.cells cs 38)).alloc (Obj.cells (statL s).toArray 66)) (w0.alloc (Obj.cells cs 38)).heap.size s := Blk.new _ _ _
  simp only [World.size_alloc] at h2
  exact ⟨(LAt.start hr cs).next ((Below.refl _ _).alloc (Nat.le_refl _) _), h2⟩
theorem KQ.next (h : KQ w0 cs s g L q x w) (hb : Below w.heap.size w w') : KQ w0 cs s g L q x w' := ⟨h.1.next hb, h.2.1.below hb, h.2.2.below hb⟩
theorem KQ.kb (h : KQ w0 cs s g L q x w) : KB w0 cs s w := h.1
theorem KQ.pt (h : KQ w0 cs s g L q x w) : PTab w g L := h.2.1
theorem KQ.nb (h : KQ w0 cs s g L q x w) : NBlk w q x := h.2.2
variable {ops : Array Oper} {op : Oper} {a : Act} {K : Act → World → Prop} {Q : Exit → Act → World → Prop}
theorem yKC (hw : Region.wanted op (yielded ops a.tmps) = true) (y : Operand) (ho : op.op = .load 38 y) (hx : a.eval y = .pointer (some ⟨w0.heap.size, 0, none⟩)) : YieldsIf Tryd.prog ops (KB w0 (caseL text user n p taken full name perm mode).toArray s) op (caseV text user n p taken full name perm mode) a :=
  yieldsIf_load_mid hw _ y ho _ _ hx (caseL text user n p taken full name perm mode) _ (fun _ hS => Blk.range hS.1.cb 0 _ rfl) Tryd.underlying38 rfl case_size
theorem yKF (hw : Region.wanted op (yielded ops a.tmps) = true) (y : Operand) (ho : op.op = .load 36 y) (hx : a.eval y = .pointer (some ⟨w0.heap.size, 2, none⟩)) : YieldsIf Tryd.prog ops (KQ w0 (caseL text user n p taken full name perm mode).toArray s g L q x) op (factsV n p taken full) a :=
  yieldsIf_load_mid hw _ y ho _ _ hx (factsL n p taken full) _ (fun _ hS => Blk.range hS.1.1.cb 2 _ rfl) Tryd.underlying36 rfl facts_size
theorem yKN (hw : Region.wanted op (yielded ops a.tmps) = true) (y : Operand) (ho : op.op = .load 34 y) (hx : a.eval y = .pointer (some ⟨q, 0, none⟩)) : YieldsIf Tryd.prog ops (KQ w0 cs s g L q x) op (nodeV x) a :=
  yieldsIf_load_mid hw _ y ho _ _ hx (nodeL x) _ (fun _ hS => Blk.range hS.2.2 0 _ rfl) Tryd.underlying34 rfl node_size
/-- A node is stored whole, at a step of a region. -/
theorem wp_storeN {n0 : Nd} (hk : NBlk w q n0) (m : Nd) (y z : Operand) (ho : op.op = .store 34 y z) (hx : a.eval y = .pointer (some ⟨q, 0, none⟩)) (hy : a.eval z = nodeV m)
    (hd : op.dst = none) (h : K a (w.setCells q 0 (nodeL m))) : op.wp Tryd.prog a w K Q :=
  wp_store_mid _ y z ho q 0 (nodeL m).toArray hx hy (fun j hj => by
    have hj' : j < 13 := by simpa using hj
    rw [Nat.zero_add]
    refine ⟨?_, Blk.frozen hk j⟩
    rw [Blk.cell hk j, Array.getElem?_eq_getElem (by simpa using hj')]
    rfl) node_size (nodeV_cells m) (by rw [hd]; exact h)
end
theorem KB.k9 {w0 w : World} {cs : Array Value} {s : St} (h : KB w0 cs s w) : w.cell? ⟨w0.heap.size + 1, 9, none⟩ = some (.string s.name) := Blk.cell h.2 9
theorem KB.k10 {w0 w : World} {cs : Array Value} {s : St} (h : KB w0 cs s w) : w.cell? ⟨w0.heap.size + 1, 10, none⟩ = some (.string s.uid) := Blk.cell h.2 10
theorem KB.k11 {w0 w : World} {cs : Array Value} {s : St} (h : KB w0 cs s w) : w.cell? ⟨w0.heap.size + 1, 11, none⟩ = some (.string s.gid) := Blk.cell h.2 11
theorem KB.k12 {w0 w : World} {cs : Array Value} {s : St} (h : KB w0 cs s w) : w.cell? ⟨w0.heap.size + 1, 12, none⟩ = some (.string s.muid) := Blk.cell h.2 12
theorem not_of {r : Result Bool} {c : Bool} {w : World} (h : (r.andThen fun b w' => .ok (.bool b) w') = (.ok (.bool c) w : Result Value)) : (r.andThen fun b w' => .ok (.bool (!b)) w') = (.ok (.bool (!c)) w : Result Value) := by
  cases r with
  | ok v w2 =>
    simp only [Result.andThen_ok] at h ⊢
    injection h with h1 h2
    injection h1 with h1
    rw [h1, h2]
  | halt _ _ => simp [Result.andThen] at h
theorem run_ne_node (w : World) (a b : Nd) (x y : Operand) : (do eqGuard .neq 34 x y (nodeV a) (nodeV b); binOp .neq 34 (nodeV a) (nodeV b) : Sem Value).run Tryd.prog w = .ok (.bool (!ndEqB a b)) w := by
  have hg : Tryd.prog.eqGuardType Tryd.prog.depth 34 = false := by kernel_rfl
  have h := run_eq_node w a b x y
  rw [Sem.run_bind, run_eqGuard_agg w .eql 34 x y _ _ hg, Result.andThen_ok, run_eql_struct] at h
  rw [Sem.run_bind, run_eqGuard_agg w .neq 34 x y _ _ hg, Result.andThen_ok, run_neq_struct]
  exact not_of h
section
variable {ops : Array Oper} {rest : List Oper} {op : Oper} {a : Act} {w : World} {Q : Exit → Act → World → Prop}
theorem wneN (m n : Nd) (hgd : Region.wanted op (yielded ops a.tmps) = true) (x y : Operand) {z : TypeId} (ho : op.op = .binOp .neq 34 x y z) (hx : a.eval x = nodeV m) (hy : a.eval y = nodeV n)
    (h : wpList Tryd.prog ops Q rest (a.put op.dst (.bool (!ndEqB m n))) w) : wpList Tryd.prog ops Q (op :: rest) a w :=
  wpList_step fun K hK => by
    rw [if_pos hgd]
    unfold Oper.wp execOp
    simp only [ho, hx, hy]
    rw [Sem.run_bind, run_ne_node]
    exact hK _ _ h
end

def ifv (c : Bool) (v : Value) : Value := if c = true then v else undef
theorem ifv_pos {c : Bool} {v : Value} (h : c = true) : ifv c v = v := if_pos h
section
variable {ops : Array Oper} {rest : List Oper} {op : Oper} {a : Act} {w : World} {Q : Exit → Act → World → Prop}
/-- An operation's guard is a slot that holds c. -/
theorem wanted_by {j d : Nat} {c : Bool} (hg : op.guard = some (j, true)) (hj : (ops[j]?).bind (·.dst) = some d) (hd : a.tmps[d]? = some (.bool c)) : Region.wanted op (yielded ops a.tmps) = c := by
  unfold Region.wanted yielded
  rw [hg]
  simp only [hj, Option.bind_some, hd]
  cases c <;> rfl
theorem wpList_val (d : Nat) {v : Value} (hd : op.dst = some d) (hw : Region.wanted op (yielded ops a.tmps) = true) (hy : (execOp a.eval op).run Tryd.prog w = .ok (.value v) w) (h : wpList Tryd.prog ops Q rest (a.put (some d) v) w) : wpList Tryd.prog ops Q (op :: rest) a w :=
  wpList_step fun K hK => by
    rw [if_pos hw]
    unfold Oper.wp
    rw [hy, Oper.upon_value, hd]
    exact hK _ _ h
theorem wpList_ifv (d : Nat) {v : Value} {c : Bool} (hd : op.dst = some d) (hw : Region.wanted op (yielded ops a.tmps) = c) (hy : c = true → (execOp a.eval op).run Tryd.prog w = .ok (.value v) w) (h : wpList Tryd.prog ops Q rest (a.put (some d) (ifv c v)) w) : wpList Tryd.prog ops Q (op :: rest) a w := by
  cases c with
  | true => exact wpList_val d hd hw (hy rfl) h
  | false => exact wpList_skip hw (by rw [hd]; exact h)
theorem ex_mv (x : Operand) {v : Value} (ho : op.op = .move x) (hx : a.eval x = v) : (execOp a.eval op).run Tryd.prog w = .ok (.value v) w := by
  unfold execOp
  simp only [ho, hx]
  rfl
theorem ex_pk (x y z : Operand) {c : Bool} {u v r : Value} (ho : op.op = .pick x y z) (hx : a.eval x = .bool c) (hy : a.eval y = u) (hz : a.eval z = v) (hr : (if c = true then u else v) = r) : (execOp a.eval op).run Tryd.prog w = .ok (.value r) w := by
  subst hr
  unfold execOp
  simp only [ho, hx, hy, hz]
  cases c <;> rfl
theorem ex_fn2 (x : Operand) {q : Nat} (ho : op.op = .fieldAddr 34 x 2) (hx : a.eval x = .pointer (some ⟨q, 0, none⟩)) : (execOp a.eval op).run Tryd.prog w = .ok (.value (.pointer (some ⟨q, 2, none⟩))) w := by
  unfold execOp
  simp only [ho, hx]
  go_simp
theorem ex_fn3 (x : Operand) {q : Nat} (ho : op.op = .fieldAddr 34 x 3) (hx : a.eval x = .pointer (some ⟨q, 0, none⟩)) : (execOp a.eval op).run Tryd.prog w = .ok (.value (.pointer (some ⟨q, 3, none⟩))) w := by
  unfold execOp
  simp only [ho, hx]
  go_simp
theorem ex_fn5 (x : Operand) {q : Nat} (ho : op.op = .fieldAddr 34 x 5) (hx : a.eval x = .pointer (some ⟨q, 0, none⟩)) : (execOp a.eval op).run Tryd.prog w = .ok (.value (.pointer (some ⟨q, 5, none⟩))) w := by
  unfold execOp
  simp only [ho, hx]
  go_simp
theorem ex_fn8 (x : Operand) {q : Nat} (ho : op.op = .fieldAddr 34 x 8) (hx : a.eval x = .pointer (some ⟨q, 0, none⟩)) : (execOp a.eval op).run Tryd.prog w = .ok (.value (.pointer (some ⟨q, 8, none⟩))) w := by
  unfold execOp
  simp only [ho, hx]
  go_simp
theorem ex_fn10 (x : Operand) {q : Nat} (ho : op.op = .fieldAddr 34 x 10) (hx : a.eval x = .pointer (some ⟨q, 0, none⟩)) : (execOp a.eval op).run Tryd.prog w = .ok (.value (.pointer (some ⟨q, 10, none⟩))) w := by
  unfold execOp
  simp only [ho, hx]
  go_simp
theorem ex_fs3 (x : Operand) {q : Nat} (ho : op.op = .fieldAddr 66 x 3) (hx : a.eval x = .pointer (some ⟨q, 0, none⟩)) : (execOp a.eval op).run Tryd.prog w = .ok (.value (.pointer (some ⟨q, 5, none⟩))) w := by
  unfold execOp
  simp only [ho, hx]
  go_simp
theorem ex_fs5 (x : Operand) {q : Nat} (ho : op.op = .fieldAddr 66 x 5) (hx : a.eval x = .pointer (some ⟨q, 0, none⟩)) : (execOp a.eval op).run Tryd.prog w = .ok (.value (.pointer (some ⟨q, 7, none⟩))) w := by
  unfold execOp
  simp only [ho, hx]
  go_simp
theorem ex_fs6 (x : Operand) {q : Nat} (ho : op.op = .fieldAddr 66 x 6) (hx : a.eval x = .pointer (some ⟨q, 0, none⟩)) : (execOp a.eval op).run Tryd.prog w = .ok (.value (.pointer (some ⟨q, 8, none⟩))) w := by
  unfold execOp
  simp only [ho, hx]
  go_simp
theorem ex_fs7 (x : Operand) {q : Nat} (ho : op.op = .fieldAddr 66 x 7) (hx : a.eval x = .pointer (some ⟨q, 0, none⟩)) : (execOp a.eval op).run Tryd.prog w = .ok (.value (.pointer (some ⟨q, 9, none⟩))) w := by
  unfold execOp
  simp only [ho, hx]
  go_simp
theorem ex_fs9 (x : Operand) {q : Nat} (ho : op.op = .fieldAddr 66 x 9) (hx : a.eval x = .pointer (some ⟨q, 0, none⟩)) : (execOp a.eval op).run Tryd.prog w = .ok (.value (.pointer (some ⟨q, 11, none⟩))) w := by
  unfold execOp
  simp only [ho, hx]
  go_simp
theorem ex_lu32 (x : Operand) {q i : Nat} {v : Int} (ho : op.op = .load 23 x) (hx : a.eval x = .pointer (some ⟨q, i, none⟩)) (hc : w.cell? ⟨q, i, none⟩ = some (.int .u32 v)) : (execOp a.eval op).run Tryd.prog w = .ok (.value (.int .u32 v)) w := by
  unfold execOp
  simp only [ho, hx]
  go_simp
theorem ex_nu32 (x y : Operand) {i j : Int} (ho : op.op = .binOp .neq 23 x y 23) (hx : a.eval x = .int .u32 i) (hy : a.eval y = .int .u32 j) : (execOp a.eval op).run Tryd.prog w = .ok (.value (.bool (i != j))) w := by
  unfold execOp
  simp only [ho, hx, hy]
  go_simp
theorem ex_lu64 (x : Operand) {q i : Nat} {v : Int} (ho : op.op = .load 32 x) (hx : a.eval x = .pointer (some ⟨q, i, none⟩)) (hc : w.cell? ⟨q, i, none⟩ = some (.int .u64 v)) : (execOp a.eval op).run Tryd.prog w = .ok (.value (.int .u64 v)) w := by
  unfold execOp
  simp only [ho, hx]
  go_simp
theorem ex_nu64 (x y : Operand) {i j : Int} (ho : op.op = .binOp .neq 32 x y 32) (hx : a.eval x = .int .u64 i) (hy : a.eval y = .int .u64 j) : (execOp a.eval op).run Tryd.prog w = .ok (.value (.bool (i != j))) w := by
  unfold execOp
  simp only [ho, hx, hy]
  go_simp
theorem ex_lstr (x : Operand) {q i : Nat} {v : ByteArray} (ho : op.op = .load 9 x) (hx : a.eval x = .pointer (some ⟨q, i, none⟩)) (hc : w.cell? ⟨q, i, none⟩ = some (.string v)) : (execOp a.eval op).run Tryd.prog w = .ok (.value (.string v)) w := by
  unfold execOp
  simp only [ho, hx]
  go_simp
theorem ex_nstr (x y : Operand) {i j : ByteArray} (ho : op.op = .binOp .neq 9 x y 9) (hx : a.eval x = .string i) (hy : a.eval y = .string j) : (execOp a.eval op).run Tryd.prog w = .ok (.value (.bool (!(i.toList == j.toList)))) w := by
  unfold execOp
  simp only [ho, hx, hy]
  go_simp
theorem pk_no {c b : Bool} (h : c = true → b = false) : (if c = true then ifv c (.bool b) else .bool false) = .bool false := by
  cases c with
  | true => rw [if_pos rfl, ifv_pos rfl, h rfl]
  | false => rfl
end
theorem orI {p q : Bool} (h : p = false ∨ (p = true ∧ q = false)) : p = true → q = false := fun hp => by
  rcases h with h | h
  · rw [hp] at h; cases h
  · exact h.2
theorem orS {p q : Bool} (h : p = true ∨ (p = false ∧ q = true)) : p = false → q = true := fun hp => by
  rcases h with h | h
  · rw [hp] at h; cases h
  · exact h.2
theorem orS4 {p q : Bool} (h : p = true ∨ (p = false ∧ q = true)) : (!p) = true → (!q) = false := fun hp => by
  rcases h with h | h
  · rw [h] at hp; cases hp
  · rw [h.2]; rfl
theorem keep_int (c : Bool) (a b : Int) : ((if c = true then b else a) != a) = false ∨ (((if c = true then b else a) != a) = true ∧ ((if c = true then b else a) != b) = false) := by
  cases c
  · simp
  · cases h : (b != a) <;> simp [h]
theorem keep_str (c : Bool) (a b : ByteArray) : ((if c = true then b else a).toList == a.toList) = true ∨ (((if c = true then b else a).toList == a.toList) = false ∧ ((if c = true then b else a).toList == b.toList) = true) := by
  cases c
  · simp
  · cases h : (b.toList == a.toList) <;> simp [h]
theorem KQ.far {w0 w : World} {cs : Array Value} {s : St} {g q z i : Nat} {L : List Acct} {x m : Nd} {v : Value} (h : KQ w0 cs s g L q x w) (hr : Ready w0) (hz : w0.heap.size + 1 < z) (hq : q ≠ z) (hk : NBlk w z m) : KQ w0 cs s g L q x (w.setCell ⟨z, i, none⟩ v) :=
  ⟨⟨h.1.1.far hr (by omega), Blk.far h.1.2 (by show w0.heap.size + 1 ≠ z; omega) v⟩, h.2.1.setN hk, Blk.far h.2.2 hq v⟩

set_option maxRecDepth 100000 in
set_option maxHeartbeats 12000000 in
theorem lawKeeps_calls (text user : ByteArray) (n p : Nd) (taken full : Bool) (name : ByteArray) (perm mode : Int) (s : St) (w : World) (hr : Ready w)
    (h1 : text.size ≤ reachBytes) (h2 : user.size ≤ reachBytes) (h3 : n.came) (h4 : p.came) (h5 : name.size ≤ reachBytes) (h6 : s.came) :
    Calls Tryd.prog 11 #[caseV text user n p taken full name perm mode, statV s] w fun e w' => e = .returned (.bool true) ∧ Below w.heap.size w w' := by
  have HT := Lib.hid (KB.start hr (caseL text user n p taken full name perm mode).toArray s)
  obtain ⟨mu, hmu⟩ : ∃ k, muchN text user n p name = k := ⟨_, rfl⟩
  have HM := Lib.hid (fun (w : World) => hmu ▸ much_calls text user n p taken full name perm mode w h1 h2 h3 h4 h5)
  obtain ⟨-, -, g1, g2, g3, g4⟩ := id h3
  obtain ⟨-, -, k1, k2, k3, k4⟩ := id h4
  obtain ⟨s0, s1, l1, l2, l3, l4⟩ := h6
  have hmz : mu ≤ 11 * reachBytes := by
    rw [← hmu]
    unfold muchN
    omega
  unfold reachBytes at hmz l1 l2 l3 l4
  by_cases hbig : 8388608 < mu + s.name.size + s.uid.size + s.gid.size + s.muid.size
  · have hle : (8388608 : Int) < (mu : Int) + (s.name.size : Int) + (s.uid.size : Int) + (s.gid.size : Int) + (s.muid.size : Int) := by omega
    clear h1 h2 h3 h4 h5 hr hmu g1 g2 g3 g4 k1 k2 k3 k4 hbig s0 s1
    go_enter Tryd.func11, Tryd.ntmps11
    go_upto_region 1 with (fail)
    generalize (w.alloc (Obj.cells _ _)).alloc (Obj.cells _ _) = w1 at HT ⊢
    refine wp_region_held_drew (S := KB w (caseL text user n p taken full name perm mode).toArray s) (by kernel_rfl) (HT.out.next (below_drew _)) (fun hHeld => ?_)
    refine wpAnyH_takeD 17 (i := 0) rfl rfl (by kernel_rfl) (by kernel_rfl) (by kernel_rfl) (fun _ _ _ h => h) (yKC (by rfl) _ rfl rfl) (by assumption) ?_
    simp only [Act.put, List.setIfInBounds_toArray, List.set_cons_zero, List.set_cons_succ]
    refine wpAnyH_takeD 19 (i := 2) (v := .pointer (some ⟨w.heap.size + 1, 9, none⟩)) rfl rfl (by kernel_rfl) (by kernel_rfl) (by kernel_rfl) (fun _ _ _ h => h) (Or.inl ⟨by rfl, fun wq hSw => by go_simp⟩) (by assumption) ?_
    simp only [Act.put, List.setIfInBounds_toArray, List.set_cons_zero, List.set_cons_succ]
    refine wpAnyH_takeD 20 (i := 3) (v := .string s.name) rfl rfl (by kernel_rfl) (by kernel_rfl) (by kernel_rfl) (fun _ _ _ h => h) (Or.inl ⟨by rfl, fun wq hSw => by have k := hSw.k9; go_simp⟩) (by assumption) ?_
    simp only [Act.put, List.setIfInBounds_toArray, List.set_cons_zero, List.set_cons_succ]
    refine wpAnyH_takeD 21 (i := 4) (v := .int .i64 (s.name.size : Int)) rfl rfl (by kernel_rfl) (by kernel_rfl) (by kernel_rfl) (fun _ _ _ h => h) (Or.inl ⟨by rfl, fun wq hSw => by go_simp⟩) (by assumption) ?_
    simp only [Act.put, List.setIfInBounds_toArray, List.set_cons_zero, List.set_cons_succ]
    refine wpAnyH_takeD 23 (i := 6) (v := .pointer (some ⟨w.heap.size + 1, 10, none⟩)) rfl rfl (by kernel_rfl) (by kernel_rfl) (by kernel_rfl) (fun _ _ _ h => h) (Or.inl ⟨by rfl, fun wq hSw => by go_simp⟩) (by assumption) ?_
    simp only [Act.put, List.setIfInBounds_toArray, List.set_cons_zero, List.set_cons_succ]
    refine wpAnyH_takeD 24 (i := 7) (v := .string s.uid) rfl rfl (by kernel_rfl) (by kernel_rfl) (by kernel_rfl) (fun _ _ _ h => h) (Or.inl ⟨by rfl, fun wq hSw => by have k := hSw.k10; go_simp⟩) (by assumption) ?_
    simp only [Act.put, List.setIfInBounds_toArray, List.set_cons_zero, List.set_cons_succ]
    refine wpAnyH_takeD 25 (i := 8) (v := .int .i64 (s.uid.size : Int)) rfl rfl (by kernel_rfl) (by kernel_rfl) (by kernel_rfl) (fun _ _ _ h => h) (Or.inl ⟨by rfl, fun wq hSw => by go_simp⟩) (by assumption) ?_
    simp only [Act.put, List.setIfInBounds_toArray, List.set_cons_zero, List.set_cons_succ]
    refine wpAnyH_takeD 27 (i := 10) (v := .pointer (some ⟨w.heap.size + 1, 11, none⟩)) rfl rfl (by kernel_rfl) (by kernel_rfl) (by kernel_rfl) (fun _ _ _ h => h) (Or.inl ⟨by rfl, fun wq hSw => by go_simp⟩) (by assumption) ?_
    simp only [Act.put, List.setIfInBounds_toArray, List.set_cons_zero, List.set_cons_succ]
    refine wpAnyH_takeD 28 (i := 11) (v := .string s.gid) rfl rfl (by kernel_rfl) (by kernel_rfl) (by kernel_rfl) (fun _ _ _ h => h) (Or.inl ⟨by rfl, fun wq hSw => by have k := hSw.k11; go_simp⟩) (by assumption) ?_
    simp only [Act.put, List.setIfInBounds_toArray, List.set_cons_zero, List.set_cons_succ]
    refine wpAnyH_takeD 29 (i := 12) (v := .int .i64 (s.gid.size : Int)) rfl rfl (by kernel_rfl) (by kernel_rfl) (by kernel_rfl) (fun _ _ _ h => h) (Or.inl ⟨by rfl, fun wq hSw => by go_simp⟩) (by assumption) ?_
    simp only [Act.put, List.setIfInBounds_toArray, List.set_cons_zero, List.set_cons_succ]
    refine wpAnyH_takeD 31 (i := 14) (v := .pointer (some ⟨w.heap.size + 1, 12, none⟩)) rfl rfl (by kernel_rfl) (by kernel_rfl) (by kernel_rfl) (fun _ _ _ h => h) (Or.inl ⟨by rfl, fun wq hSw => by go_simp⟩) (by assumption) ?_
    simp only [Act.put, List.setIfInBounds_toArray, List.set_cons_zero, List.set_cons_succ]
    refine wpAnyH_takeD 32 (i := 15) (v := .string s.muid) rfl rfl (by kernel_rfl) (by kernel_rfl) (by kernel_rfl) (fun _ _ _ h => h) (Or.inl ⟨by rfl, fun wq hSw => by have k := hSw.k12; go_simp⟩) (by assumption) ?_
    simp only [Act.put, List.setIfInBounds_toArray, List.set_cons_zero, List.set_cons_succ]
    refine wpAnyH_takeD 33 (i := 16) (v := .int .i64 (s.muid.size : Int)) rfl rfl (by kernel_rfl) (by kernel_rfl) (by kernel_rfl) (fun _ _ _ h => h) (Or.inl ⟨by rfl, fun wq hSw => by go_simp⟩) (by assumption) ?_
    simp only [Act.put, List.setIfInBounds_toArray, List.set_cons_zero, List.set_cons_succ]
    refine wpAnyH_ready (rs := [1]) (by kernel_rfl) (by simp) ?_
    refine AllReadyH.cons rfl (fun K hK => ?_) AllReadyH.nil
    rw [if_pos (by rfl)]
    go_simp
    refine (HM.out _).mono ?_
    rintro e w3 ⟨rfl, hb⟩
    dsimp only
    have hOld := hHeld.next hb
    clear hHeld hb
    refine hK.out _ _ hOld (fun hHeld => ?_)
    clear hK hOld
    refine wpAnyH_takeD 22 (i := 5) (v := .int .i64 ((mu : Int) + (s.name.size : Int))) rfl rfl (by kernel_rfl) (by kernel_rfl) (by kernel_rfl) (fun _ _ _ h => h) (Or.inl ⟨by rfl, fun wq hSw => by go_simp <;> exact IntWalk.i64_in _ (by omega)⟩) (by assumption) ?_
    simp only [Act.put, List.setIfInBounds_toArray, List.set_cons_zero, List.set_cons_succ]
    refine wpAnyH_takeD 26 (i := 9) (v := .int .i64 ((mu : Int) + (s.name.size : Int) + (s.uid.size : Int))) rfl rfl (by kernel_rfl) (by kernel_rfl) (by kernel_rfl) (fun _ _ _ h => h) (Or.inl ⟨by rfl, fun wq hSw => by go_simp <;> exact IntWalk.i64_in _ (by omega)⟩) (by assumption) ?_
    simp only [Act.put, List.setIfInBounds_toArray, List.set_cons_zero, List.set_cons_succ]
    refine wpAnyH_takeD 30 (i := 13) (v := .int .i64 ((mu : Int) + (s.name.size : Int) + (s.uid.size : Int) + (s.gid.size : Int))) rfl rfl (by kernel_rfl) (by kernel_rfl) (by kernel_rfl) (fun _ _ _ h => h) (Or.inl ⟨by rfl, fun wq hSw => by go_simp <;> exact IntWalk.i64_in _ (by omega)⟩) (by assumption) ?_
    simp only [Act.put, List.setIfInBounds_toArray, List.set_cons_zero, List.set_cons_succ]
    refine wpAnyH_takeD 34 (i := 17) (v := .int .i64 ((mu : Int) + (s.name.size : Int) + (s.uid.size : Int) + (s.gid.size : Int) + (s.muid.size : Int))) rfl rfl (by kernel_rfl) (by kernel_rfl) (by kernel_rfl) (fun _ _ _ h => h) (Or.inl ⟨by rfl, fun wq hSw => by go_simp <;> exact IntWalk.i64_in _ (by omega)⟩) (by assumption) ?_
    simp only [Act.put, List.setIfInBounds_toArray, List.set_cons_zero, List.set_cons_succ]
    refine wpAnyH_takeD 35 (i := 18) (v := .bool true) rfl rfl (by kernel_rfl) (by kernel_rfl) (by kernel_rfl) (fun _ _ _ h => h) (Or.inl ⟨by rfl, fun wq hSw => by go_simp⟩) (by assumption) ?_
    simp only [Act.put, List.setIfInBounds_toArray, List.set_cons_zero, List.set_cons_succ]
    refine wpAnyH_done (by kernel_rfl) ?_ _
    replace HT := Lib.hid hHeld
    clear hHeld
    go_wp2_with fail
    go_ret
    exact ⟨rfl, HT.out.at_.low⟩
  · have hle : ¬ (8388608 : Int) < (mu : Int) + (s.name.size : Int) + (s.uid.size : Int) + (s.gid.size : Int) + (s.muid.size : Int) := by omega
    have hmn : muchN text user n p name ≤ 8388608 := by omega
    unfold muchN at hmn
    have HNn := Lib.hid (came_ok h3 (by omega) (by omega) (by omega) (by omega))
    have HP := Lib.hid (came_ok h4 (by omega) (by omega) (by omega) (by omega))
    have HU := Lib.hid (show user.size ≤ 16777216 by omega)
    have HSG := Lib.hid (show s.gid.size ≤ 16777216 by omega)
    have HW1 := Lib.hid (wstat_none (L := tableL text) (user := user) (n := n) (p := p) (taken := taken) (touch_same (recS n)))
    have HW2 := Lib.hid (wstat_none (L := tableL text) (user := user) (n := n) (p := p) (taken := taken) (touch_keep (recS n)))
    have HW1G := Lib.hid (show (recS n).gid.size ≤ 16777216 from HNn.out.2.2.2.2.1)
    have HW2G := Lib.hid (show keepS.gid.size ≤ 16777216 from Nat.zero_le _)
    have HRY := Lib.hid hr
    obtain ⟨m, e3, hme⟩ : ∃ a b, wstatS (tableL text) user n p taken s = (a, b) := ⟨_, _, rfl⟩
    have htwo := wstat_two (L := tableL text) (user := user) (n := n) (p := p) (taken := taken) (s := s)
    rw [hme] at htwo
    have HTW := Lib.hid htwo
    have HME := Lib.hid hme
    have HOK := Lib.hid (show (chN n s (touchB s (recS n))).ok from by
      have hh := HNn.out
      refine ⟨?_, ?_, ?_, hh.2.2.2.1, ?_, hh.2.2.2.2.2⟩
      · show 0 ≤ (if touchB s (recS n) 5 = true then s.mode else n.mode); split; exact s0; exact hh.1
      · show (if touchB s (recS n) 5 = true then s.mode else n.mode) < 4294967296; split; exact s1; exact hh.2.1
      · show (if touchB s (recS n) 9 = true then s.name else n.name).size ≤ 16777216; split; omega; exact hh.2.2.1
      · show (if touchB s (recS n) 11 = true then s.gid else n.gid).size ≤ 16777216; split; omega; exact hh.2.2.2.2.1)
    clear htwo hme h1 h2 h3 h4 h5 hr hmu g1 g2 g3 g4 k1 k2 k3 k4 hbig s0 s1 hmn
    go_enter Tryd.func11, Tryd.ntmps11
    go_upto_region 1 with (fail)
    generalize (w.alloc (Obj.cells _ _)).alloc (Obj.cells _ _) = w1 at HT ⊢
    refine wp_region_held_drew (S := KB w (caseL text user n p taken full name perm mode).toArray s) (by kernel_rfl) (HT.out.next (below_drew _)) (fun hHeld => ?_)
    refine wpAnyH_takeD 17 (i := 0) rfl rfl (by kernel_rfl) (by kernel_rfl) (by kernel_rfl) (fun _ _ _ h => h) (yKC (by rfl) _ rfl rfl) (by assumption) ?_
    simp only [Act.put, List.setIfInBounds_toArray, List.set_cons_zero, List.set_cons_succ]
    refine wpAnyH_takeD 19 (i := 2) (v := .pointer (some ⟨w.heap.size + 1, 9, none⟩)) rfl rfl (by kernel_rfl) (by kernel_rfl) (by kernel_rfl) (fun _ _ _ h => h) (Or.inl ⟨by rfl, fun wq hSw => by go_simp⟩) (by assumption) ?_
    simp only [Act.put, List.setIfInBounds_toArray, List.set_cons_zero, List.set_cons_succ]
    refine wpAnyH_takeD 20 (i := 3) (v := .string s.name) rfl rfl (by kernel_rfl) (by kernel_rfl) (by kernel_rfl) (fun _ _ _ h => h) (Or.inl ⟨by rfl, fun wq hSw => by have k := hSw.k9; go_simp⟩) (by assumption) ?_
    simp only [Act.put, List.setIfInBounds_toArray, List.set_cons_zero, List.set_cons_succ]
    refine wpAnyH_takeD 21 (i := 4) (v := .int .i64 (s.name.size : Int)) rfl rfl (by kernel_rfl) (by kernel_rfl) (by kernel_rfl) (fun _ _ _ h => h) (Or.inl ⟨by rfl, fun wq hSw => by go_simp⟩) (by assumption) ?_
    simp only [Act.put, List.setIfInBounds_toArray, List.set_cons_zero, List.set_cons_succ]
    refine wpAnyH_takeD 23 (i := 6) (v := .pointer (some ⟨w.heap.size + 1, 10, none⟩)) rfl rfl (by kernel_rfl) (by kernel_rfl) (by kernel_rfl) (fun _ _ _ h => h) (Or.inl ⟨by rfl, fun wq hSw => by go_simp⟩) (by assumption) ?_
    simp only [Act.put, List.setIfInBounds_toArray, List.set_cons_zero, List.set_cons_succ]
    refine wpAnyH_takeD 24 (i := 7) (v := .string s.uid) rfl rfl (by kernel_rfl) (by kernel_rfl) (by kernel_rfl) (fun _ _ _ h => h) (Or.inl ⟨by rfl, fun wq hSw => by have k := hSw.k10; go_simp⟩) (by assumption) ?_
    simp only [Act.put, List.setIfInBounds_toArray, List.set_cons_zero, List.set_cons_succ]
    refine wpAnyH_takeD 25 (i := 8) (v := .int .i64 (s.uid.size : Int)) rfl rfl (by kernel_rfl) (by kernel_rfl) (by kernel_rfl) (fun _ _ _ h => h) (Or.inl ⟨by rfl, fun wq hSw => by go_simp⟩) (by assumption) ?_
    simp only [Act.put, List.setIfInBounds_toArray, List.set_cons_zero, List.set_cons_succ]
    refine wpAnyH_takeD 27 (i := 10) (v := .pointer (some ⟨w.heap.size + 1, 11, none⟩)) rfl rfl (by kernel_rfl) (by kernel_rfl) (by kernel_rfl) (fun _ _ _ h => h) (Or.inl ⟨by rfl, fun wq hSw => by go_simp⟩) (by assumption) ?_
    simp only [Act.put, List.setIfInBounds_toArray, List.set_cons_zero, List.set_cons_succ]
    refine wpAnyH_takeD 28 (i := 11) (v := .string s.gid) rfl rfl (by kernel_rfl) (by kernel_rfl) (by kernel_rfl) (fun _ _ _ h => h) (Or.inl ⟨by rfl, fun wq hSw => by have k := hSw.k11; go_simp⟩) (by assumption) ?_
    simp only [Act.put, List.setIfInBounds_toArray, List.set_cons_zero, List.set_cons_succ]
    refine wpAnyH_takeD 29 (i := 12) (v := .int .i64 (s.gid.size : Int)) rfl rfl (by kernel_rfl) (by kernel_rfl) (by kernel_rfl) (fun _ _ _ h => h) (Or.inl ⟨by rfl, fun wq hSw => by go_simp⟩) (by assumption) ?_
    simp only [Act.put, List.setIfInBounds_toArray, List.set_cons_zero, List.set_cons_succ]
    refine wpAnyH_takeD 31 (i := 14) (v := .pointer (some ⟨w.heap.size + 1, 12, none⟩)) rfl rfl (by kernel_rfl) (by kernel_rfl) (by kernel_rfl) (fun _ _ _ h => h) (Or.inl ⟨by rfl, fun wq hSw => by go_simp⟩) (by assumption) ?_
    simp only [Act.put, List.setIfInBounds_toArray, List.set_cons_zero, List.set_cons_succ]
    refine wpAnyH_takeD 32 (i := 15) (v := .string s.muid) rfl rfl (by kernel_rfl) (by kernel_rfl) (by kernel_rfl) (fun _ _ _ h => h) (Or.inl ⟨by rfl, fun wq hSw => by have k := hSw.k12; go_simp⟩) (by assumption) ?_
    simp only [Act.put, List.setIfInBounds_toArray, List.set_cons_zero, List.set_cons_succ]
    refine wpAnyH_takeD 33 (i := 16) (v := .int .i64 (s.muid.size : Int)) rfl rfl (by kernel_rfl) (by kernel_rfl) (by kernel_rfl) (fun _ _ _ h => h) (Or.inl ⟨by rfl, fun wq hSw => by go_simp⟩) (by assumption) ?_
    simp only [Act.put, List.setIfInBounds_toArray, List.set_cons_zero, List.set_cons_succ]
    refine wpAnyH_ready (rs := [1]) (by kernel_rfl) (by simp) ?_
    refine AllReadyH.cons rfl (fun K hK => ?_) AllReadyH.nil
    rw [if_pos (by rfl)]
    go_simp
    refine (HM.out _).mono ?_
    rintro e w3 ⟨rfl, hb⟩
    dsimp only
    have hOld := hHeld.next hb
    clear hHeld hb
    refine hK.out _ _ hOld (fun hHeld => ?_)
    clear hK hOld
    refine wpAnyH_takeD 22 (i := 5) (v := .int .i64 ((mu : Int) + (s.name.size : Int))) rfl rfl (by kernel_rfl) (by kernel_rfl) (by kernel_rfl) (fun _ _ _ h => h) (Or.inl ⟨by rfl, fun wq hSw => by go_simp <;> exact IntWalk.i64_in _ (by omega)⟩) (by assumption) ?_
    simp only [Act.put, List.setIfInBounds_toArray, List.set_cons_zero, List.set_cons_succ]
    refine wpAnyH_takeD 26 (i := 9) (v := .int .i64 ((mu : Int) + (s.name.size : Int) + (s.uid.size : Int))) rfl rfl (by kernel_rfl) (by kernel_rfl) (by kernel_rfl) (fun _ _ _ h => h) (Or.inl ⟨by rfl, fun wq hSw => by go_simp <;> exact IntWalk.i64_in _ (by omega)⟩) (by assumption) ?_
    simp only [Act.put, List.setIfInBounds_toArray, List.set_cons_zero, List.set_cons_succ]
    refine wpAnyH_takeD 30 (i := 13) (v := .int .i64 ((mu : Int) + (s.name.size : Int) + (s.uid.size : Int) + (s.gid.size : Int))) rfl rfl (by kernel_rfl) (by kernel_rfl) (by kernel_rfl) (fun _ _ _ h => h) (Or.inl ⟨by rfl, fun wq hSw => by go_simp <;> exact IntWalk.i64_in _ (by omega)⟩) (by assumption) ?_
    simp only [Act.put, List.setIfInBounds_toArray, List.set_cons_zero, List.set_cons_succ]
    refine wpAnyH_takeD 34 (i := 17) (v := .int .i64 ((mu : Int) + (s.name.size : Int) + (s.uid.size : Int) + (s.gid.size : Int) + (s.muid.size : Int))) rfl rfl (by kernel_rfl) (by kernel_rfl) (by kernel_rfl) (fun _ _ _ h => h) (Or.inl ⟨by rfl, fun wq hSw => by go_simp <;> exact IntWalk.i64_in _ (by omega)⟩) (by assumption) ?_
    simp only [Act.put, List.setIfInBounds_toArray, List.set_cons_zero, List.set_cons_succ]
    refine wpAnyH_takeD 35 (i := 18) (v := .bool false) rfl rfl (by kernel_rfl) (by kernel_rfl) (by kernel_rfl) (fun _ _ _ h => h) (Or.inl ⟨by rfl, fun wq hSw => by go_simp⟩) (by assumption) ?_
    simp only [Act.put, List.setIfInBounds_toArray, List.set_cons_zero, List.set_cons_succ]
    refine wpAnyH_done (by kernel_rfl) ?_ _
    replace HT := Lib.hid hHeld
    clear hHeld
    clear HM hmz l1 l2 l3 l4
    go_upto_region 7 with (first
      | (go_at_call 13; refine (exKnown_calls _ HT.out.at_.ready).mono ?_; rintro e w4 ⟨rfl, hb⟩; replace HT := Lib.hid (HT.out.next hb); clear hb; have c0 := HT.out.at_.c0)
      | (go_at_call 23; refine (table_calls text _ HT.out.at_.ready).mono ?_; rintro e w5 ⟨⟨g, rfl, hpt⟩, hb⟩; replace HT := Lib.hid (HT.out.next hb); have HPT := Lib.hid hpt; clear hb hpt c0))
    have hq7 := HT.out.at_.lt
    go_upto_region 8 with (first
      | (refine wnC HT.out.at_.cb rfl _ rfl rfl ?_)
      | (refine wl_store (NBlk.zero _) n rfl _ _ rfl rfl rfl ?_; intro w6 hs ho hz hbl; have hb := hbl _ _ ((Below.refl _ _).alloc (Nat.le_refl _) _) (Nat.le_refl _); have HS := Lib.hid (show KQ w (caseL text user n p taken full name perm mode).toArray s g (tableL text) w5.heap.size n w6 from ⟨HT.out.next hb, HPT.out.below hb, hs⟩); clear hs ho hz hbl hb HT HPT))
    generalize w5.heap.size = q7 at HS hq7 ⊢
    try simp only [Act.put]
    go_cut [8, 9] (fun a e wx => ∃ z : Nat, a = .pointer (some ⟨z, 0, none⟩) ∧ e = .int .i64 0 ∧ NBlk wx z n ∧ w6.heap.size ≤ z ∧ Below w6.heap.size w6 wx)
    case first =>
      have HSD := Lib.hid (HS.out.next (below_drew w6))
      have HB := Lib.hid (below_drew w6)
      refine wp_region_held_drew (S := KQ w (caseL text user n p taken full name perm mode).toArray s g (tableL text) q7 n) (by kernel_rfl) HSD.out (fun hHeld => ?_)
      generalize w6.drew = wd at HSD HB hHeld ⊢
      refine wpAnyH_takeD 50 (i := 0) (v := .pointer (some ⟨g, 0, none⟩)) rfl rfl (by kernel_rfl) (by kernel_rfl) (by kernel_rfl) (fun _ _ _ h => h) (Or.inl ⟨by rfl, fun wq hSw => by go_simp⟩) (by assumption) ?_
      simp only [Act.put, List.setIfInBounds_toArray, List.set_cons_zero, List.set_cons_succ]
      refine wpAnyH_takeD 51 (i := 1) (v := .pointer (some ⟨w.heap.size, 1, none⟩)) rfl rfl (by kernel_rfl) (by kernel_rfl) (by kernel_rfl) (fun _ _ _ h => h) (Or.inl ⟨by rfl, fun wq hSw => by go_simp⟩) (by assumption) ?_
      simp only [Act.put, List.setIfInBounds_toArray, List.set_cons_zero, List.set_cons_succ]
      refine wpAnyH_takeD 52 (i := 2) (v := .string user) rfl rfl (by kernel_rfl) (by kernel_rfl) (by kernel_rfl) (fun _ _ _ h => h) (Or.inl ⟨by rfl, fun wq hSw => by have c := hSw.kb.at_.c1; go_simp⟩) (by assumption) ?_
      simp only [Act.put, List.setIfInBounds_toArray, List.set_cons_zero, List.set_cons_succ]
      refine wpAnyH_takeD 53 (i := 3) (v := .pointer (some ⟨w.heap.size, 2, none⟩)) rfl rfl (by kernel_rfl) (by kernel_rfl) (by kernel_rfl) (fun _ _ _ h => h) (Or.inl ⟨by rfl, fun wq hSw => by go_simp⟩) (by assumption) ?_
      simp only [Act.put, List.setIfInBounds_toArray, List.set_cons_zero, List.set_cons_succ]
      refine wpAnyH_takeD 54 (i := 4) rfl rfl (by kernel_rfl) (by kernel_rfl) (by kernel_rfl) (fun _ _ _ h => h) (yKF (by rfl) _ rfl rfl) (by assumption) ?_
      simp only [Act.put, List.setIfInBounds_toArray, List.set_cons_zero, List.set_cons_succ]
      refine wpAnyH_takeD 55 (i := 5) rfl rfl (by kernel_rfl) (by kernel_rfl) (by kernel_rfl) (fun _ _ _ h => h) (yKN (by rfl) _ rfl rfl) (by assumption) ?_
      simp only [Act.put, List.setIfInBounds_toArray, List.set_cons_zero, List.set_cons_succ]
      refine wpAnyH_ready (rs := [6, 11]) (by kernel_rfl) (by simp) ?_
      refine AllReadyH.cons rfl (fun K hK => ?_) (AllReadyH.cons rfl (fun K hK => ?_) AllReadyH.nil)
      · as_aux_lemma =>
          rw [if_pos (by rfl)]
          go_simp
          (with_reducible refine (record_calls n _ HNn.out).mono ?_)
          rintro e wx ⟨rfl, hb⟩
          dsimp only
          replace HB := Lib.hid (HB.out.trans (hb.mono HB.out.size))
          try replace HZ := Lib.hid (NBlk.below HZ.out hb)
          clear hb hHeld
          refine hK.out _ _ (HS.out.next HB.out) (fun hHeld => ?_)
          clear hK
          refine wpAnyH_ready (rs := [7, 11]) (by kernel_rfl) (by simp) ?_
          refine AllReadyH.cons rfl (fun K hK => ?_) (AllReadyH.cons rfl (fun K hK => ?_) AllReadyH.nil)
          · as_aux_lemma =>
              rw [if_pos (by rfl)]
              go_simp
              (with_reducible refine (wstat_calls _ _ user n p taken full (recS n) _ hHeld.pt hHeld.kb.at_.ready HU.out HNn.out HP.out HW1G.out).mono ?_)
              rw [HW1.out]
              rintro e wy ⟨rfl, hb⟩
              dsimp only
              replace HB := Lib.hid (HB.out.trans (hb.mono HB.out.size))
              try replace HZ := Lib.hid (NBlk.below HZ.out hb)
              clear hb hHeld
              refine hK.out _ _ (HS.out.next HB.out) (fun hHeld => ?_)
              clear hK
              refine wpAnyH_takeD 49 (i := 8) (v := .tuple #[nodeV n, .int .i64 0]) rfl rfl (by kernel_rfl) (by kernel_rfl) (by kernel_rfl) (fun _ _ _ h => h) (Or.inl ⟨by rfl, fun wq hSw => by go_simp⟩) (by assumption) ?_
              simp only [Act.put, List.setIfInBounds_toArray, List.set_cons_zero, List.set_cons_succ]
              refine wpAnyH_takeD 58 (i := 9) (v := nodeV n) rfl rfl (by kernel_rfl) (by kernel_rfl) (by kernel_rfl) (fun _ _ _ h => h) (Or.inl ⟨by rfl, fun wq hSw => by go_simp⟩) (by assumption) ?_
              simp only [Act.put, List.setIfInBounds_toArray, List.set_cons_zero, List.set_cons_succ]
              refine wpAnyH_takeD 59 (i := 10) (v := .int .i64 0) rfl rfl (by kernel_rfl) (by kernel_rfl) (by kernel_rfl) (fun _ _ _ h => h) (Or.inl ⟨by rfl, fun wq hSw => by go_simp⟩) (by assumption) ?_
              simp only [Act.put, List.setIfInBounds_toArray, List.set_cons_zero, List.set_cons_succ]
              refine wpAnyH_ready (rs := [11]) (by kernel_rfl) (by simp) ?_
              refine AllReadyH.cons rfl (fun K hK => ?_) AllReadyH.nil
              rw [if_pos (by rfl)]
              go_simp
              have hzl := HB.out.size
              have HZ := Lib.hid (NBlk.zero wy)
              replace HB := Lib.hid (HB.out.alloc HB.out.size (Obj.cells #[.int .u64 0, .int .u64 0, .string ⟨#[]⟩, .int .u32 0, .string ⟨#[]⟩, .string ⟨#[]⟩, .string ⟨#[]⟩, .int .u32 0, .int .u32 0, .int .u32 0, .int .u64 0, .int .i64 0, .int .i64 0] 34))
              generalize wy.alloc _ = wa at HZ HB ⊢
              generalize wy.heap.size = z at HZ hzl ⊢
              clear hHeld
              refine hK.out _ _ (HS.out.next HB.out) (fun hHeld => ?_)
              clear hK
              refine wpAnyH_ready (rs := [12]) (by kernel_rfl) (by simp) ?_
              refine AllReadyH.cons rfl (fun K hK => ?_) AllReadyH.nil
              rw [if_pos (by rfl)]
              refine wp_storeN HZ.out n _ _ rfl rfl rfl rfl ?_
              replace HB := Lib.hid (below_setCells HB.out hzl (nodeL n) 0)
              replace HZ := Lib.hid (HZ.out.store n)
              refine hK.out _ _ (HS.out.next HB.out) (fun hHeld => ?_)
              clear hK
              refine wpAnyH_takeD 9 (i := 13) (v := .int .i64 0) rfl rfl (by kernel_rfl) (by kernel_rfl) (by kernel_rfl) (fun _ _ _ h => h) (Or.inl ⟨by rfl, fun wq hSw => by go_simp⟩) (by assumption) ?_
              simp only [Act.put, List.setIfInBounds_toArray, List.set_cons_zero, List.set_cons_succ]
              refine wpAnyH_done (by kernel_rfl) ?_ _
              go_wp2_with fail
              go_meet
              case rel => exact ⟨_, rfl, rfl, HZ.out, hzl, HB.out⟩
          · as_aux_lemma =>
              rw [if_pos (by rfl)]
              go_simp
              have hzl := HB.out.size
              have HZ := Lib.hid (NBlk.zero wx)
              replace HB := Lib.hid (HB.out.alloc HB.out.size (Obj.cells #[.int .u64 0, .int .u64 0, .string ⟨#[]⟩, .int .u32 0, .string ⟨#[]⟩, .string ⟨#[]⟩, .string ⟨#[]⟩, .int .u32 0, .int .u32 0, .int .u32 0, .int .u64 0, .int .i64 0, .int .i64 0] 34))
              generalize wx.alloc _ = wa at HZ HB ⊢
              generalize wx.heap.size = z at HZ hzl ⊢
              clear hHeld
              refine hK.out _ _ (HS.out.next HB.out) (fun hHeld => ?_)
              clear hK
              refine wpAnyH_ready (rs := [7]) (by kernel_rfl) (by simp) ?_
              refine AllReadyH.cons rfl (fun K hK => ?_) AllReadyH.nil
              rw [if_pos (by rfl)]
              go_simp
              (with_reducible refine (wstat_calls _ _ user n p taken full (recS n) _ hHeld.pt hHeld.kb.at_.ready HU.out HNn.out HP.out HW1G.out).mono ?_)
              rw [HW1.out]
              rintro e wy ⟨rfl, hb⟩
              dsimp only
              replace HB := Lib.hid (HB.out.trans (hb.mono HB.out.size))
              try replace HZ := Lib.hid (NBlk.below HZ.out hb)
              clear hb hHeld
              refine hK.out _ _ (HS.out.next HB.out) (fun hHeld => ?_)
              clear hK
              refine wpAnyH_takeD 49 (i := 8) (v := .tuple #[nodeV n, .int .i64 0]) rfl rfl (by kernel_rfl) (by kernel_rfl) (by kernel_rfl) (fun _ _ _ h => h) (Or.inl ⟨by rfl, fun wq hSw => by go_simp⟩) (by assumption) ?_
              simp only [Act.put, List.setIfInBounds_toArray, List.set_cons_zero, List.set_cons_succ]
              refine wpAnyH_takeD 58 (i := 9) (v := nodeV n) rfl rfl (by kernel_rfl) (by kernel_rfl) (by kernel_rfl) (fun _ _ _ h => h) (Or.inl ⟨by rfl, fun wq hSw => by go_simp⟩) (by assumption) ?_
              simp only [Act.put, List.setIfInBounds_toArray, List.set_cons_zero, List.set_cons_succ]
              refine wpAnyH_takeD 59 (i := 10) (v := .int .i64 0) rfl rfl (by kernel_rfl) (by kernel_rfl) (by kernel_rfl) (fun _ _ _ h => h) (Or.inl ⟨by rfl, fun wq hSw => by go_simp⟩) (by assumption) ?_
              simp only [Act.put, List.setIfInBounds_toArray, List.set_cons_zero, List.set_cons_succ]
              refine wpAnyH_ready (rs := [12]) (by kernel_rfl) (by simp) ?_
              refine AllReadyH.cons rfl (fun K hK => ?_) AllReadyH.nil
              rw [if_pos (by rfl)]
              refine wp_storeN HZ.out n _ _ rfl rfl rfl rfl ?_
              replace HB := Lib.hid (below_setCells HB.out hzl (nodeL n) 0)
              replace HZ := Lib.hid (HZ.out.store n)
              refine hK.out _ _ (HS.out.next HB.out) (fun hHeld => ?_)
              clear hK
              refine wpAnyH_takeD 9 (i := 13) (v := .int .i64 0) rfl rfl (by kernel_rfl) (by kernel_rfl) (by kernel_rfl) (fun _ _ _ h => h) (Or.inl ⟨by rfl, fun wq hSw => by go_simp⟩) (by assumption) ?_
              simp only [Act.put, List.setIfInBounds_toArray, List.set_cons_zero, List.set_cons_succ]
              refine wpAnyH_done (by kernel_rfl) ?_ _
              go_wp2_with fail
              go_meet
              case rel => exact ⟨_, rfl, rfl, HZ.out, hzl, HB.out⟩
      · as_aux_lemma =>
          rw [if_pos (by rfl)]
          go_simp
          have hzl := HB.out.size
          have HZ := Lib.hid (NBlk.zero wd)
          replace HB := Lib.hid (HB.out.alloc HB.out.size (Obj.cells #[.int .u64 0, .int .u64 0, .string ⟨#[]⟩, .int .u32 0, .string ⟨#[]⟩, .string ⟨#[]⟩, .string ⟨#[]⟩, .int .u32 0, .int .u32 0, .int .u32 0, .int .u64 0, .int .i64 0, .int .i64 0] 34))
          generalize wd.alloc _ = wa at HZ HB ⊢
          generalize wd.heap.size = z at HZ hzl ⊢
          clear hHeld
          refine hK.out _ _ (HS.out.next HB.out) (fun hHeld => ?_)
          clear hK
          refine wpAnyH_ready (rs := [6]) (by kernel_rfl) (by simp) ?_
          refine AllReadyH.cons rfl (fun K hK => ?_) AllReadyH.nil
          rw [if_pos (by rfl)]
          go_simp
          (with_reducible refine (record_calls n _ HNn.out).mono ?_)
          rintro e wx ⟨rfl, hb⟩
          dsimp only
          replace HB := Lib.hid (HB.out.trans (hb.mono HB.out.size))
          try replace HZ := Lib.hid (NBlk.below HZ.out hb)
          clear hb hHeld
          refine hK.out _ _ (HS.out.next HB.out) (fun hHeld => ?_)
          clear hK
          refine wpAnyH_ready (rs := [7]) (by kernel_rfl) (by simp) ?_
          refine AllReadyH.cons rfl (fun K hK => ?_) AllReadyH.nil
          rw [if_pos (by rfl)]
          go_simp
          (with_reducible refine (wstat_calls _ _ user n p taken full (recS n) _ hHeld.pt hHeld.kb.at_.ready HU.out HNn.out HP.out HW1G.out).mono ?_)
          rw [HW1.out]
          rintro e wy ⟨rfl, hb⟩
          dsimp only
          replace HB := Lib.hid (HB.out.trans (hb.mono HB.out.size))
          try replace HZ := Lib.hid (NBlk.below HZ.out hb)
          clear hb hHeld
          refine hK.out _ _ (HS.out.next HB.out) (fun hHeld => ?_)
          clear hK
          refine wpAnyH_takeD 49 (i := 8) (v := .tuple #[nodeV n, .int .i64 0]) rfl rfl (by kernel_rfl) (by kernel_rfl) (by kernel_rfl) (fun _ _ _ h => h) (Or.inl ⟨by rfl, fun wq hSw => by go_simp⟩) (by assumption) ?_
          simp only [Act.put, List.setIfInBounds_toArray, List.set_cons_zero, List.set_cons_succ]
          refine wpAnyH_takeD 58 (i := 9) (v := nodeV n) rfl rfl (by kernel_rfl) (by kernel_rfl) (by kernel_rfl) (fun _ _ _ h => h) (Or.inl ⟨by rfl, fun wq hSw => by go_simp⟩) (by assumption) ?_
          simp only [Act.put, List.setIfInBounds_toArray, List.set_cons_zero, List.set_cons_succ]
          refine wpAnyH_takeD 59 (i := 10) (v := .int .i64 0) rfl rfl (by kernel_rfl) (by kernel_rfl) (by kernel_rfl) (fun _ _ _ h => h) (Or.inl ⟨by rfl, fun wq hSw => by go_simp⟩) (by assumption) ?_
          simp only [Act.put, List.setIfInBounds_toArray, List.set_cons_zero, List.set_cons_succ]
          refine wpAnyH_ready (rs := [12]) (by kernel_rfl) (by simp) ?_
          refine AllReadyH.cons rfl (fun K hK => ?_) AllReadyH.nil
          rw [if_pos (by rfl)]
          refine wp_storeN HZ.out n _ _ rfl rfl rfl rfl ?_
          replace HB := Lib.hid (below_setCells HB.out hzl (nodeL n) 0)
          replace HZ := Lib.hid (HZ.out.store n)
          refine hK.out _ _ (HS.out.next HB.out) (fun hHeld => ?_)
          clear hK
          refine wpAnyH_takeD 9 (i := 13) (v := .int .i64 0) rfl rfl (by kernel_rfl) (by kernel_rfl) (by kernel_rfl) (fun _ _ _ h => h) (Or.inl ⟨by rfl, fun wq hSw => by go_simp⟩) (by assumption) ?_
          simp only [Act.put, List.setIfInBounds_toArray, List.set_cons_zero, List.set_cons_succ]
          refine wpAnyH_done (by kernel_rfl) ?_ _
          go_wp2_with fail
          go_meet
          case rel => exact ⟨_, rfl, rfl, HZ.out, hzl, HB.out⟩
    obtain ⟨q8, rfl, rfl, hq8, hlq8, hb⟩ := hcut
    replace HS := Lib.hid (HS.out.next hb)
    have H8 := Lib.hid hq8
    clear hb hq8 hlq8
    go_upto_region 9 with (fail)
    try simp only [Act.put]
    go_cut [10, 11] (fun a e wx => ∃ z : Nat, a = .pointer (some ⟨z, 0, none⟩) ∧ e = .int .i64 0 ∧ NBlk wx z n ∧ wc.heap.size ≤ z ∧ Below wc.heap.size wc wx)
    case first =>
      have HSD := Lib.hid (HS.out.next (below_drew wc))
      have HB := Lib.hid (below_drew wc)
      refine wp_region_held_drew (S := KQ w (caseL text user n p taken full name perm mode).toArray s g (tableL text) q7 n) (by kernel_rfl) HSD.out (fun hHeld => ?_)
      generalize wc.drew = wd at HSD HB hHeld ⊢
      refine wpAnyH_takeD 61 (i := 0) (v := .pointer (some ⟨g, 0, none⟩)) rfl rfl (by kernel_rfl) (by kernel_rfl) (by kernel_rfl) (fun _ _ _ h => h) (Or.inl ⟨by rfl, fun wq hSw => by go_simp⟩) (by assumption) ?_
      simp only [Act.put, List.setIfInBounds_toArray, List.set_cons_zero, List.set_cons_succ]
      refine wpAnyH_takeD 62 (i := 1) (v := .pointer (some ⟨w.heap.size, 1, none⟩)) rfl rfl (by kernel_rfl) (by kernel_rfl) (by kernel_rfl) (fun _ _ _ h => h) (Or.inl ⟨by rfl, fun wq hSw => by go_simp⟩) (by assumption) ?_
      simp only [Act.put, List.setIfInBounds_toArray, List.set_cons_zero, List.set_cons_succ]
      refine wpAnyH_takeD 63 (i := 2) (v := .string user) rfl rfl (by kernel_rfl) (by kernel_rfl) (by kernel_rfl) (fun _ _ _ h => h) (Or.inl ⟨by rfl, fun wq hSw => by have c := hSw.kb.at_.c1; go_simp⟩) (by assumption) ?_
      simp only [Act.put, List.setIfInBounds_toArray, List.set_cons_zero, List.set_cons_succ]
      refine wpAnyH_takeD 64 (i := 3) (v := .pointer (some ⟨w.heap.size, 2, none⟩)) rfl rfl (by kernel_rfl) (by kernel_rfl) (by kernel_rfl) (fun _ _ _ h => h) (Or.inl ⟨by rfl, fun wq hSw => by go_simp⟩) (by assumption) ?_
      simp only [Act.put, List.setIfInBounds_toArray, List.set_cons_zero, List.set_cons_succ]
      refine wpAnyH_takeD 65 (i := 4) rfl rfl (by kernel_rfl) (by kernel_rfl) (by kernel_rfl) (fun _ _ _ h => h) (yKF (by rfl) _ rfl rfl) (by assumption) ?_
      simp only [Act.put, List.setIfInBounds_toArray, List.set_cons_zero, List.set_cons_succ]
      refine wpAnyH_ready (rs := [5, 10]) (by kernel_rfl) (by simp) ?_
      refine AllReadyH.cons rfl (fun K hK => ?_) (AllReadyH.cons rfl (fun K hK => ?_) AllReadyH.nil)
      · as_aux_lemma =>
          rw [if_pos (by rfl)]
          go_simp
          (with_reducible refine (keep_calls _).mono ?_)
          rintro e wx ⟨rfl, hb⟩
          dsimp only
          replace HB := Lib.hid (HB.out.trans (hb.mono HB.out.size))
          try replace HZ := Lib.hid (NBlk.below HZ.out hb)
          clear hb hHeld
          refine hK.out _ _ (HS.out.next HB.out) (fun hHeld => ?_)
          clear hK
          refine wpAnyH_ready (rs := [6, 10]) (by kernel_rfl) (by simp) ?_
          refine AllReadyH.cons rfl (fun K hK => ?_) (AllReadyH.cons rfl (fun K hK => ?_) AllReadyH.nil)
          · as_aux_lemma =>
              rw [if_pos (by rfl)]
              go_simp
              (with_reducible refine (wstat_calls _ _ user n p taken full keepS _ hHeld.pt hHeld.kb.at_.ready HU.out HNn.out HP.out HW2G.out).mono ?_)
              rw [HW2.out]
              rintro e wy ⟨rfl, hb⟩
              dsimp only
              replace HB := Lib.hid (HB.out.trans (hb.mono HB.out.size))
              try replace HZ := Lib.hid (NBlk.below HZ.out hb)
              clear hb hHeld
              refine hK.out _ _ (HS.out.next HB.out) (fun hHeld => ?_)
              clear hK
              refine wpAnyH_takeD 60 (i := 7) (v := .tuple #[nodeV n, .int .i64 0]) rfl rfl (by kernel_rfl) (by kernel_rfl) (by kernel_rfl) (fun _ _ _ h => h) (Or.inl ⟨by rfl, fun wq hSw => by go_simp⟩) (by assumption) ?_
              simp only [Act.put, List.setIfInBounds_toArray, List.set_cons_zero, List.set_cons_succ]
              refine wpAnyH_takeD 68 (i := 8) (v := nodeV n) rfl rfl (by kernel_rfl) (by kernel_rfl) (by kernel_rfl) (fun _ _ _ h => h) (Or.inl ⟨by rfl, fun wq hSw => by go_simp⟩) (by assumption) ?_
              simp only [Act.put, List.setIfInBounds_toArray, List.set_cons_zero, List.set_cons_succ]
              refine wpAnyH_takeD 69 (i := 9) (v := .int .i64 0) rfl rfl (by kernel_rfl) (by kernel_rfl) (by kernel_rfl) (fun _ _ _ h => h) (Or.inl ⟨by rfl, fun wq hSw => by go_simp⟩) (by assumption) ?_
              simp only [Act.put, List.setIfInBounds_toArray, List.set_cons_zero, List.set_cons_succ]
              refine wpAnyH_ready (rs := [10]) (by kernel_rfl) (by simp) ?_
              refine AllReadyH.cons rfl (fun K hK => ?_) AllReadyH.nil
              rw [if_pos (by rfl)]
              go_simp
              have hzl := HB.out.size
              have HZ := Lib.hid (NBlk.zero wy)
              replace HB := Lib.hid (HB.out.alloc HB.out.size (Obj.cells #[.int .u64 0, .int .u64 0, .string ⟨#[]⟩, .int .u32 0, .string ⟨#[]⟩, .string ⟨#[]⟩, .string ⟨#[]⟩, .int .u32 0, .int .u32 0, .int .u32 0, .int .u64 0, .int .i64 0, .int .i64 0] 34))
              generalize wy.alloc _ = wa at HZ HB ⊢
              generalize wy.heap.size = z at HZ hzl ⊢
              clear hHeld
              refine hK.out _ _ (HS.out.next HB.out) (fun hHeld => ?_)
              clear hK
              refine wpAnyH_ready (rs := [11]) (by kernel_rfl) (by simp) ?_
              refine AllReadyH.cons rfl (fun K hK => ?_) AllReadyH.nil
              rw [if_pos (by rfl)]
              refine wp_storeN HZ.out n _ _ rfl rfl rfl rfl ?_
              replace HB := Lib.hid (below_setCells HB.out hzl (nodeL n) 0)
              replace HZ := Lib.hid (HZ.out.store n)
              refine hK.out _ _ (HS.out.next HB.out) (fun hHeld => ?_)
              clear hK
              refine wpAnyH_takeD 11 (i := 12) (v := .int .i64 0) rfl rfl (by kernel_rfl) (by kernel_rfl) (by kernel_rfl) (fun _ _ _ h => h) (Or.inl ⟨by rfl, fun wq hSw => by go_simp⟩) (by assumption) ?_
              simp only [Act.put, List.setIfInBounds_toArray, List.set_cons_zero, List.set_cons_succ]
              refine wpAnyH_done (by kernel_rfl) ?_ _
              go_wp2_with fail
              go_meet
              case rel => exact ⟨_, rfl, rfl, HZ.out, hzl, HB.out⟩
          · as_aux_lemma =>
              rw [if_pos (by rfl)]
              go_simp
              have hzl := HB.out.size
              have HZ := Lib.hid (NBlk.zero wx)
              replace HB := Lib.hid (HB.out.alloc HB.out.size (Obj.cells #[.int .u64 0, .int .u64 0, .string ⟨#[]⟩, .int .u32 0, .string ⟨#[]⟩, .string ⟨#[]⟩, .string ⟨#[]⟩, .int .u32 0, .int .u32 0, .int .u32 0, .int .u64 0, .int .i64 0, .int .i64 0] 34))
              generalize wx.alloc _ = wa at HZ HB ⊢
              generalize wx.heap.size = z at HZ hzl ⊢
              clear hHeld
              refine hK.out _ _ (HS.out.next HB.out) (fun hHeld => ?_)
              clear hK
              refine wpAnyH_ready (rs := [6]) (by kernel_rfl) (by simp) ?_
              refine AllReadyH.cons rfl (fun K hK => ?_) AllReadyH.nil
              rw [if_pos (by rfl)]
              go_simp
              (with_reducible refine (wstat_calls _ _ user n p taken full keepS _ hHeld.pt hHeld.kb.at_.ready HU.out HNn.out HP.out HW2G.out).mono ?_)
              rw [HW2.out]
              rintro e wy ⟨rfl, hb⟩
              dsimp only
              replace HB := Lib.hid (HB.out.trans (hb.mono HB.out.size))
              try replace HZ := Lib.hid (NBlk.below HZ.out hb)
              clear hb hHeld
              refine hK.out _ _ (HS.out.next HB.out) (fun hHeld => ?_)
              clear hK
              refine wpAnyH_takeD 60 (i := 7) (v := .tuple #[nodeV n, .int .i64 0]) rfl rfl (by kernel_rfl) (by kernel_rfl) (by kernel_rfl) (fun _ _ _ h => h) (Or.inl ⟨by rfl, fun wq hSw => by go_simp⟩) (by assumption) ?_
              simp only [Act.put, List.setIfInBounds_toArray, List.set_cons_zero, List.set_cons_succ]
              refine wpAnyH_takeD 68 (i := 8) (v := nodeV n) rfl rfl (by kernel_rfl) (by kernel_rfl) (by kernel_rfl) (fun _ _ _ h => h) (Or.inl ⟨by rfl, fun wq hSw => by go_simp⟩) (by assumption) ?_
              simp only [Act.put, List.setIfInBounds_toArray, List.set_cons_zero, List.set_cons_succ]
              refine wpAnyH_takeD 69 (i := 9) (v := .int .i64 0) rfl rfl (by kernel_rfl) (by kernel_rfl) (by kernel_rfl) (fun _ _ _ h => h) (Or.inl ⟨by rfl, fun wq hSw => by go_simp⟩) (by assumption) ?_
              simp only [Act.put, List.setIfInBounds_toArray, List.set_cons_zero, List.set_cons_succ]
              refine wpAnyH_ready (rs := [11]) (by kernel_rfl) (by simp) ?_
              refine AllReadyH.cons rfl (fun K hK => ?_) AllReadyH.nil
              rw [if_pos (by rfl)]
              refine wp_storeN HZ.out n _ _ rfl rfl rfl rfl ?_
              replace HB := Lib.hid (below_setCells HB.out hzl (nodeL n) 0)
              replace HZ := Lib.hid (HZ.out.store n)
              refine hK.out _ _ (HS.out.next HB.out) (fun hHeld => ?_)
              clear hK
              refine wpAnyH_takeD 11 (i := 12) (v := .int .i64 0) rfl rfl (by kernel_rfl) (by kernel_rfl) (by kernel_rfl) (fun _ _ _ h => h) (Or.inl ⟨by rfl, fun wq hSw => by go_simp⟩) (by assumption) ?_
              simp only [Act.put, List.setIfInBounds_toArray, List.set_cons_zero, List.set_cons_succ]
              refine wpAnyH_done (by kernel_rfl) ?_ _
              go_wp2_with fail
              go_meet
              case rel => exact ⟨_, rfl, rfl, HZ.out, hzl, HB.out⟩
      · as_aux_lemma =>
          rw [if_pos (by rfl)]
          go_simp
          have hzl := HB.out.size
          have HZ := Lib.hid (NBlk.zero wd)
          replace HB := Lib.hid (HB.out.alloc HB.out.size (Obj.cells #[.int .u64 0, .int .u64 0, .string ⟨#[]⟩, .int .u32 0, .string ⟨#[]⟩, .string ⟨#[]⟩, .string ⟨#[]⟩, .int .u32 0, .int .u32 0, .int .u32 0, .int .u64 0, .int .i64 0, .int .i64 0] 34))
          generalize wd.alloc _ = wa at HZ HB ⊢
          generalize wd.heap.size = z at HZ hzl ⊢
          clear hHeld
          refine hK.out _ _ (HS.out.next HB.out) (fun hHeld => ?_)
          clear hK
          refine wpAnyH_ready (rs := [5]) (by kernel_rfl) (by simp) ?_
          refine AllReadyH.cons rfl (fun K hK => ?_) AllReadyH.nil
          rw [if_pos (by rfl)]
          go_simp
          (with_reducible refine (keep_calls _).mono ?_)
          rintro e wx ⟨rfl, hb⟩
          dsimp only
          replace HB := Lib.hid (HB.out.trans (hb.mono HB.out.size))
          try replace HZ := Lib.hid (NBlk.below HZ.out hb)
          clear hb hHeld
          refine hK.out _ _ (HS.out.next HB.out) (fun hHeld => ?_)
          clear hK
          refine wpAnyH_ready (rs := [6]) (by kernel_rfl) (by simp) ?_
          refine AllReadyH.cons rfl (fun K hK => ?_) AllReadyH.nil
          rw [if_pos (by rfl)]
          go_simp
          (with_reducible refine (wstat_calls _ _ user n p taken full keepS _ hHeld.pt hHeld.kb.at_.ready HU.out HNn.out HP.out HW2G.out).mono ?_)
          rw [HW2.out]
          rintro e wy ⟨rfl, hb⟩
          dsimp only
          replace HB := Lib.hid (HB.out.trans (hb.mono HB.out.size))
          try replace HZ := Lib.hid (NBlk.below HZ.out hb)
          clear hb hHeld
          refine hK.out _ _ (HS.out.next HB.out) (fun hHeld => ?_)
          clear hK
          refine wpAnyH_takeD 60 (i := 7) (v := .tuple #[nodeV n, .int .i64 0]) rfl rfl (by kernel_rfl) (by kernel_rfl) (by kernel_rfl) (fun _ _ _ h => h) (Or.inl ⟨by rfl, fun wq hSw => by go_simp⟩) (by assumption) ?_
          simp only [Act.put, List.setIfInBounds_toArray, List.set_cons_zero, List.set_cons_succ]
          refine wpAnyH_takeD 68 (i := 8) (v := nodeV n) rfl rfl (by kernel_rfl) (by kernel_rfl) (by kernel_rfl) (fun _ _ _ h => h) (Or.inl ⟨by rfl, fun wq hSw => by go_simp⟩) (by assumption) ?_
          simp only [Act.put, List.setIfInBounds_toArray, List.set_cons_zero, List.set_cons_succ]
          refine wpAnyH_takeD 69 (i := 9) (v := .int .i64 0) rfl rfl (by kernel_rfl) (by kernel_rfl) (by kernel_rfl) (fun _ _ _ h => h) (Or.inl ⟨by rfl, fun wq hSw => by go_simp⟩) (by assumption) ?_
          simp only [Act.put, List.setIfInBounds_toArray, List.set_cons_zero, List.set_cons_succ]
          refine wpAnyH_ready (rs := [11]) (by kernel_rfl) (by simp) ?_
          refine AllReadyH.cons rfl (fun K hK => ?_) AllReadyH.nil
          rw [if_pos (by rfl)]
          refine wp_storeN HZ.out n _ _ rfl rfl rfl rfl ?_
          replace HB := Lib.hid (below_setCells HB.out hzl (nodeL n) 0)
          replace HZ := Lib.hid (HZ.out.store n)
          refine hK.out _ _ (HS.out.next HB.out) (fun hHeld => ?_)
          clear hK
          refine wpAnyH_takeD 11 (i := 12) (v := .int .i64 0) rfl rfl (by kernel_rfl) (by kernel_rfl) (by kernel_rfl) (fun _ _ _ h => h) (Or.inl ⟨by rfl, fun wq hSw => by go_simp⟩) (by assumption) ?_
          simp only [Act.put, List.setIfInBounds_toArray, List.set_cons_zero, List.set_cons_succ]
          refine wpAnyH_done (by kernel_rfl) ?_ _
          go_wp2_with fail
          go_meet
          case rel => exact ⟨_, rfl, rfl, HZ.out, hzl, HB.out⟩
    obtain ⟨q10, rfl, rfl, hq10, hlq10, hb⟩ := hcut
    replace HS := Lib.hid (HS.out.next hb)
    replace H8 := Lib.hid (NBlk.below H8.out hb)
    have H10 := Lib.hid hq10
    clear hb hq10 hlq10
    go_upto_region 12 with (first
      | (refine wnN H8.out rfl _ rfl rfl ?_)
      | (refine wnN H10.out rfl _ rfl rfl ?_)
      | (refine wnN HS.out.nb rfl _ rfl rfl ?_)
      | (refine wneN n n rfl _ _ rfl rfl rfl ?_; rw [ndEqB_self]))
    clear H8 H10
    have c1 := HS.out.kb.at_.c1
    go_upto_region 13 with (first
      | (refine wfC HS.out.kb.at_.cb rfl _ rfl rfl ?_)
      | (refine wS HS.out.kb.sb rfl _ rfl rfl ?_)
      | (go_at_call 38; (with_reducible refine (wstat_calls _ _ user n p taken full s _ HS.out.pt HS.out.kb.at_.ready HU.out HNn.out HP.out HSG.out).mono ?_); rw [HME.out]; rintro e wv ⟨rfl, hb⟩; replace HS := Lib.hid (HS.out.next hb); clear hb; have h712 := Blk.lt HS.out.nb; have hq12 := Blk.lt HS.out.kb.sb)
      | (refine wl_store (NBlk.zero _) m rfl _ _ rfl rfl rfl ?_; intro w9 hs ho hz hbl; have hb := hbl _ _ ((Below.refl _ _).alloc (Nat.le_refl _) _) (Nat.le_refl _); have H12 := Lib.hid hs; replace HS := Lib.hid (HS.out.next hb); clear hs ho hz hbl hb))
    generalize wv.heap.size = q12 at H12 h712 hq12 ⊢
    clear c1
    rcases HTW.out with ⟨f1, f2⟩ | ⟨f1, f2⟩
    · have g1 : (e3 != 0) = true := by show (!(e3 == 0)) = true; rw [f1]; rfl
      have HMC := Lib.hid f2
      clear f1 f2
      go_wp2_with (first
        | (refine wnN H12.out rfl _ rfl rfl ?_)
        | (refine weqN m Nd.none rfl _ _ rfl rfl rfl ?_; rw [show ndEqB m Nd.none = true from ndEqB_iff.2 HMC.out]))
      go_ret
      exact ⟨rfl, HS.out.kb.at_.low⟩
    · have g1 : (e3 != 0) = false := by show (!(e3 == 0)) = false; rw [f1]; rfl
      have HMC := Lib.hid f2
      clear f1 f2
      go_upto_region 16 with (first
        | (refine wnN H12.out rfl _ rfl rfl ?_)
        | (refine wl_store (NBlk.zero _) m rfl _ _ rfl rfl rfl ?_; intro w10 hs ho hz hbl; have hb := hbl _ _ ((Below.refl _ _).alloc (Nat.le_refl _) _) (Nat.le_refl _); have H14 := Lib.hid hs; have h714 := Blk.lt HS.out.nb; have h1214 := Blk.lt H12.out; have hq14 := Blk.lt HS.out.kb.sb; replace HS := Lib.hid (HS.out.next hb); replace H12 := Lib.hid (NBlk.below H12.out hb); clear hs ho hz hbl hb))
      generalize w9.heap.size = q14 at H14 h714 h1214 hq14 ⊢
      clear g1
      have c : w10.cell? ⟨q7, 3, none⟩ = some (.int .u32 n.mode) := Blk.cell HS.out.nb 3
      have d : w10.cell? ⟨q14, 3, none⟩ = some (.int .u32 m.mode) := Blk.cell H14.out 3
      have z := Blk.frozen H14.out 3
      go_upto_region 17 with (fail)
      replace HS := Lib.hid (HS.out.far (i := 3) (v := .int .u32 n.mode) HRY.out hq14 (Nat.ne_of_lt h714) H14.out)
      replace H12 := Lib.hid (show NBlk (w10.setCell ⟨q14, 3, none⟩ (.int .u32 n.mode)) q12 m from Blk.far H12.out (Nat.ne_of_lt h1214) _)
      replace H14 := Lib.hid (show NBlk (w10.setCell ⟨q14, 3, none⟩ (.int .u32 n.mode)) q14 { m with mode := n.mode } from Blk.set_ H14.out 3 _)
      clear c d z
      change Code.wp _ _ _ _ (w10.setCell ⟨q14, 3, none⟩ (.int .u32 n.mode))
      generalize w10.setCell ⟨q14, 3, none⟩ (.int .u32 n.mode) = w11 at HS H12 H14 ⊢
      have c : w11.cell? ⟨q7, 8, none⟩ = some (.int .u32 n.mtime) := Blk.cell HS.out.nb 8
      have d : w11.cell? ⟨q14, 8, none⟩ = some (.int .u32 m.mtime) := Blk.cell H14.out 8
      have z := Blk.frozen H14.out 8
      go_upto_region 18 with (fail)
      replace HS := Lib.hid (HS.out.far (i := 8) (v := .int .u32 n.mtime) HRY.out hq14 (Nat.ne_of_lt h714) H14.out)
      replace H12 := Lib.hid (show NBlk (w11.setCell ⟨q14, 8, none⟩ (.int .u32 n.mtime)) q12 m from Blk.far H12.out (Nat.ne_of_lt h1214) _)
      replace H14 := Lib.hid (show NBlk (w11.setCell ⟨q14, 8, none⟩ (.int .u32 n.mtime)) q14 { m with mode := n.mode, mtime := n.mtime } from Blk.set_ H14.out 8 _)
      clear c d z
      change Code.wp _ _ _ _ (w11.setCell ⟨q14, 8, none⟩ (.int .u32 n.mtime))
      generalize w11.setCell ⟨q14, 8, none⟩ (.int .u32 n.mtime) = w12 at HS H12 H14 ⊢
      have c : w12.cell? ⟨q7, 10, none⟩ = some (.int .u64 n.length) := Blk.cell HS.out.nb 10
      have d : w12.cell? ⟨q14, 10, none⟩ = some (.int .u64 m.length) := Blk.cell H14.out 10
      have z := Blk.frozen H14.out 10
      go_upto_region 19 with (fail)
      replace HS := Lib.hid (HS.out.far (i := 10) (v := .int .u64 n.length) HRY.out hq14 (Nat.ne_of_lt h714) H14.out)
      replace H12 := Lib.hid (show NBlk (w12.setCell ⟨q14, 10, none⟩ (.int .u64 n.length)) q12 m from Blk.far H12.out (Nat.ne_of_lt h1214) _)
      replace H14 := Lib.hid (show NBlk (w12.setCell ⟨q14, 10, none⟩ (.int .u64 n.length)) q14 { m with mode := n.mode, mtime := n.mtime, length := n.length } from Blk.set_ H14.out 10 _)
      clear c d z
      change Code.wp _ _ _ _ (w12.setCell ⟨q14, 10, none⟩ (.int .u64 n.length))
      generalize w12.setCell ⟨q14, 10, none⟩ (.int .u64 n.length) = w13 at HS H12 H14 ⊢
      have c : w13.cell? ⟨q7, 2, none⟩ = some (.string n.name) := Blk.cell HS.out.nb 2
      have d : w13.cell? ⟨q14, 2, none⟩ = some (.string m.name) := Blk.cell H14.out 2
      have z := Blk.frozen H14.out 2
      go_upto_region 20 with (fail)
      replace HS := Lib.hid (HS.out.far (i := 2) (v := .string n.name) HRY.out hq14 (Nat.ne_of_lt h714) H14.out)
      replace H12 := Lib.hid (show NBlk (w13.setCell ⟨q14, 2, none⟩ (.string n.name)) q12 m from Blk.far H12.out (Nat.ne_of_lt h1214) _)
      replace H14 := Lib.hid (show NBlk (w13.setCell ⟨q14, 2, none⟩ (.string n.name)) q14 { m with mode := n.mode, mtime := n.mtime, length := n.length, name := n.name } from Blk.set_ H14.out 2 _)
      clear c d z
      change Code.wp _ _ _ _ (w13.setCell ⟨q14, 2, none⟩ (.string n.name))
      generalize w13.setCell ⟨q14, 2, none⟩ (.string n.name) = w14 at HS H12 H14 ⊢
      have c : w14.cell? ⟨q7, 5, none⟩ = some (.string n.gid) := Blk.cell HS.out.nb 5
      have d : w14.cell? ⟨q14, 5, none⟩ = some (.string m.gid) := Blk.cell H14.out 5
      have z := Blk.frozen H14.out 5
      go_upto_region 21 with (fail)
      replace HS := Lib.hid (HS.out.far (i := 5) (v := .string n.gid) HRY.out hq14 (Nat.ne_of_lt h714) H14.out)
      replace H12 := Lib.hid (show NBlk (w14.setCell ⟨q14, 5, none⟩ (.string n.gid)) q12 m from Blk.far H12.out (Nat.ne_of_lt h1214) _)
      replace H14 := Lib.hid (show NBlk (w14.setCell ⟨q14, 5, none⟩ (.string n.gid)) q14 { m with mode := n.mode, mtime := n.mtime, length := n.length, name := n.name, gid := n.gid } from Blk.set_ H14.out 5 _)
      clear c d z
      change Code.wp _ _ _ _ (w14.setCell ⟨q14, 5, none⟩ (.string n.gid))
      generalize w14.setCell ⟨q14, 5, none⟩ (.string n.gid) = w15 at HS H12 H14 ⊢
      go_upto_region 23 with (first
        | (refine wnN H14.out rfl _ rfl rfl ?_)
        | (refine wnN HS.out.nb rfl _ rfl rfl ?_)
        | (refine wneN { m with mode := n.mode, mtime := n.mtime, length := n.length, name := n.name, gid := n.gid } n rfl _ _ rfl rfl rfl ?_; rw [show ndEqB { m with mode := n.mode, mtime := n.mtime, length := n.length, name := n.name, gid := n.gid } n = true from ndEqB_iff.2 (by rw [HMC.out]; rfl)]))
      clear H14
      simp only [Act.put, List.setIfInBounds_toArray, List.set_cons_zero, List.set_cons_succ]
      go_cut [187] (fun v wx => v = .bool false ∧ wx = w15)
      case first =>
        as_aux_lemma =>
          have x1 := keep_int (touchB s (recS n) 5) n.mode s.mode
          have x2 := keep_int (touchB s (recS n) 7) n.mtime s.mtime
          have x3 := keep_int (touchB s (recS n) 8) n.length s.length
          have x4 := keep_str (touchB s (recS n) 9) n.name s.name
          have x5 := keep_str (touchB s (recS n) 11) n.gid s.gid
          have hm := HMC.out
          rw [show (if touchB s (recS n) 5 = true then s.mode else n.mode) = m.mode from by rw [hm]; rfl] at x1
          rw [show (if touchB s (recS n) 7 = true then s.mtime else n.mtime) = m.mtime from by rw [hm]; rfl] at x2
          rw [show (if touchB s (recS n) 8 = true then s.length else n.length) = m.length from by rw [hm]; rfl] at x3
          rw [show (if touchB s (recS n) 9 = true then s.name else n.name) = m.name from by rw [hm]; rfl] at x4
          rw [show (if touchB s (recS n) 11 = true then s.gid else n.gid) = m.gid from by rw [hm]; rfl] at x5
          clear hm
          have a3 : w15.cell? ⟨q12, 3, none⟩ = some (.int .u32 m.mode) := Blk.cell H12.out 3
          have b3 : w15.cell? ⟨q7, 3, none⟩ = some (.int .u32 n.mode) := Blk.cell HS.out.nb 3
          have a8 : w15.cell? ⟨q12, 8, none⟩ = some (.int .u32 m.mtime) := Blk.cell H12.out 8
          have b8 : w15.cell? ⟨q7, 8, none⟩ = some (.int .u32 n.mtime) := Blk.cell HS.out.nb 8
          have a10 : w15.cell? ⟨q12, 10, none⟩ = some (.int .u64 m.length) := Blk.cell H12.out 10
          have b10 : w15.cell? ⟨q7, 10, none⟩ = some (.int .u64 n.length) := Blk.cell HS.out.nb 10
          have a2 : w15.cell? ⟨q12, 2, none⟩ = some (.string m.name) := Blk.cell H12.out 2
          have b2 : w15.cell? ⟨q7, 2, none⟩ = some (.string n.name) := Blk.cell HS.out.nb 2
          have a5 : w15.cell? ⟨q12, 5, none⟩ = some (.string m.gid) := Blk.cell H12.out 5
          have b5 : w15.cell? ⟨q7, 5, none⟩ = some (.string n.gid) := Blk.cell HS.out.nb 5
          have s5 : w15.cell? ⟨w.heap.size + 1, 5, none⟩ = some (.int .u32 s.mode) := Blk.cell HS.out.kb.sb 5
          have s7 : w15.cell? ⟨w.heap.size + 1, 7, none⟩ = some (.int .u32 s.mtime) := Blk.cell HS.out.kb.sb 7
          have s8 : w15.cell? ⟨w.heap.size + 1, 8, none⟩ = some (.int .u64 s.length) := Blk.cell HS.out.kb.sb 8
          have s9 : w15.cell? ⟨w.heap.size + 1, 9, none⟩ = some (.string s.name) := Blk.cell HS.out.kb.sb 9
          have s11 : w15.cell? ⟨w.heap.size + 1, 11, none⟩ = some (.string s.gid) := Blk.cell HS.out.kb.sb 11
          replace x1 := orI x1
          replace x2 := orI x2
          replace x3 := orI x3
          replace x4 := orS4 x4
          replace x5 := orS4 x5
          refine wp_region_lit ?_
          refine wpList_val 120 (v := .pointer (some ⟨q12, 3, none⟩)) rfl (by rfl) (ex_fn3 _ rfl rfl) ?_
          simp only [Act.put, List.setIfInBounds_toArray, List.set_cons_zero, List.set_cons_succ]
          refine wpList_val 121 (v := .int .u32 m.mode) rfl (by rfl) (ex_lu32 _ rfl (rfl) a3) ?_
          simp only [Act.put, List.setIfInBounds_toArray, List.set_cons_zero, List.set_cons_succ]
          refine wpList_val 122 (v := .pointer (some ⟨q7, 3, none⟩)) rfl (by rfl) (ex_fn3 _ rfl rfl) ?_
          simp only [Act.put, List.setIfInBounds_toArray, List.set_cons_zero, List.set_cons_succ]
          refine wpList_val 123 (v := .int .u32 n.mode) rfl (by rfl) (ex_lu32 _ rfl (rfl) b3) ?_
          simp only [Act.put, List.setIfInBounds_toArray, List.set_cons_zero, List.set_cons_succ]
          refine wpList_val 124 (v := .bool (m.mode != n.mode)) rfl (by rfl) (ex_nu32 _ _ rfl (rfl) (rfl)) ?_
          simp only [Act.put, List.setIfInBounds_toArray, List.set_cons_zero, List.set_cons_succ]
          refine wpList_val 125 (v := .bool (m.mode != n.mode)) rfl (by rfl) (ex_mv _ rfl rfl) ?_
          simp only [Act.put, List.setIfInBounds_toArray, List.set_cons_zero, List.set_cons_succ]
          refine wpList_ifv 126 (v := .pointer (some ⟨q12, 3, none⟩)) (c := (m.mode != n.mode)) rfl (wanted_by rfl rfl rfl) (fun hc => ex_fn3 _ rfl rfl) ?_
          simp only [Act.put, List.setIfInBounds_toArray, List.set_cons_zero, List.set_cons_succ]
          refine wpList_ifv 127 (v := .int .u32 m.mode) (c := (m.mode != n.mode)) rfl (wanted_by rfl rfl rfl) (fun hc => ex_lu32 _ rfl ((show _ = ifv _ _ from rfl).trans (ifv_pos hc)) a3) ?_
          simp only [Act.put, List.setIfInBounds_toArray, List.set_cons_zero, List.set_cons_succ]
          refine wpList_ifv 128 (v := .pointer (some ⟨w.heap.size + 1, 5, none⟩)) (c := (m.mode != n.mode)) rfl (wanted_by rfl rfl rfl) (fun hc => ex_fs3 _ rfl rfl) ?_
          simp only [Act.put, List.setIfInBounds_toArray, List.set_cons_zero, List.set_cons_succ]
          refine wpList_ifv 129 (v := .int .u32 s.mode) (c := (m.mode != n.mode)) rfl (wanted_by rfl rfl rfl) (fun hc => ex_lu32 _ rfl ((show _ = ifv _ _ from rfl).trans (ifv_pos hc)) s5) ?_
          simp only [Act.put, List.setIfInBounds_toArray, List.set_cons_zero, List.set_cons_succ]
          refine wpList_ifv 130 (v := .bool (m.mode != s.mode)) (c := (m.mode != n.mode)) rfl (wanted_by rfl rfl rfl) (fun hc => ex_nu32 _ _ rfl ((show _ = ifv _ _ from rfl).trans (ifv_pos hc)) ((show _ = ifv _ _ from rfl).trans (ifv_pos hc))) ?_
          simp only [Act.put, List.setIfInBounds_toArray, List.set_cons_zero, List.set_cons_succ]
          refine wpList_val 131 (v := .bool false) rfl (by rfl) (ex_pk _ _ _ rfl rfl rfl rfl (pk_no x1)) ?_
          simp only [Act.put, List.setIfInBounds_toArray, List.set_cons_zero, List.set_cons_succ]
          refine wpList_val 132 (v := .bool false) rfl (by rfl) (ex_mv _ rfl rfl) ?_
          simp only [Act.put, List.setIfInBounds_toArray, List.set_cons_zero, List.set_cons_succ]
          refine wpList_val 133 (v := .pointer (some ⟨q12, 8, none⟩)) rfl (by rfl) (ex_fn8 _ rfl rfl) ?_
          simp only [Act.put, List.setIfInBounds_toArray, List.set_cons_zero, List.set_cons_succ]
          refine wpList_val 134 (v := .int .u32 m.mtime) rfl (by rfl) (ex_lu32 _ rfl (rfl) a8) ?_
          simp only [Act.put, List.setIfInBounds_toArray, List.set_cons_zero, List.set_cons_succ]
          refine wpList_val 135 (v := .pointer (some ⟨q7, 8, none⟩)) rfl (by rfl) (ex_fn8 _ rfl rfl) ?_
          simp only [Act.put, List.setIfInBounds_toArray, List.set_cons_zero, List.set_cons_succ]
          refine wpList_val 136 (v := .int .u32 n.mtime) rfl (by rfl) (ex_lu32 _ rfl (rfl) b8) ?_
          simp only [Act.put, List.setIfInBounds_toArray, List.set_cons_zero, List.set_cons_succ]
          refine wpList_val 137 (v := .bool (m.mtime != n.mtime)) rfl (by rfl) (ex_nu32 _ _ rfl (rfl) (rfl)) ?_
          simp only [Act.put, List.setIfInBounds_toArray, List.set_cons_zero, List.set_cons_succ]
          refine wpList_val 138 (v := .bool (m.mtime != n.mtime)) rfl (by rfl) (ex_mv _ rfl rfl) ?_
          simp only [Act.put, List.setIfInBounds_toArray, List.set_cons_zero, List.set_cons_succ]
          refine wpList_ifv 139 (v := .pointer (some ⟨q12, 8, none⟩)) (c := (m.mtime != n.mtime)) rfl (wanted_by rfl rfl rfl) (fun hc => ex_fn8 _ rfl rfl) ?_
          simp only [Act.put, List.setIfInBounds_toArray, List.set_cons_zero, List.set_cons_succ]
          refine wpList_ifv 140 (v := .int .u32 m.mtime) (c := (m.mtime != n.mtime)) rfl (wanted_by rfl rfl rfl) (fun hc => ex_lu32 _ rfl ((show _ = ifv _ _ from rfl).trans (ifv_pos hc)) a8) ?_
          simp only [Act.put, List.setIfInBounds_toArray, List.set_cons_zero, List.set_cons_succ]
          refine wpList_ifv 141 (v := .pointer (some ⟨w.heap.size + 1, 7, none⟩)) (c := (m.mtime != n.mtime)) rfl (wanted_by rfl rfl rfl) (fun hc => ex_fs5 _ rfl rfl) ?_
          simp only [Act.put, List.setIfInBounds_toArray, List.set_cons_zero, List.set_cons_succ]
          refine wpList_ifv 142 (v := .int .u32 s.mtime) (c := (m.mtime != n.mtime)) rfl (wanted_by rfl rfl rfl) (fun hc => ex_lu32 _ rfl ((show _ = ifv _ _ from rfl).trans (ifv_pos hc)) s7) ?_
          simp only [Act.put, List.setIfInBounds_toArray, List.set_cons_zero, List.set_cons_succ]
          refine wpList_ifv 143 (v := .bool (m.mtime != s.mtime)) (c := (m.mtime != n.mtime)) rfl (wanted_by rfl rfl rfl) (fun hc => ex_nu32 _ _ rfl ((show _ = ifv _ _ from rfl).trans (ifv_pos hc)) ((show _ = ifv _ _ from rfl).trans (ifv_pos hc))) ?_
          simp only [Act.put, List.setIfInBounds_toArray, List.set_cons_zero, List.set_cons_succ]
          refine wpList_val 144 (v := .bool false) rfl (by rfl) (ex_pk _ _ _ rfl rfl rfl rfl (pk_no x2)) ?_
          simp only [Act.put, List.setIfInBounds_toArray, List.set_cons_zero, List.set_cons_succ]
          refine wpList_val 145 (v := .bool false) rfl (by rfl) (ex_pk _ _ _ rfl rfl rfl rfl rfl) ?_
          simp only [Act.put, List.setIfInBounds_toArray, List.set_cons_zero, List.set_cons_succ]
          refine wpList_val 146 (v := .bool false) rfl (by rfl) (ex_mv _ rfl rfl) ?_
          simp only [Act.put, List.setIfInBounds_toArray, List.set_cons_zero, List.set_cons_succ]
          refine wpList_val 147 (v := .pointer (some ⟨q12, 10, none⟩)) rfl (by rfl) (ex_fn10 _ rfl rfl) ?_
          simp only [Act.put, List.setIfInBounds_toArray, List.set_cons_zero, List.set_cons_succ]
          refine wpList_val 148 (v := .int .u64 m.length) rfl (by rfl) (ex_lu64 _ rfl (rfl) a10) ?_
          simp only [Act.put, List.setIfInBounds_toArray, List.set_cons_zero, List.set_cons_succ]
          refine wpList_val 149 (v := .pointer (some ⟨q7, 10, none⟩)) rfl (by rfl) (ex_fn10 _ rfl rfl) ?_
          simp only [Act.put, List.setIfInBounds_toArray, List.set_cons_zero, List.set_cons_succ]
          refine wpList_val 150 (v := .int .u64 n.length) rfl (by rfl) (ex_lu64 _ rfl (rfl) b10) ?_
          simp only [Act.put, List.setIfInBounds_toArray, List.set_cons_zero, List.set_cons_succ]
          refine wpList_val 151 (v := .bool (m.length != n.length)) rfl (by rfl) (ex_nu64 _ _ rfl (rfl) (rfl)) ?_
          simp only [Act.put, List.setIfInBounds_toArray, List.set_cons_zero, List.set_cons_succ]
          refine wpList_val 152 (v := .bool (m.length != n.length)) rfl (by rfl) (ex_mv _ rfl rfl) ?_
          simp only [Act.put, List.setIfInBounds_toArray, List.set_cons_zero, List.set_cons_succ]
          refine wpList_ifv 153 (v := .pointer (some ⟨q12, 10, none⟩)) (c := (m.length != n.length)) rfl (wanted_by rfl rfl rfl) (fun hc => ex_fn10 _ rfl rfl) ?_
          simp only [Act.put, List.setIfInBounds_toArray, List.set_cons_zero, List.set_cons_succ]
          refine wpList_ifv 154 (v := .int .u64 m.length) (c := (m.length != n.length)) rfl (wanted_by rfl rfl rfl) (fun hc => ex_lu64 _ rfl ((show _ = ifv _ _ from rfl).trans (ifv_pos hc)) a10) ?_
          simp only [Act.put, List.setIfInBounds_toArray, List.set_cons_zero, List.set_cons_succ]
          refine wpList_ifv 155 (v := .pointer (some ⟨w.heap.size + 1, 8, none⟩)) (c := (m.length != n.length)) rfl (wanted_by rfl rfl rfl) (fun hc => ex_fs6 _ rfl rfl) ?_
          simp only [Act.put, List.setIfInBounds_toArray, List.set_cons_zero, List.set_cons_succ]
          refine wpList_ifv 156 (v := .int .u64 s.length) (c := (m.length != n.length)) rfl (wanted_by rfl rfl rfl) (fun hc => ex_lu64 _ rfl ((show _ = ifv _ _ from rfl).trans (ifv_pos hc)) s8) ?_
          simp only [Act.put, List.setIfInBounds_toArray, List.set_cons_zero, List.set_cons_succ]
          refine wpList_ifv 157 (v := .bool (m.length != s.length)) (c := (m.length != n.length)) rfl (wanted_by rfl rfl rfl) (fun hc => ex_nu64 _ _ rfl ((show _ = ifv _ _ from rfl).trans (ifv_pos hc)) ((show _ = ifv _ _ from rfl).trans (ifv_pos hc))) ?_
          simp only [Act.put, List.setIfInBounds_toArray, List.set_cons_zero, List.set_cons_succ]
          refine wpList_val 158 (v := .bool false) rfl (by rfl) (ex_pk _ _ _ rfl rfl rfl rfl (pk_no x3)) ?_
          simp only [Act.put, List.setIfInBounds_toArray, List.set_cons_zero, List.set_cons_succ]
          refine wpList_val 159 (v := .bool false) rfl (by rfl) (ex_pk _ _ _ rfl rfl rfl rfl rfl) ?_
          simp only [Act.put, List.setIfInBounds_toArray, List.set_cons_zero, List.set_cons_succ]
          refine wpList_val 160 (v := .bool false) rfl (by rfl) (ex_mv _ rfl rfl) ?_
          simp only [Act.put, List.setIfInBounds_toArray, List.set_cons_zero, List.set_cons_succ]
          refine wpList_val 161 (v := .pointer (some ⟨q12, 2, none⟩)) rfl (by rfl) (ex_fn2 _ rfl rfl) ?_
          simp only [Act.put, List.setIfInBounds_toArray, List.set_cons_zero, List.set_cons_succ]
          refine wpList_val 162 (v := .string m.name) rfl (by rfl) (ex_lstr _ rfl (rfl) a2) ?_
          simp only [Act.put, List.setIfInBounds_toArray, List.set_cons_zero, List.set_cons_succ]
          refine wpList_val 163 (v := .pointer (some ⟨q7, 2, none⟩)) rfl (by rfl) (ex_fn2 _ rfl rfl) ?_
          simp only [Act.put, List.setIfInBounds_toArray, List.set_cons_zero, List.set_cons_succ]
          refine wpList_val 164 (v := .string n.name) rfl (by rfl) (ex_lstr _ rfl (rfl) b2) ?_
          simp only [Act.put, List.setIfInBounds_toArray, List.set_cons_zero, List.set_cons_succ]
          refine wpList_val 165 (v := .bool (!(m.name.toList == n.name.toList))) rfl (by rfl) (ex_nstr _ _ rfl (rfl) (rfl)) ?_
          simp only [Act.put, List.setIfInBounds_toArray, List.set_cons_zero, List.set_cons_succ]
          refine wpList_val 166 (v := .bool (!(m.name.toList == n.name.toList))) rfl (by rfl) (ex_mv _ rfl rfl) ?_
          simp only [Act.put, List.setIfInBounds_toArray, List.set_cons_zero, List.set_cons_succ]
          refine wpList_ifv 167 (v := .pointer (some ⟨q12, 2, none⟩)) (c := (!(m.name.toList == n.name.toList))) rfl (wanted_by rfl rfl rfl) (fun hc => ex_fn2 _ rfl rfl) ?_
          simp only [Act.put, List.setIfInBounds_toArray, List.set_cons_zero, List.set_cons_succ]
          refine wpList_ifv 168 (v := .string m.name) (c := (!(m.name.toList == n.name.toList))) rfl (wanted_by rfl rfl rfl) (fun hc => ex_lstr _ rfl ((show _ = ifv _ _ from rfl).trans (ifv_pos hc)) a2) ?_
          simp only [Act.put, List.setIfInBounds_toArray, List.set_cons_zero, List.set_cons_succ]
          refine wpList_ifv 169 (v := .pointer (some ⟨w.heap.size + 1, 9, none⟩)) (c := (!(m.name.toList == n.name.toList))) rfl (wanted_by rfl rfl rfl) (fun hc => ex_fs7 _ rfl rfl) ?_
          simp only [Act.put, List.setIfInBounds_toArray, List.set_cons_zero, List.set_cons_succ]
          refine wpList_ifv 170 (v := .string s.name) (c := (!(m.name.toList == n.name.toList))) rfl (wanted_by rfl rfl rfl) (fun hc => ex_lstr _ rfl ((show _ = ifv _ _ from rfl).trans (ifv_pos hc)) s9) ?_
          simp only [Act.put, List.setIfInBounds_toArray, List.set_cons_zero, List.set_cons_succ]
          refine wpList_ifv 171 (v := .bool (!(m.name.toList == s.name.toList))) (c := (!(m.name.toList == n.name.toList))) rfl (wanted_by rfl rfl rfl) (fun hc => ex_nstr _ _ rfl ((show _ = ifv _ _ from rfl).trans (ifv_pos hc)) ((show _ = ifv _ _ from rfl).trans (ifv_pos hc))) ?_
          simp only [Act.put, List.setIfInBounds_toArray, List.set_cons_zero, List.set_cons_succ]
          refine wpList_val 172 (v := .bool false) rfl (by rfl) (ex_pk _ _ _ rfl rfl rfl rfl (pk_no x4)) ?_
          simp only [Act.put, List.setIfInBounds_toArray, List.set_cons_zero, List.set_cons_succ]
          refine wpList_val 173 (v := .bool false) rfl (by rfl) (ex_pk _ _ _ rfl rfl rfl rfl rfl) ?_
          simp only [Act.put, List.setIfInBounds_toArray, List.set_cons_zero, List.set_cons_succ]
          refine wpList_val 174 (v := .bool false) rfl (by rfl) (ex_mv _ rfl rfl) ?_
          simp only [Act.put, List.setIfInBounds_toArray, List.set_cons_zero, List.set_cons_succ]
          refine wpList_val 175 (v := .pointer (some ⟨q12, 5, none⟩)) rfl (by rfl) (ex_fn5 _ rfl rfl) ?_
          simp only [Act.put, List.setIfInBounds_toArray, List.set_cons_zero, List.set_cons_succ]
          refine wpList_val 176 (v := .string m.gid) rfl (by rfl) (ex_lstr _ rfl (rfl) a5) ?_
          simp only [Act.put, List.setIfInBounds_toArray, List.set_cons_zero, List.set_cons_succ]
          refine wpList_val 177 (v := .pointer (some ⟨q7, 5, none⟩)) rfl (by rfl) (ex_fn5 _ rfl rfl) ?_
          simp only [Act.put, List.setIfInBounds_toArray, List.set_cons_zero, List.set_cons_succ]
          refine wpList_val 178 (v := .string n.gid) rfl (by rfl) (ex_lstr _ rfl (rfl) b5) ?_
          simp only [Act.put, List.setIfInBounds_toArray, List.set_cons_zero, List.set_cons_succ]
          refine wpList_val 179 (v := .bool (!(m.gid.toList == n.gid.toList))) rfl (by rfl) (ex_nstr _ _ rfl (rfl) (rfl)) ?_
          simp only [Act.put, List.setIfInBounds_toArray, List.set_cons_zero, List.set_cons_succ]
          refine wpList_val 180 (v := .bool (!(m.gid.toList == n.gid.toList))) rfl (by rfl) (ex_mv _ rfl rfl) ?_
          simp only [Act.put, List.setIfInBounds_toArray, List.set_cons_zero, List.set_cons_succ]
          refine wpList_ifv 181 (v := .pointer (some ⟨q12, 5, none⟩)) (c := (!(m.gid.toList == n.gid.toList))) rfl (wanted_by rfl rfl rfl) (fun hc => ex_fn5 _ rfl rfl) ?_
          simp only [Act.put, List.setIfInBounds_toArray, List.set_cons_zero, List.set_cons_succ]
          refine wpList_ifv 182 (v := .string m.gid) (c := (!(m.gid.toList == n.gid.toList))) rfl (wanted_by rfl rfl rfl) (fun hc => ex_lstr _ rfl ((show _ = ifv _ _ from rfl).trans (ifv_pos hc)) a5) ?_
          simp only [Act.put, List.setIfInBounds_toArray, List.set_cons_zero, List.set_cons_succ]
          refine wpList_ifv 183 (v := .pointer (some ⟨w.heap.size + 1, 11, none⟩)) (c := (!(m.gid.toList == n.gid.toList))) rfl (wanted_by rfl rfl rfl) (fun hc => ex_fs9 _ rfl rfl) ?_
          simp only [Act.put, List.setIfInBounds_toArray, List.set_cons_zero, List.set_cons_succ]
          refine wpList_ifv 184 (v := .string s.gid) (c := (!(m.gid.toList == n.gid.toList))) rfl (wanted_by rfl rfl rfl) (fun hc => ex_lstr _ rfl ((show _ = ifv _ _ from rfl).trans (ifv_pos hc)) s11) ?_
          simp only [Act.put, List.setIfInBounds_toArray, List.set_cons_zero, List.set_cons_succ]
          refine wpList_ifv 185 (v := .bool (!(m.gid.toList == s.gid.toList))) (c := (!(m.gid.toList == n.gid.toList))) rfl (wanted_by rfl rfl rfl) (fun hc => ex_nstr _ _ rfl ((show _ = ifv _ _ from rfl).trans (ifv_pos hc)) ((show _ = ifv _ _ from rfl).trans (ifv_pos hc))) ?_
          simp only [Act.put, List.setIfInBounds_toArray, List.set_cons_zero, List.set_cons_succ]
          refine wpList_val 186 (v := .bool false) rfl (by rfl) (ex_pk _ _ _ rfl rfl rfl rfl (pk_no x5)) ?_
          simp only [Act.put, List.setIfInBounds_toArray, List.set_cons_zero, List.set_cons_succ]
          refine wpList_val 187 (v := .bool false) rfl (by rfl) (ex_pk _ _ _ rfl rfl rfl rfl rfl) ?_
          simp only [Act.put, List.setIfInBounds_toArray, List.set_cons_zero, List.set_cons_succ]
          go_wp2_with fail
          go_meet
          case rel => exact ⟨rfl, rfl⟩
      obtain ⟨rfl, rfl⟩ := hcut
      have hT := HS.out.kb.at_
      have hP := HS.out.pt
      have hS := HS.out.kb.sb
      go_upto_region 26 with (first
        | (refine wnN H12.out rfl _ rfl rfl ?_)
        | (refine wst_caseK hT.cb m rfl _ _ rfl rfl rfl ?_; intro w20 hcb hoth hbl
           have hb5 := hbl _ _ hT.low (Nat.le_refl _)
           replace hP := hP.other hT.cb (by decide) hoth
           replace hS : SBlk w20 (w.heap.size + 1) s := (hoth (w.heap.size + 1) (by omega)).trans hS
           replace H12 := Lib.hid (show NBlk w20 q12 m from (hoth q12 (by omega)).trans H12.out)
           have HT := Lib.hid (show LAt w (caseL text user m p taken full name perm mode).toArray w20 from ⟨HRY.out.below hb5 (Nat.le_refl _), hb5, hcb⟩)
           have HPT := Lib.hid hP
           have HSB := Lib.hid hS
           clear hcb hoth hbl hb5 hT hP hS HS))
      have d28 := HT.out.c28
      have z28 := HT.out.f 28
      go_upto_region 27 with (fail)
      have hoth : ∀ i, i ≠ w.heap.size → (w20.setCell ⟨w.heap.size, 28, none⟩ (.bool true)).heap[i]? = w20.heap[i]? := setCell_other w20 w.heap.size 28 (.bool true)
      have hb5 : Below w.heap.size w (w20.setCell ⟨w.heap.size, 28, none⟩ (.bool true)) := HT.out.low.setCell (Nat.le_refl _) _
      have HS := Lib.hid (show KQ w (caseL text user m p true full name perm mode).toArray s g (tableL text) q12 m (w20.setCell ⟨w.heap.size, 28, none⟩ (.bool true)) from ⟨⟨⟨HRY.out.below hb5 (Nat.le_refl _), hb5, Blk.set_ HT.out.cb 28 _⟩, (hoth (w.heap.size + 1) (by omega)).trans HSB.out⟩, HPT.out.other HT.out.cb (by decide) hoth, (hoth q12 (by omega)).trans H12.out⟩)
      clear d28 z28 hoth hb5 HT HPT HSB H12
      change Code.wp _ _ _ _ (w20.setCell ⟨w.heap.size, 28, none⟩ (.bool true))
      generalize w20.setCell ⟨w.heap.size, 28, none⟩ (.bool true) = w21 at HS ⊢
      have HNm := Lib.hid (show m.ok from by rw [HMC.out]; exact HOK.out)
      have HW3 := Lib.hid (wstat_none (L := tableL text) (user := user) (n := m) (p := p) (taken := true) (touch_same (recS m)))
      have HW3G := Lib.hid (show (recS m).gid.size ≤ 16777216 from HNm.out.2.2.2.2.1)
      try simp only [Act.put]
      go_cut [15, 16] (fun a e wx => ∃ z : Nat, a = .pointer (some ⟨z, 0, none⟩) ∧ e = .int .i64 0 ∧ NBlk wx z m ∧ w21.heap.size ≤ z ∧ Below w21.heap.size w21 wx)
      case first =>
        have HSD := Lib.hid (HS.out.next (below_drew w21))
        have HB := Lib.hid (below_drew w21)
        refine wp_region_held_drew (S := KQ w (caseL text user m p true full name perm mode).toArray s g (tableL text) q12 m) (by kernel_rfl) HSD.out (fun hHeld => ?_)
        generalize w21.drew = wd at HSD HB hHeld ⊢
        refine wpAnyH_takeD 194 (i := 0) (v := .pointer (some ⟨g, 0, none⟩)) rfl rfl (by kernel_rfl) (by kernel_rfl) (by kernel_rfl) (fun _ _ _ h => h) (Or.inl ⟨by rfl, fun wq hSw => by go_simp⟩) (by assumption) ?_
        simp only [Act.put, List.setIfInBounds_toArray, List.set_cons_zero, List.set_cons_succ]
        refine wpAnyH_takeD 195 (i := 1) (v := .pointer (some ⟨w.heap.size, 1, none⟩)) rfl rfl (by kernel_rfl) (by kernel_rfl) (by kernel_rfl) (fun _ _ _ h => h) (Or.inl ⟨by rfl, fun wq hSw => by go_simp⟩) (by assumption) ?_
        simp only [Act.put, List.setIfInBounds_toArray, List.set_cons_zero, List.set_cons_succ]
        refine wpAnyH_takeD 196 (i := 2) (v := .string user) rfl rfl (by kernel_rfl) (by kernel_rfl) (by kernel_rfl) (fun _ _ _ h => h) (Or.inl ⟨by rfl, fun wq hSw => by have c := hSw.kb.at_.c1; go_simp⟩) (by assumption) ?_
        simp only [Act.put, List.setIfInBounds_toArray, List.set_cons_zero, List.set_cons_succ]
        refine wpAnyH_takeD 197 (i := 3) (v := .pointer (some ⟨w.heap.size, 2, none⟩)) rfl rfl (by kernel_rfl) (by kernel_rfl) (by kernel_rfl) (fun _ _ _ h => h) (Or.inl ⟨by rfl, fun wq hSw => by go_simp⟩) (by assumption) ?_
        simp only [Act.put, List.setIfInBounds_toArray, List.set_cons_zero, List.set_cons_succ]
        refine wpAnyH_takeD 198 (i := 4) rfl rfl (by kernel_rfl) (by kernel_rfl) (by kernel_rfl) (fun _ _ _ h => h) (yKF (by rfl) _ rfl rfl) (by assumption) ?_
        simp only [Act.put, List.setIfInBounds_toArray, List.set_cons_zero, List.set_cons_succ]
        refine wpAnyH_takeD 199 (i := 5) rfl rfl (by kernel_rfl) (by kernel_rfl) (by kernel_rfl) (fun _ _ _ h => h) (yKN (by rfl) _ rfl rfl) (by assumption) ?_
        simp only [Act.put, List.setIfInBounds_toArray, List.set_cons_zero, List.set_cons_succ]
        refine wpAnyH_ready (rs := [6, 11]) (by kernel_rfl) (by simp) ?_
        refine AllReadyH.cons rfl (fun K hK => ?_) (AllReadyH.cons rfl (fun K hK => ?_) AllReadyH.nil)
        · as_aux_lemma =>
            rw [if_pos (by rfl)]
            go_simp
            (with_reducible refine (record_calls m _ HNm.out).mono ?_)
            rintro e wx ⟨rfl, hb⟩
            dsimp only
            replace HB := Lib.hid (HB.out.trans (hb.mono HB.out.size))
            try replace HZ := Lib.hid (NBlk.below HZ.out hb)
            clear hb hHeld
            refine hK.out _ _ (HS.out.next HB.out) (fun hHeld => ?_)
            clear hK
            refine wpAnyH_ready (rs := [7, 11]) (by kernel_rfl) (by simp) ?_
            refine AllReadyH.cons rfl (fun K hK => ?_) (AllReadyH.cons rfl (fun K hK => ?_) AllReadyH.nil)
            · as_aux_lemma =>
                rw [if_pos (by rfl)]
                go_simp
                (with_reducible refine (wstat_calls _ _ user m p true full (recS m) _ hHeld.pt hHeld.kb.at_.ready HU.out HNm.out HP.out HW3G.out).mono ?_)
                rw [HW3.out]
                rintro e wy ⟨rfl, hb⟩
                dsimp only
                replace HB := Lib.hid (HB.out.trans (hb.mono HB.out.size))
                try replace HZ := Lib.hid (NBlk.below HZ.out hb)
                clear hb hHeld
                refine hK.out _ _ (HS.out.next HB.out) (fun hHeld => ?_)
                clear hK
                refine wpAnyH_takeD 193 (i := 8) (v := .tuple #[nodeV m, .int .i64 0]) rfl rfl (by kernel_rfl) (by kernel_rfl) (by kernel_rfl) (fun _ _ _ h => h) (Or.inl ⟨by rfl, fun wq hSw => by go_simp⟩) (by assumption) ?_
                simp only [Act.put, List.setIfInBounds_toArray, List.set_cons_zero, List.set_cons_succ]
                refine wpAnyH_takeD 202 (i := 9) (v := nodeV m) rfl rfl (by kernel_rfl) (by kernel_rfl) (by kernel_rfl) (fun _ _ _ h => h) (Or.inl ⟨by rfl, fun wq hSw => by go_simp⟩) (by assumption) ?_
                simp only [Act.put, List.setIfInBounds_toArray, List.set_cons_zero, List.set_cons_succ]
                refine wpAnyH_takeD 203 (i := 10) (v := .int .i64 0) rfl rfl (by kernel_rfl) (by kernel_rfl) (by kernel_rfl) (fun _ _ _ h => h) (Or.inl ⟨by rfl, fun wq hSw => by go_simp⟩) (by assumption) ?_
                simp only [Act.put, List.setIfInBounds_toArray, List.set_cons_zero, List.set_cons_succ]
                refine wpAnyH_ready (rs := [11]) (by kernel_rfl) (by simp) ?_
                refine AllReadyH.cons rfl (fun K hK => ?_) AllReadyH.nil
                rw [if_pos (by rfl)]
                go_simp
                have hzl := HB.out.size
                have HZ := Lib.hid (NBlk.zero wy)
                replace HB := Lib.hid (HB.out.alloc HB.out.size (Obj.cells #[.int .u64 0, .int .u64 0, .string ⟨#[]⟩, .int .u32 0, .string ⟨#[]⟩, .string ⟨#[]⟩, .string ⟨#[]⟩, .int .u32 0, .int .u32 0, .int .u32 0, .int .u64 0, .int .i64 0, .int .i64 0] 34))
                generalize wy.alloc _ = wa at HZ HB ⊢
                generalize wy.heap.size = z at HZ hzl ⊢
                clear hHeld
                refine hK.out _ _ (HS.out.next HB.out) (fun hHeld => ?_)
                clear hK
                refine wpAnyH_ready (rs := [12]) (by kernel_rfl) (by simp) ?_
                refine AllReadyH.cons rfl (fun K hK => ?_) AllReadyH.nil
                rw [if_pos (by rfl)]
                refine wp_storeN HZ.out m _ _ rfl rfl rfl rfl ?_
                replace HB := Lib.hid (below_setCells HB.out hzl (nodeL m) 0)
                replace HZ := Lib.hid (HZ.out.store m)
                refine hK.out _ _ (HS.out.next HB.out) (fun hHeld => ?_)
                clear hK
                refine wpAnyH_takeD 16 (i := 13) (v := .int .i64 0) rfl rfl (by kernel_rfl) (by kernel_rfl) (by kernel_rfl) (fun _ _ _ h => h) (Or.inl ⟨by rfl, fun wq hSw => by go_simp⟩) (by assumption) ?_
                simp only [Act.put, List.setIfInBounds_toArray, List.set_cons_zero, List.set_cons_succ]
                refine wpAnyH_done (by kernel_rfl) ?_ _
                go_wp2_with fail
                go_meet
                case rel => exact ⟨_, rfl, rfl, HZ.out, hzl, HB.out⟩
            · as_aux_lemma =>
                rw [if_pos (by rfl)]
                go_simp
                have hzl := HB.out.size
                have HZ := Lib.hid (NBlk.zero wx)
                replace HB := Lib.hid (HB.out.alloc HB.out.size (Obj.cells #[.int .u64 0, .int .u64 0, .string ⟨#[]⟩, .int .u32 0, .string ⟨#[]⟩, .string ⟨#[]⟩, .string ⟨#[]⟩, .int .u32 0, .int .u32 0, .int .u32 0, .int .u64 0, .int .i64 0, .int .i64 0] 34))
                generalize wx.alloc _ = wa at HZ HB ⊢
                generalize wx.heap.size = z at HZ hzl ⊢
                clear hHeld
                refine hK.out _ _ (HS.out.next HB.out) (fun hHeld => ?_)
                clear hK
                refine wpAnyH_ready (rs := [7]) (by kernel_rfl) (by simp) ?_
                refine AllReadyH.cons rfl (fun K hK => ?_) AllReadyH.nil
                rw [if_pos (by rfl)]
                go_simp
                (with_reducible refine (wstat_calls _ _ user m p true full (recS m) _ hHeld.pt hHeld.kb.at_.ready HU.out HNm.out HP.out HW3G.out).mono ?_)
                rw [HW3.out]
                rintro e wy ⟨rfl, hb⟩
                dsimp only
                replace HB := Lib.hid (HB.out.trans (hb.mono HB.out.size))
                try replace HZ := Lib.hid (NBlk.below HZ.out hb)
                clear hb hHeld
                refine hK.out _ _ (HS.out.next HB.out) (fun hHeld => ?_)
                clear hK
                refine wpAnyH_takeD 193 (i := 8) (v := .tuple #[nodeV m, .int .i64 0]) rfl rfl (by kernel_rfl) (by kernel_rfl) (by kernel_rfl) (fun _ _ _ h => h) (Or.inl ⟨by rfl, fun wq hSw => by go_simp⟩) (by assumption) ?_
                simp only [Act.put, List.setIfInBounds_toArray, List.set_cons_zero, List.set_cons_succ]
                refine wpAnyH_takeD 202 (i := 9) (v := nodeV m) rfl rfl (by kernel_rfl) (by kernel_rfl) (by kernel_rfl) (fun _ _ _ h => h) (Or.inl ⟨by rfl, fun wq hSw => by go_simp⟩) (by assumption) ?_
                simp only [Act.put, List.setIfInBounds_toArray, List.set_cons_zero, List.set_cons_succ]
                refine wpAnyH_takeD 203 (i := 10) (v := .int .i64 0) rfl rfl (by kernel_rfl) (by kernel_rfl) (by kernel_rfl) (fun _ _ _ h => h) (Or.inl ⟨by rfl, fun wq hSw => by go_simp⟩) (by assumption) ?_
                simp only [Act.put, List.setIfInBounds_toArray, List.set_cons_zero, List.set_cons_succ]
                refine wpAnyH_ready (rs := [12]) (by kernel_rfl) (by simp) ?_
                refine AllReadyH.cons rfl (fun K hK => ?_) AllReadyH.nil
                rw [if_pos (by rfl)]
                refine wp_storeN HZ.out m _ _ rfl rfl rfl rfl ?_
                replace HB := Lib.hid (below_setCells HB.out hzl (nodeL m) 0)
                replace HZ := Lib.hid (HZ.out.store m)
                refine hK.out _ _ (HS.out.next HB.out) (fun hHeld => ?_)
                clear hK
                refine wpAnyH_takeD 16 (i := 13) (v := .int .i64 0) rfl rfl (by kernel_rfl) (by kernel_rfl) (by kernel_rfl) (fun _ _ _ h => h) (Or.inl ⟨by rfl, fun wq hSw => by go_simp⟩) (by assumption) ?_
                simp only [Act.put, List.setIfInBounds_toArray, List.set_cons_zero, List.set_cons_succ]
                refine wpAnyH_done (by kernel_rfl) ?_ _
                go_wp2_with fail
                go_meet
                case rel => exact ⟨_, rfl, rfl, HZ.out, hzl, HB.out⟩
        · as_aux_lemma =>
            rw [if_pos (by rfl)]
            go_simp
            have hzl := HB.out.size
            have HZ := Lib.hid (NBlk.zero wd)
            replace HB := Lib.hid (HB.out.alloc HB.out.size (Obj.cells #[.int .u64 0, .int .u64 0, .string ⟨#[]⟩, .int .u32 0, .string ⟨#[]⟩, .string ⟨#[]⟩, .string ⟨#[]⟩, .int .u32 0, .int .u32 0, .int .u32 0, .int .u64 0, .int .i64 0, .int .i64 0] 34))
            generalize wd.alloc _ = wa at HZ HB ⊢
            generalize wd.heap.size = z at HZ hzl ⊢
            clear hHeld
            refine hK.out _ _ (HS.out.next HB.out) (fun hHeld => ?_)
            clear hK
            refine wpAnyH_ready (rs := [6]) (by kernel_rfl) (by simp) ?_
            refine AllReadyH.cons rfl (fun K hK => ?_) AllReadyH.nil
            rw [if_pos (by rfl)]
            go_simp
            (with_reducible refine (record_calls m _ HNm.out).mono ?_)
            rintro e wx ⟨rfl, hb⟩
            dsimp only
            replace HB := Lib.hid (HB.out.trans (hb.mono HB.out.size))
            try replace HZ := Lib.hid (NBlk.below HZ.out hb)
            clear hb hHeld
            refine hK.out _ _ (HS.out.next HB.out) (fun hHeld => ?_)
            clear hK
            refine wpAnyH_ready (rs := [7]) (by kernel_rfl) (by simp) ?_
            refine AllReadyH.cons rfl (fun K hK => ?_) AllReadyH.nil
            rw [if_pos (by rfl)]
            go_simp
            (with_reducible refine (wstat_calls _ _ user m p true full (recS m) _ hHeld.pt hHeld.kb.at_.ready HU.out HNm.out HP.out HW3G.out).mono ?_)
            rw [HW3.out]
            rintro e wy ⟨rfl, hb⟩
            dsimp only
            replace HB := Lib.hid (HB.out.trans (hb.mono HB.out.size))
            try replace HZ := Lib.hid (NBlk.below HZ.out hb)
            clear hb hHeld
            refine hK.out _ _ (HS.out.next HB.out) (fun hHeld => ?_)
            clear hK
            refine wpAnyH_takeD 193 (i := 8) (v := .tuple #[nodeV m, .int .i64 0]) rfl rfl (by kernel_rfl) (by kernel_rfl) (by kernel_rfl) (fun _ _ _ h => h) (Or.inl ⟨by rfl, fun wq hSw => by go_simp⟩) (by assumption) ?_
            simp only [Act.put, List.setIfInBounds_toArray, List.set_cons_zero, List.set_cons_succ]
            refine wpAnyH_takeD 202 (i := 9) (v := nodeV m) rfl rfl (by kernel_rfl) (by kernel_rfl) (by kernel_rfl) (fun _ _ _ h => h) (Or.inl ⟨by rfl, fun wq hSw => by go_simp⟩) (by assumption) ?_
            simp only [Act.put, List.setIfInBounds_toArray, List.set_cons_zero, List.set_cons_succ]
            refine wpAnyH_takeD 203 (i := 10) (v := .int .i64 0) rfl rfl (by kernel_rfl) (by kernel_rfl) (by kernel_rfl) (fun _ _ _ h => h) (Or.inl ⟨by rfl, fun wq hSw => by go_simp⟩) (by assumption) ?_
            simp only [Act.put, List.setIfInBounds_toArray, List.set_cons_zero, List.set_cons_succ]
            refine wpAnyH_ready (rs := [12]) (by kernel_rfl) (by simp) ?_
            refine AllReadyH.cons rfl (fun K hK => ?_) AllReadyH.nil
            rw [if_pos (by rfl)]
            refine wp_storeN HZ.out m _ _ rfl rfl rfl rfl ?_
            replace HB := Lib.hid (below_setCells HB.out hzl (nodeL m) 0)
            replace HZ := Lib.hid (HZ.out.store m)
            refine hK.out _ _ (HS.out.next HB.out) (fun hHeld => ?_)
            clear hK
            refine wpAnyH_takeD 16 (i := 13) (v := .int .i64 0) rfl rfl (by kernel_rfl) (by kernel_rfl) (by kernel_rfl) (fun _ _ _ h => h) (Or.inl ⟨by rfl, fun wq hSw => by go_simp⟩) (by assumption) ?_
            simp only [Act.put, List.setIfInBounds_toArray, List.set_cons_zero, List.set_cons_succ]
            refine wpAnyH_done (by kernel_rfl) ?_ _
            go_wp2_with fail
            go_meet
            case rel => exact ⟨_, rfl, rfl, HZ.out, hzl, HB.out⟩
      obtain ⟨q15, rfl, rfl, hq15, hlq15, hb⟩ := hcut
      replace HS := Lib.hid (HS.out.next hb)
      have H15 := Lib.hid hq15
      clear hb hq15 hlq15
      go_wp2_with (first
        | (refine wnN H15.out rfl _ rfl rfl ?_)
        | (refine wnN HS.out.nb rfl _ rfl rfl ?_)
        | (refine weqN m m rfl _ _ rfl rfl rfl ?_; rw [ndEqB_self]))
      go_ret
      exact ⟨rfl, HS.out.kb.at_.low⟩
end Go.Proofs.YtlenlldiimohjaaDoor
