
/-
  vergerlaw09: RulesWstats. Condition: the tables of utf8 lie as laid.
-/
import Derived.Test.YtlenlldiimohjaaGreatDoorWst
import Derived.Test.YtlenlldiimohjaaGreatDoorRefW
import Derived.Test.YtlenlldiimohjaaGreatDoorOpen2
import Derived.IntWalk
namespace Go.Proofs.YtlenlldiimohjaaGreatDoor
open Go.ChangeShapes Go.WideShapes Go.ChangeAt Go.RowKit

/-- Where the law stands: its case, its record. -/
def KB (w0 : World) (cs : Array Value) (s : St) (w : World) : Prop := LAt w0 cs w ∧ SBlk w (w0.heap.size + 1) s
section
variable {w0 w w' : World} {cs : Array Value} {s : St} {g q : Nat} {text user name : ByteArray} {n p : Nd} {taken full : Bool} {perm mode : Int}
theorem KB.next (h : KB w0 cs s w) (hb : Below w.heap.size w w') : KB w0 cs s w' := ⟨h.1.next hb, h.2.below hb⟩
theorem KB.at_ (h : KB w0 cs s w) : LAt w0 cs w := h.1
theorem KB.sb (h : KB w0 cs s w) : SBlk w (w0.heap.size + 1) s := h.2
theorem KB.start (hr : Ready w0) (cs : Array Value) (s : St) : KB w0 cs s ((w0.alloc (Obj.cells cs 29)).alloc (Obj.cells (statL s).toArray 34)) := by
  have h2 : SBlk ((w0.alloc (Obj.cells cs 29)).alloc (Obj.cells (statL s).toArray 34)) (w0.alloc (Obj.cells cs 29)).heap.size s := Blk.new _ _ _
  simp only [World.size_alloc] at h2
  exact ⟨(LAt.start hr cs).next ((Below.refl _ _).alloc (Nat.le_refl _) _), h2⟩
variable {ops : Array Oper} {op : Oper} {a : Act}
theorem yKC (hw : Region.wanted op (yielded ops a.tmps) = true) (y : Operand) (ho : op.op = .load 29 y) (hx : a.eval y = .pointer (some ⟨w0.heap.size, 0, none⟩)) : YieldsIf Tryz.prog ops (KB w0 (caseL text user n p taken full name perm mode).toArray s) op (caseV text user n p taken full name perm mode) a :=
  yieldsIf_load_mid hw _ y ho _ _ hx (caseL text user n p taken full name perm mode) _ (fun _ hS => Blk.range hS.1.cb 0 _ rfl) Tryz.underlying29 rfl case_size
end
theorem KB.k9 {w0 w : World} {cs : Array Value} {s : St} (h : KB w0 cs s w) : w.cell? ⟨w0.heap.size + 1, 9, none⟩ = some (.string s.name) := Blk.cell h.2 9
theorem KB.k10 {w0 w : World} {cs : Array Value} {s : St} (h : KB w0 cs s w) : w.cell? ⟨w0.heap.size + 1, 10, none⟩ = some (.string s.uid) := Blk.cell h.2 10
theorem KB.k11 {w0 w : World} {cs : Array Value} {s : St} (h : KB w0 cs s w) : w.cell? ⟨w0.heap.size + 1, 11, none⟩ = some (.string s.gid) := Blk.cell h.2 11
theorem KB.k12 {w0 w : World} {cs : Array Value} {s : St} (h : KB w0 cs s w) : w.cell? ⟨w0.heap.size + 1, 12, none⟩ = some (.string s.muid) := Blk.cell h.2 12
theorem not_of {r : Result Bool} {c : Bool} {w : World} (h : (r.andThen fun b w' => .ok (.bool b) w') = (.ok (.bool c) w : Result Value)) : (r.andThen fun b w' => .ok (.bool (!b)) w') = (.ok (.bool (!c)) w : Result Value) := by
  cases r with
  | ok v w2 =>
    simp only [Result.andThen_ok] at h ⊢
    injection h with h1 h2
    injection h1 with h1
    rw [h1, h2]
  | halt _ _ => simp [Result.andThen] at h
theorem run_ne_node (w : World) (a b : Nd) (x y : Operand) : (do eqGuard .neq 25 x y (nodeV a) (nodeV b); binOp .neq 25 (nodeV a) (nodeV b) : Sem Value).run Tryz.prog w = .ok (.bool (!ndEqB a b)) w := by
  have hg : Tryz.prog.eqGuardType Tryz.prog.depth 25 = false := by kernel_rfl
  have h := run_eq_node w a b x y
  rw [Sem.run_bind, run_eqGuard_agg w .eql 25 x y _ _ hg, Result.andThen_ok, run_eql_struct] at h
  rw [Sem.run_bind, run_eqGuard_agg w .neq 25 x y _ _ hg, Result.andThen_ok, run_neq_struct]
  exact not_of h
section
variable {ops : Array Oper} {rest : List Oper} {op : Oper} {a : Act} {w : World} {Q : Exit → Act → World → Prop}
theorem wneN (m n : Nd) (hgd : Region.wanted op (yielded ops a.tmps) = true) (x y : Operand) {z : TypeId} (ho : op.op = .binOp .neq 25 x y z) (hx : a.eval x = nodeV m) (hy : a.eval y = nodeV n)
    (h : wpList Tryz.prog ops Q rest (a.put op.dst (.bool (!ndEqB m n))) w) : wpList Tryz.prog ops Q (op :: rest) a w :=
  wpList_step fun K hK => by
    rw [if_pos hgd]
    unfold Oper.wp execOp
    simp only [ho, hx, hy]
    rw [Sem.run_bind, run_ne_node]
    exact hK _ _ h
end
theorem KB.put {w0 w w' : World} {cs : Array Value} {s : St} {q : Nat} (h : KB w0 cs s w) (hr : Ready w0) (hq : w0.heap.size + 1 < q) (ho : ∀ i, i ≠ q → w'.heap[i]? = w.heap[i]?) (hbl : ∀ B (v : World), Below B v w → B ≤ q → Below B v w') : KB w0 cs s w' :=
  ⟨⟨hr.below (hbl _ _ h.1.low (by omega)) (Nat.le_refl _), hbl _ _ h.1.low (by omega), (ho _ (by omega)).trans h.1.cb⟩, (ho _ (by omega)).trans h.2⟩

set_option maxRecDepth 100000 in
set_option maxHeartbeats 12000000 in
theorem lawWstats_calls (text user : ByteArray) (n p : Nd) (taken full : Bool) (name : ByteArray) (perm mode : Int) (s : St) (w : World) (hr : Ready w)
    (h1 : text.size ≤ reachBytes) (h2 : user.size ≤ reachBytes) (h3 : n.came) (h4 : p.came) (h5 : name.size ≤ reachBytes) (h6 : s.came) (hnf : n.fits) (hsf : s.fit) :
    Calls Tryz.prog 3 #[caseV text user n p taken full name perm mode, statV s] w fun e w' => e = .returned (.bool true) ∧ Below w.heap.size w w' := by
  have HT := Lib.hid (KB.start hr (caseL text user n p taken full name perm mode).toArray s)
  obtain ⟨mu, hmu⟩ : ∃ k, muchN text user n p name = k := ⟨_, rfl⟩
  have HM := Lib.hid (fun (w : World) => hmu ▸ much_calls text user n p taken full name perm mode w h1 h2 h3 h4 h5)
  obtain ⟨-, -, g1, g2, g3, g4⟩ := id h3
  obtain ⟨-, -, k1, k2, k3, k4⟩ := id h4
  obtain ⟨s0, s1, l1, l2, l3, l4⟩ := h6
  have hmz : mu ≤ 11 * reachBytes := by
    rw [← hmu]
    unfold muchN
    omega
  unfold reachBytes at hmz l1 l2 l3 l4
  by_cases hbig : 8388608 < mu + s.name.size + s.uid.size + s.gid.size + s.muid.size
  · have hle : (8388608 : Int) < (mu : Int) + (s.name.size : Int) + (s.uid.size : Int) + (s.gid.size : Int) + (s.muid.size : Int) := by omega
    clear h1 h2 h3 h4 h5 hr hmu g1 g2 g3 g4 k1 k2 k3 k4 hbig s0 s1 hnf hsf
    go_enter Tryz.func3, Tryz.ntmps3
    go_upto_region 1 with (fail)
    generalize (w.alloc (Obj.cells _ _)).alloc (Obj.cells _ _) = w1 at HT ⊢
    refine wp_region_held_drew (S := KB w (caseL text user n p taken full name perm mode).toArray s) (by kernel_rfl) (HT.out.next (below_drew _)) (fun hHeld => ?_)
    refine wpAnyH_takeD 13 (i := 0) rfl rfl (by kernel_rfl) (by kernel_rfl) (by kernel_rfl) (fun _ _ _ h => h) (yKC (by rfl) _ rfl rfl) (by assumption) ?_
    simp only [Act.put, List.setIfInBounds_toArray, List.set_cons_zero, List.set_cons_succ]
    refine wpAnyH_takeD 15 (i := 2) (v := .pointer (some ⟨w.heap.size + 1, 9, none⟩)) rfl rfl (by kernel_rfl) (by kernel_rfl) (by kernel_rfl) (fun _ _ _ h => h) (Or.inl ⟨by rfl, fun wq hSw => by go_simp⟩) (by assumption) ?_
    simp only [Act.put, List.setIfInBounds_toArray, List.set_cons_zero, List.set_cons_succ]
    refine wpAnyH_takeD 16 (i := 3) (v := .string s.name) rfl rfl (by kernel_rfl) (by kernel_rfl) (by kernel_rfl) (fun _ _ _ h => h) (Or.inl ⟨by rfl, fun wq hSw => by have k := hSw.k9; go_simp⟩) (by assumption) ?_
    simp only [Act.put, List.setIfInBounds_toArray, List.set_cons_zero, List.set_cons_succ]
    refine wpAnyH_takeD 17 (i := 4) (v := .int .i64 (s.name.size : Int)) rfl rfl (by kernel_rfl) (by kernel_rfl) (by kernel_rfl) (fun _ _ _ h => h) (Or.inl ⟨by rfl, fun wq hSw => by go_simp⟩) (by assumption) ?_
    simp only [Act.put, List.setIfInBounds_toArray, List.set_cons_zero, List.set_cons_succ]
    refine wpAnyH_takeD 19 (i := 6) (v := .pointer (some ⟨w.heap.size + 1, 10, none⟩)) rfl rfl (by kernel_rfl) (by kernel_rfl) (by kernel_rfl) (fun _ _ _ h => h) (Or.inl ⟨by rfl, fun wq hSw => by go_simp⟩) (by assumption) ?_
    simp only [Act.put, List.setIfInBounds_toArray, List.set_cons_zero, List.set_cons_succ]
    refine wpAnyH_takeD 20 (i := 7) (v := .string s.uid) rfl rfl (by kernel_rfl) (by kernel_rfl) (by kernel_rfl) (fun _ _ _ h => h) (Or.inl ⟨by rfl, fun wq hSw => by have k := hSw.k10; go_simp⟩) (by assumption) ?_
    simp only [Act.put, List.setIfInBounds_toArray, List.set_cons_zero, List.set_cons_succ]
    refine wpAnyH_takeD 21 (i := 8) (v := .int .i64 (s.uid.size : Int)) rfl rfl (by kernel_rfl) (by kernel_rfl) (by kernel_rfl) (fun _ _ _ h => h) (Or.inl ⟨by rfl, fun wq hSw => by go_simp⟩) (by assumption) ?_
    simp only [Act.put, List.setIfInBounds_toArray, List.set_cons_zero, List.set_cons_succ]
    refine wpAnyH_takeD 23 (i := 10) (v := .pointer (some ⟨w.heap.size + 1, 11, none⟩)) rfl rfl (by kernel_rfl) (by kernel_rfl) (by kernel_rfl) (fun _ _ _ h => h) (Or.inl ⟨by rfl, fun wq hSw => by go_simp⟩) (by assumption) ?_
    simp only [Act.put, List.setIfInBounds_toArray, List.set_cons_zero, List.set_cons_succ]
    refine wpAnyH_takeD 24 (i := 11) (v := .string s.gid) rfl rfl (by kernel_rfl) (by kernel_rfl) (by kernel_rfl) (fun _ _ _ h => h) (Or.inl ⟨by rfl, fun wq hSw => by have k := hSw.k11; go_simp⟩) (by assumption) ?_
    simp only [Act.put, List.setIfInBounds_toArray, List.set_cons_zero, List.set_cons_succ]
    refine wpAnyH_takeD 25 (i := 12) (v := .int .i64 (s.gid.size : Int)) rfl rfl (by kernel_rfl) (by kernel_rfl) (by kernel_rfl) (fun _ _ _ h => h) (Or.inl ⟨by rfl, fun wq hSw => by go_simp⟩) (by assumption) ?_
    simp only [Act.put, List.setIfInBounds_toArray, List.set_cons_zero, List.set_cons_succ]
    refine wpAnyH_takeD 27 (i := 14) (v := .pointer (some ⟨w.heap.size + 1, 12, none⟩)) rfl rfl (by kernel_rfl) (by kernel_rfl) (by kernel_rfl) (fun _ _ _ h => h) (Or.inl ⟨by rfl, fun wq hSw => by go_simp⟩) (by assumption) ?_
    simp only [Act.put, List.setIfInBounds_toArray, List.set_cons_zero, List.set_cons_succ]
    refine wpAnyH_takeD 28 (i := 15) (v := .string s.muid) rfl rfl (by kernel_rfl) (by kernel_rfl) (by kernel_rfl) (fun _ _ _ h => h) (Or.inl ⟨by rfl, fun wq hSw => by have k := hSw.k12; go_simp⟩) (by assumption) ?_
    simp only [Act.put, List.setIfInBounds_toArray, List.set_cons_zero, List.set_cons_succ]
    refine wpAnyH_takeD 29 (i := 16) (v := .int .i64 (s.muid.size : Int)) rfl rfl (by kernel_rfl) (by kernel_rfl) (by kernel_rfl) (fun _ _ _ h => h) (Or.inl ⟨by rfl, fun wq hSw => by go_simp⟩) (by assumption) ?_
    simp only [Act.put, List.setIfInBounds_toArray, List.set_cons_zero, List.set_cons_succ]
    refine wpAnyH_ready (rs := [1]) (by kernel_rfl) (by simp) ?_
    refine AllReadyH.cons rfl (fun K hK => ?_) AllReadyH.nil
    rw [if_pos (by rfl)]
    go_simp
    refine (HM.out _).mono ?_
    rintro e w3 ⟨rfl, hb⟩
    dsimp only
    have hOld := hHeld.next hb
    clear hHeld hb
    refine hK.out _ _ hOld (fun hHeld => ?_)
    clear hK hOld
    refine wpAnyH_takeD 18 (i := 5) (v := .int .i64 ((mu : Int) + (s.name.size : Int))) rfl rfl (by kernel_rfl) (by kernel_rfl) (by kernel_rfl) (fun _ _ _ h => h) (Or.inl ⟨by rfl, fun wq hSw => by go_simp <;> exact IntWalk.i64_in _ (by omega)⟩) (by assumption) ?_
    simp only [Act.put, List.setIfInBounds_toArray, List.set_cons_zero, List.set_cons_succ]
    refine wpAnyH_takeD 22 (i := 9) (v := .int .i64 ((mu : Int) + (s.name.size : Int) + (s.uid.size : Int))) rfl rfl (by kernel_rfl) (by kernel_rfl) (by kernel_rfl) (fun _ _ _ h => h) (Or.inl ⟨by rfl, fun wq hSw => by go_simp <;> exact IntWalk.i64_in _ (by omega)⟩) (by assumption) ?_
    simp only [Act.put, List.setIfInBounds_toArray, List.set_cons_zero, List.set_cons_succ]
    refine wpAnyH_takeD 26 (i := 13) (v := .int .i64 ((mu : Int) + (s.name.size : Int) + (s.uid.size : Int) + (s.gid.size : Int))) rfl rfl (by kernel_rfl) (by kernel_rfl) (by kernel_rfl) (fun _ _ _ h => h) (Or.inl ⟨by rfl, fun wq hSw => by go_simp <;> exact IntWalk.i64_in _ (by omega)⟩) (by assumption) ?_
    simp only [Act.put, List.setIfInBounds_toArray, List.set_cons_zero, List.set_cons_succ]
    refine wpAnyH_takeD 30 (i := 17) (v := .int .i64 ((mu : Int) + (s.name.size : Int) + (s.uid.size : Int) + (s.gid.size : Int) + (s.muid.size : Int))) rfl rfl (by kernel_rfl) (by kernel_rfl) (by kernel_rfl) (fun _ _ _ h => h) (Or.inl ⟨by rfl, fun wq hSw => by go_simp <;> exact IntWalk.i64_in _ (by omega)⟩) (by assumption) ?_
    simp only [Act.put, List.setIfInBounds_toArray, List.set_cons_zero, List.set_cons_succ]
    refine wpAnyH_takeD 31 (i := 18) (v := .bool true) rfl rfl (by kernel_rfl) (by kernel_rfl) (by kernel_rfl) (fun _ _ _ h => h) (Or.inl ⟨by rfl, fun wq hSw => by go_simp⟩) (by assumption) ?_
    simp only [Act.put, List.setIfInBounds_toArray, List.set_cons_zero, List.set_cons_succ]
    refine wpAnyH_done (by kernel_rfl) ?_ _
    replace HT := Lib.hid hHeld
    clear hHeld
    go_wp2_with fail
    go_ret
    exact ⟨rfl, HT.out.at_.low⟩
  · have hle : ¬ (8388608 : Int) < (mu : Int) + (s.name.size : Int) + (s.uid.size : Int) + (s.gid.size : Int) + (s.muid.size : Int) := by omega
    have hmn : muchN text user n p name ≤ 8388608 := by omega
    unfold muchN at hmn
    have HN := Lib.hid (came_ok h3 (by omega) (by omega) (by omega) (by omega))
    have HP := Lib.hid (came_ok h4 (by omega) (by omega) (by omega) (by omega))
    have HU := Lib.hid (show user.size ≤ 16777216 by omega)
    have HSG := Lib.hid (show s.gid.size ≤ 16777216 by omega)
    have HSN := Lib.hid (show s.name.size ≤ 16777216 by omega)
    have HSF := Lib.hid hsf
    have HNF := Lib.hid (recS_fit hnf HN.out)
    have HRY := Lib.hid hr
    obtain ⟨m, e1, hme⟩ : ∃ a b, wstatS (tableL text) user n p taken s = (a, b) := ⟨_, _, rfl⟩
    have htwo := wstat_two (L := tableL text) (user := user) (n := n) (p := p) (taken := taken) (s := s)
    rw [hme] at htwo
    have HTW := Lib.hid htwo
    have HME := Lib.hid hme
    have HOK := Lib.hid (show (chN n s (touchB s (recS n))).ok from by
      have hh := HN.out
      refine ⟨?_, ?_, ?_, hh.2.2.2.1, ?_, hh.2.2.2.2.2⟩
      · show 0 ≤ (if touchB s (recS n) 5 = true then s.mode else n.mode); split; exact s0; exact hh.1
      · show (if touchB s (recS n) 5 = true then s.mode else n.mode) < 4294967296; split; exact s1; exact hh.2.1
      · show (if touchB s (recS n) 9 = true then s.name else n.name).size ≤ 16777216; split; omega; exact hh.2.2.1
      · show (if touchB s (recS n) 11 = true then s.gid else n.gid).size ≤ 16777216; split; omega; exact hh.2.2.2.2.1)
    have HOF := Lib.hid (recS_fit (chN_fits (touchB s (recS n)) hnf hsf) HOK.out)
    clear htwo hme h1 h2 h3 h4 h5 hr hmu g1 g2 g3 g4 k1 k2 k3 k4 hbig s0 s1 hmn hnf hsf
    go_enter Tryz.func3, Tryz.ntmps3
    go_upto_region 1 with (fail)
    generalize (w.alloc (Obj.cells _ _)).alloc (Obj.cells _ _) = w1 at HT ⊢
    refine wp_region_held_drew (S := KB w (caseL text user n p taken full name perm mode).toArray s) (by kernel_rfl) (HT.out.next (below_drew _)) (fun hHeld => ?_)
    refine wpAnyH_takeD 13 (i := 0) rfl rfl (by kernel_rfl) (by kernel_rfl) (by kernel_rfl) (fun _ _ _ h => h) (yKC (by rfl) _ rfl rfl) (by assumption) ?_
    simp only [Act.put, List.setIfInBounds_toArray, List.set_cons_zero, List.set_cons_succ]
    refine wpAnyH_takeD 15 (i := 2) (v := .pointer (some ⟨w.heap.size + 1, 9, none⟩)) rfl rfl (by kernel_rfl) (by kernel_rfl) (by kernel_rfl) (fun _ _ _ h => h) (Or.inl ⟨by rfl, fun wq hSw => by go_simp⟩) (by assumption) ?_
    simp only [Act.put, List.setIfInBounds_toArray, List.set_cons_zero, List.set_cons_succ]
    refine wpAnyH_takeD 16 (i := 3) (v := .string s.name) rfl rfl (by kernel_rfl) (by kernel_rfl) (by kernel_rfl) (fun _ _ _ h => h) (Or.inl ⟨by rfl, fun wq hSw => by have k := hSw.k9; go_simp⟩) (by assumption) ?_
    simp only [Act.put, List.setIfInBounds_toArray, List.set_cons_zero, List.set_cons_succ]
    refine wpAnyH_takeD 17 (i := 4) (v := .int .i64 (s.name.size : Int)) rfl rfl (by kernel_rfl) (by kernel_rfl) (by kernel_rfl) (fun _ _ _ h => h) (Or.inl ⟨by rfl, fun wq hSw => by go_simp⟩) (by assumption) ?_
    simp only [Act.put, List.setIfInBounds_toArray, List.set_cons_zero, List.set_cons_succ]
    refine wpAnyH_takeD 19 (i := 6) (v := .pointer (some ⟨w.heap.size + 1, 10, none⟩)) rfl rfl (by kernel_rfl) (by kernel_rfl) (by kernel_rfl) (fun _ _ _ h => h) (Or.inl ⟨by rfl, fun wq hSw => by go_simp⟩) (by assumption) ?_
    simp only [Act.put, List.setIfInBounds_toArray, List.set_cons_zero, List.set_cons_succ]
    refine wpAnyH_takeD 20 (i := 7) (v := .string s.uid) rfl rfl (by kernel_rfl) (by kernel_rfl) (by kernel_rfl) (fun _ _ _ h => h) (Or.inl ⟨by rfl, fun wq hSw => by have k := hSw.k10; go_simp⟩) (by assumption) ?_
    simp only [Act.put, List.setIfInBounds_toArray, List.set_cons_zero, List.set_cons_succ]
    refine wpAnyH_takeD 21 (i := 8) (v := .int .i64 (s.uid.size : Int)) rfl rfl (by kernel_rfl) (by kernel_rfl) (by kernel_rfl) (fun _ _ _ h => h) (Or.inl ⟨by rfl, fun wq hSw => by go_simp⟩) (by assumption) ?_
    simp only [Act.put, List.setIfInBounds_toArray, List.set_cons_zero, List.set_cons_succ]
    refine wpAnyH_takeD 23 (i := 10) (v := .pointer (some ⟨w.heap.size + 1, 11, none⟩)) rfl rfl (by kernel_rfl) (by kernel_rfl) (by kernel_rfl) (fun _ _ _ h => h) (Or.inl ⟨by rfl, fun wq hSw => by go_simp⟩) (by assumption) ?_
    simp only [Act.put, List.setIfInBounds_toArray, List.set_cons_zero, List.set_cons_succ]
    refine wpAnyH_takeD 24 (i := 11) (v := .string s.gid) rfl rfl (by kernel_rfl) (by kernel_rfl) (by kernel_rfl) (fun _ _ _ h => h) (Or.inl ⟨by rfl, fun wq hSw => by have k := hSw.k11; go_simp⟩) (by assumption) ?_
    simp only [Act.put, List.setIfInBounds_toArray, List.set_cons_zero, List.set_cons_succ]
    refine wpAnyH_takeD 25 (i := 12) (v := .int .i64 (s.gid.size : Int)) rfl rfl (by kernel_rfl) (by kernel_rfl) (by kernel_rfl) (fun _ _ _ h => h) (Or.inl ⟨by rfl, fun wq hSw => by go_simp⟩) (by assumption) ?_
    simp only [Act.put, List.setIfInBounds_toArray, List.set_cons_zero, List.set_cons_succ]
    refine wpAnyH_takeD 27 (i := 14) (v := .pointer (some ⟨w.heap.size + 1, 12, none⟩)) rfl rfl (by kernel_rfl) (by kernel_rfl) (by kernel_rfl) (fun _ _ _ h => h) (Or.inl ⟨by rfl, fun wq hSw => by go_simp⟩) (by assumption) ?_
    simp only [Act.put, List.setIfInBounds_toArray, List.set_cons_zero, List.set_cons_succ]
    refine wpAnyH_takeD 28 (i := 15) (v := .string s.muid) rfl rfl (by kernel_rfl) (by kernel_rfl) (by kernel_rfl) (fun _ _ _ h => h) (Or.inl ⟨by rfl, fun wq hSw => by have k := hSw.k12; go_simp⟩) (by assumption) ?_
    simp only [Act.put, List.setIfInBounds_toArray, List.set_cons_zero, List.set_cons_succ]
    refine wpAnyH_takeD 29 (i := 16) (v := .int .i64 (s.muid.size : Int)) rfl rfl (by kernel_rfl) (by kernel_rfl) (by kernel_rfl) (fun _ _ _ h => h) (Or.inl ⟨by rfl, fun wq hSw => by go_simp⟩) (by assumption) ?_
    simp only [Act.put, List.setIfInBounds_toArray, List.set_cons_zero, List.set_cons_succ]
    refine wpAnyH_ready (rs := [1]) (by kernel_rfl) (by simp) ?_
    refine AllReadyH.cons rfl (fun K hK => ?_) AllReadyH.nil
    rw [if_pos (by rfl)]
    go_simp
    refine (HM.out _).mono ?_
    rintro e w3 ⟨rfl, hb⟩
    dsimp only
    have hOld := hHeld.next hb
    clear hHeld hb
    refine hK.out _ _ hOld (fun hHeld => ?_)
    clear hK hOld
    refine wpAnyH_takeD 18 (i := 5) (v := .int .i64 ((mu : Int) + (s.name.size : Int))) rfl rfl (by kernel_rfl) (by kernel_rfl) (by kernel_rfl) (fun _ _ _ h => h) (Or.inl ⟨by rfl, fun wq hSw => by go_simp <;> exact IntWalk.i64_in _ (by omega)⟩) (by assumption) ?_
    simp only [Act.put, List.setIfInBounds_toArray, List.set_cons_zero, List.set_cons_succ]
    refine wpAnyH_takeD 22 (i := 9) (v := .int .i64 ((mu : Int) + (s.name.size : Int) + (s.uid.size : Int))) rfl rfl (by kernel_rfl) (by kernel_rfl) (by kernel_rfl) (fun _ _ _ h => h) (Or.inl ⟨by rfl, fun wq hSw => by go_simp <;> exact IntWalk.i64_in _ (by omega)⟩) (by assumption) ?_
    simp only [Act.put, List.setIfInBounds_toArray, List.set_cons_zero, List.set_cons_succ]
    refine wpAnyH_takeD 26 (i := 13) (v := .int .i64 ((mu : Int) + (s.name.size : Int) + (s.uid.size : Int) + (s.gid.size : Int))) rfl rfl (by kernel_rfl) (by kernel_rfl) (by kernel_rfl) (fun _ _ _ h => h) (Or.inl ⟨by rfl, fun wq hSw => by go_simp <;> exact IntWalk.i64_in _ (by omega)⟩) (by assumption) ?_
    simp only [Act.put, List.setIfInBounds_toArray, List.set_cons_zero, List.set_cons_succ]
    refine wpAnyH_takeD 30 (i := 17) (v := .int .i64 ((mu : Int) + (s.name.size : Int) + (s.uid.size : Int) + (s.gid.size : Int) + (s.muid.size : Int))) rfl rfl (by kernel_rfl) (by kernel_rfl) (by kernel_rfl) (fun _ _ _ h => h) (Or.inl ⟨by rfl, fun wq hSw => by go_simp <;> exact IntWalk.i64_in _ (by omega)⟩) (by assumption) ?_
    simp only [Act.put, List.setIfInBounds_toArray, List.set_cons_zero, List.set_cons_succ]
    refine wpAnyH_takeD 31 (i := 18) (v := .bool false) rfl rfl (by kernel_rfl) (by kernel_rfl) (by kernel_rfl) (fun _ _ _ h => h) (Or.inl ⟨by rfl, fun wq hSw => by go_simp⟩) (by assumption) ?_
    simp only [Act.put, List.setIfInBounds_toArray, List.set_cons_zero, List.set_cons_succ]
    refine wpAnyH_done (by kernel_rfl) ?_ _
    replace HT := Lib.hid hHeld
    clear hHeld
    clear HM hmz l1 l2 l3 l4
    go_upto_region 7 with (first
      | (go_at_call 9; refine (exKnown_calls _ HT.out.at_.ready).mono ?_; rintro e w4 ⟨rfl, hb⟩; replace HT := Lib.hid (HT.out.next hb); clear hb; have c0 := HT.out.at_.c0)
      | (go_at_call 10; refine (tables_calls text _ HT.out.at_.ready).mono ?_; rintro e w5 ⟨⟨g, h, rfl, hpt, hrt⟩, hb⟩; replace HT := Lib.hid (HT.out.next hb); have HPT := Lib.hid hpt; have HRT := Lib.hid hrt; clear hb hpt hrt c0))
    have c1 := HT.out.at_.c1
    go_upto_region 8 with (first
      | (refine wfC HT.out.at_.cb rfl _ rfl rfl ?_)
      | (refine wS HT.out.sb rfl _ rfl rfl ?_)
      | (go_at_call 11; (with_reducible refine (wstat_calls _ _ user n p taken full s _ HPT.out HT.out.at_.ready HU.out HN.out HP.out HSG.out).mono ?_); rw [HME.out]; rintro e w6 ⟨rfl, hb⟩; replace HT := Lib.hid (HT.out.next hb); replace HPT := Lib.hid (HPT.out.below hb); replace HRT := Lib.hid (HRT.out.below hb); clear hb; have hqa := Blk.lt HT.out.sb)
      | (refine wl_store (NBlk.zero _) m rfl _ _ rfl rfl rfl ?_; intro w7 hs ho hz hbl; have hb := hbl _ _ ((Below.refl _ _).alloc (Nat.le_refl _) _) (Nat.le_refl _); have HA := Lib.hid hs; replace HT := Lib.hid (HT.out.next hb); replace HPT := Lib.hid (HPT.out.below hb); replace HRT := Lib.hid (HRT.out.below hb); clear hs ho hz hbl hb))
    generalize w6.heap.size = qa at HA hqa ⊢
    replace c1 := HT.out.at_.c1
    go_upto_region 9 with (first
      | (refine wfC HT.out.at_.cb rfl _ rfl rfl ?_)
      | (refine wS HT.out.sb rfl _ rfl rfl ?_)
      | (go_at_call 12; (with_reducible refine (refWstat_calls _ text user n p taken full s _ HRT.out HN.out HP.out HNF.out HSF.out HSN.out).mono ?_); rw [HME.out]; rintro e w8 ⟨rfl, hb⟩; replace HT := Lib.hid (HT.out.next hb); replace HPT := Lib.hid (HPT.out.below hb); replace HRT := Lib.hid (HRT.out.below hb); replace HA := Lib.hid (NBlk.below HA.out hb); clear hb; have hqb := Blk.lt HA.out)
      | (refine wl_store (NBlk.zero _) m rfl _ _ rfl rfl rfl ?_; intro w9 hs ho hz hbl; have hb := hbl _ _ ((Below.refl _ _).alloc (Nat.le_refl _) _) (Nat.le_refl _); have HB := Lib.hid hs; replace HT := Lib.hid (HT.out.next hb); replace HPT := Lib.hid (HPT.out.below hb); replace HRT := Lib.hid (HRT.out.below hb); replace HA := Lib.hid (NBlk.below HA.out hb); clear hs ho hz hbl hb))
    generalize w8.heap.size = qb at HB hqb ⊢
    clear c1
    go_upto_if 75 with (first
      | (refine wnN HA.out rfl _ rfl rfl ?_)
      | (refine wnN HB.out rfl _ rfl rfl ?_)
      | (refine wneN m m rfl _ _ rfl rfl rfl ?_; rw [ndEqB_self]))
    have hne : w.heap.size + 1 < qa := hqa
    go_cut [] (fun wx => ∃ x : Nd, x.ok ∧ (recS x).fit ∧ KB w (caseL text user x p taken full name perm mode).toArray s wx ∧ PTab wx g (tableL text) ∧ RTab wx h (tableL text) ∧ NBlk wx qa m ∧ NBlk wx qb m)
    case first =>
      rcases HTW.out with ⟨f1, f2⟩ | ⟨f1, f2⟩
      · go_wp2_with fail
        go_meet
        case rel => exact ⟨n, HN.out, HNF.out, HT.out, HPT.out, HRT.out, HA.out, HB.out⟩
      · have HMC := Lib.hid f2
        clear f2
        have hT := HT.out.at_
        go_wp2_with (first
          | (refine wnN HA.out rfl _ rfl rfl ?_)
          | (refine wst_caseK hT.cb m rfl _ _ rfl rfl rfl ?_; intro w20 hcb hoth hbl
             have hb5 := hbl _ _ hT.low (Nat.le_refl _)
             have HK2 := Lib.hid (show KB w (caseL text user m p taken full name perm mode).toArray s w20 from ⟨⟨HRY.out.below hb5 (Nat.le_refl _), hb5, hcb⟩, (hoth (w.heap.size + 1) (by omega)).trans HT.out.sb⟩)
             have HP2 := Lib.hid (HPT.out.other hT.cb (by decide) hoth)
             have HR2 := Lib.hid (HRT.out.other hT.cb (by decide) hoth)
             have HA2 := Lib.hid (show NBlk w20 qa m from (hoth qa (by omega)).trans HA.out)
             have HB2 := Lib.hid (show NBlk w20 qb m from (hoth qb (by omega)).trans HB.out)
             clear hcb hoth hbl hb5 hT))
        go_meet
        case rel => exact ⟨m, by rw [HMC.out]; exact HOK.out, by rw [HMC.out]; exact HOF.out, HK2.out, HP2.out, HR2.out, HA2.out, HB2.out⟩
    obtain ⟨x, hxo, hxf, hk, hpt, hrt, ha, hb⟩ := hcut
    clear HT HPT HRT HA HB HN HNF HOK HOF HTW
    have HT := Lib.hid hk
    have HPT := Lib.hid hpt
    have HRT := Lib.hid hrt
    have HA := Lib.hid ha
    have HB := Lib.hid hb
    have HN := Lib.hid hxo
    have HNF := Lib.hid hxf
    clear hk hpt hrt ha hb hxo hxf
    obtain ⟨m2, e2, hme2⟩ : ∃ a b, wstatS (tableL text) user x p taken s = (a, b) := ⟨_, _, rfl⟩
    have HME2 := Lib.hid hme2
    clear hme2
    have c1 := HT.out.at_.c1
    go_upto_region 14 with (first
      | (refine wfC HT.out.at_.cb rfl _ rfl rfl ?_)
      | (refine wS HT.out.sb rfl _ rfl rfl ?_)
      | (go_at_call 11; (with_reducible refine (wstat_calls _ _ user x p taken full s _ HPT.out HT.out.at_.ready HU.out HN.out HP.out HSG.out).mono ?_); rw [HME2.out]; rintro e w22 ⟨rfl, hb⟩; replace HT := Lib.hid (HT.out.next hb); replace HRT := Lib.hid (HRT.out.below hb); replace HA := Lib.hid (NBlk.below HA.out hb); replace HB := Lib.hid (NBlk.below HB.out hb); clear hb HPT)
      | (refine wl_store HA.out m2 rfl _ _ rfl rfl rfl ?_; intro w23 hs ho hz hbl; replace HT := Lib.hid (HT.out.put HRY.out hne ho hbl); replace HRT := Lib.hid (HRT.out.other HA.out (by decide) ho); replace HB := Lib.hid (show NBlk w23 qb m from (ho qb (by omega)).trans HB.out); replace HA := Lib.hid hs; clear hs ho hz hbl))
    replace c1 := HT.out.at_.c1
    go_upto_region 15 with (first
      | (refine wfC HT.out.at_.cb rfl _ rfl rfl ?_)
      | (refine wS HT.out.sb rfl _ rfl rfl ?_)
      | (go_at_call 12; (with_reducible refine (refWstat_calls _ text user x p taken full s _ HRT.out HN.out HP.out HNF.out HSF.out HSN.out).mono ?_); rw [HME2.out]; rintro e w24 ⟨rfl, hb⟩; replace HT := Lib.hid (HT.out.next hb); replace HA := Lib.hid (NBlk.below HA.out hb); replace HB := Lib.hid (NBlk.below HB.out hb); clear hb HRT)
      | (refine wl_store HB.out m2 rfl _ _ rfl rfl rfl ?_; intro w25 hs ho hz hbl; replace HT := Lib.hid (HT.out.put HRY.out (by omega) ho hbl); replace HA := Lib.hid (show NBlk w25 qa m2 from (ho qa (by omega)).trans HA.out); replace HB := Lib.hid hs; clear hs ho hz hbl))
    clear c1
    go_wp2_with (first
      | (refine wnN HA.out rfl _ rfl rfl ?_)
      | (refine wnN HB.out rfl _ rfl rfl ?_)
      | (refine weqN m2 m2 rfl _ _ rfl rfl rfl ?_; rw [ndEqB_self]))
    go_ret
    refine ⟨?_, HT.out.at_.low⟩
    clear HT HA HB
    go_light
    simp_all
end Go.Proofs.YtlenlldiimohjaaGreatDoor
