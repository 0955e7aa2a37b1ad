/-
  vergerlaw09: RulesRights. Condition: the tables of utf8 lie as laid.
-/
import Derived.Test.YtlenlldiimohjaaDoorU33
import Derived.Test.YtlenlldiimohjaaDoorRec
import Derived.Test.YtlenlldiimohjaaDoorOpen
namespace Go.Proofs.YtlenlldiimohjaaDoor
open Go.ChangeShapes Go.WideShapes Go.ChangeAt Go.RowKit

theorem refRights2_calls (g : Nat) (text u : ByteArray) (n : Nd) (w : World) (h : RTab w g (tableL text)) (hn : n.ok) :
    Calls Tryd.prog 34 #[.pointer (some ⟨g, 0, none⟩), .string u, nodeV n] w fun e w' => e = .returned (.int .u8 (rights (decide (u = n.uid)) (isMember (tableL text) u n.gid) n.mode)) ∧ Below w.heap.size w w' := by
  have h := refRights_calls g (tableL text) u n w h hn
  rw [table_member] at h
  exact h
theorem refStep2_calls (g : Nat) (text u : ByteArray) (n : Nd) (w : World) (h : RTab w g (tableL text)) (hn : n.ok) :
    Calls Tryd.prog 35 #[.pointer (some ⟨g, 0, none⟩), .string u, nodeV n] w fun e w' => e = .returned (.int .i64 (stepS n (rights (decide (u = n.uid)) (isMember (tableL text) u n.gid) n.mode))) ∧ Below w.heap.size w w' := by
  have h := refStep_calls g (tableL text) u n w h hn
  rw [table_member] at h
  exact h

theorem run_eq_stat (w : World) (s : St) (x y : Operand) : (do eqGuard .eql 66 x y (statV s) (statV s); binOp .eql 66 (statV s) (statV s) : Sem Value).run Tryd.prog w = .ok (.bool true) w := by
  have hg : Tryd.prog.eqGuardType Tryd.prog.depth 66 = false := by kernel_rfl
  have hp : Tryd.prog.stoodInHeld 66 = false := by kernel_rfl
  have hu : Tryd.prog.underlying 66 = some (.struct (Tryd.prog.fieldsOf 66)) := by kernel_rfl
  have hp2 : Tryd.prog.stoodInHeld 64 = false := by kernel_rfl
  have hu2 : Tryd.prog.underlying 64 = some (.struct (Tryd.prog.fieldsOf 64)) := by kernel_rfl
  rw [Sem.run_bind, run_eqGuard_agg w .eql 66 x y _ _ hg, Result.andThen_ok, run_eql_struct, run_equalIn_agg w 9999 66 _ _ hu hp]
  have e1 : ∀ (w : World) (a b : Int), (Op.equalIn 9999 32 (.int .u64 a) (.int .u64 b)).run Tryd.prog w = .ok (a == b) w := fun w a b => run_equalIn_int w 9998 _ _ _ a b Tryd.underlying32
  have e2 : ∀ (w : World) (a b : Int), (Op.equalIn 9999 23 (.int .u32 a) (.int .u32 b)).run Tryd.prog w = .ok (a == b) w := fun w a b => run_equalIn_int w 9998 _ _ _ a b Tryd.underlying23
  have e3 : ∀ (w : World) (a b : Int), (Op.equalIn 9999 62 (.int .u16 a) (.int .u16 b)).run Tryd.prog w = .ok (a == b) w := fun w a b => run_equalIn_int w 9998 _ _ _ a b Tryd.underlying62
  have e4 : ∀ (w : World) (a b : ByteArray), (Op.equalIn 9999 9 (.string a) (.string b)).run Tryd.prog w = .ok (a.toList == b.toList) w := fun w a b => run_equalIn_string w 9998 _ a b Tryd.underlying9
  have e5 : ∀ (w : World) (a b : Int), (Op.equalIn 9998 32 (.int .u64 a) (.int .u64 b)).run Tryd.prog w = .ok (a == b) w := fun w a b => run_equalIn_int w 9997 _ _ _ a b Tryd.underlying32
  have e6 : ∀ (w : World) (a b : Int), (Op.equalIn 9998 23 (.int .u32 a) (.int .u32 b)).run Tryd.prog w = .ok (a == b) w := fun w a b => run_equalIn_int w 9997 _ _ _ a b Tryd.underlying23
  have e7 : ∀ (w : World) (a b : Int), (Op.equalIn 9998 5 (.int .u8 a) (.int .u8 b)).run Tryd.prog w = .ok (a == b) w := fun w a b => run_equalIn_int w 9997 _ _ _ a b Tryd.underlying5
  have e8 : ∀ (w : World) (a b c : Int), (Op.equalIn 9999 64 (.agg #[.int .u8 a, .int .u32 b, .int .u64 c]) (.agg #[.int .u8 a, .int .u32 b, .int .u64 c])).run Tryd.prog w = .ok true w := by
    intro w a b c
    rw [run_equalIn_agg w 9998 64 _ _ hu2 hp2]
    simp only [Program.fieldsOf, Tryd.underlying64, Op.eqFields]
    simp [part, e5, e6, e7, Result.andThen_ok]
  simp only [Program.fieldsOf, Tryd.underlying66, Op.eqFields]
  simp [part, e1, e2, e3, e4, e8, Result.andThen_ok]

/-- Where the law on one node stands. -/
def NS (w0 : World) (n : Nd) (g h : Nat) (L : List Acct) (w : World) : Prop := (Ready w ∧ Below w0.heap.size w0 w ∧ NBlk w w0.heap.size n) ∧ PTab w g L ∧ RTab w h L
/-- And before it has its tables. -/
def N0 (w0 : World) (n : Nd) (w : World) : Prop := Ready w ∧ Below w0.heap.size w0 w ∧ NBlk w w0.heap.size n
theorem N0.next {w0 w w' : World} {n : Nd} (h : N0 w0 n w) (hb : Below w.heap.size w w') : N0 w0 n w' := ⟨h.1.below hb (Nat.le_refl _), h.2.1.trans (hb.mono h.2.1.size), h.2.2.below hb⟩
theorem N0.start {w0 : World} (hr : Ready w0) (n : Nd) : N0 w0 n (w0.alloc (Obj.cells (nodeL n).toArray 34)) := ⟨hr.alloc _, (Below.refl _ _).alloc (Nat.le_refl _) _, NBlk.new _ _⟩
theorem N0.nb {w0 w : World} {n : Nd} (h : N0 w0 n w) : NBlk w w0.heap.size n := h.2.2
theorem N0.ready {w0 w : World} {n : Nd} (h : N0 w0 n w) : Ready w := h.1
theorem N0.low {w0 w : World} {n : Nd} (h : N0 w0 n w) : Below w0.heap.size w0 w := h.2.1
section
variable {w0 w w' : World} {n : Nd} {g h : Nat} {L : List Acct} {ops : Array Oper} {op : Oper} {a : Act}
theorem NS.next (s : NS w0 n g h L w) (hb : Below w.heap.size w w') : NS w0 n g h L w' := ⟨N0.next s.1 hb, s.2.1.below hb, s.2.2.below hb⟩
theorem NS.pt (s : NS w0 n g h L w) : PTab w g L := s.2.1
theorem NS.rt (s : NS w0 n g h L w) : RTab w h L := s.2.2
theorem NS.low (s : NS w0 n g h L w) : Below w0.heap.size w0 w := s.1.2.1
theorem yNS (hw : Region.wanted op (yielded ops a.tmps) = true) (x : Operand) (ho : op.op = .load 34 x) (hx : a.eval x = .pointer (some ⟨w0.heap.size, 0, none⟩)) : YieldsIf Tryd.prog ops (NS w0 n g h L) op (nodeV n) a :=
  yieldsIf_load_mid hw _ x ho _ _ hx (nodeL n) _ (fun _ hS => Blk.range hS.1.2.2 0 _ rfl) Tryd.underlying34 rfl node_size
theorem yEq {S : World → Prop} {s : St} (hw : Region.wanted op (yielded ops a.tmps) = true) (x y : Operand) {z : TypeId} (ho : op.op = .binOp .eql 66 x y z) (hx : a.eval x = statV s) (hy : a.eval y = statV s) : YieldsIf Tryd.prog ops S op (.bool true) a :=
  .inl ⟨hw, fun w _ => by
    unfold execOp
    simp only [ho, hx, hy]
    rw [Sem.run_bind, run_eq_stat]
    rfl⟩
end

set_option maxRecDepth 100000 in
set_option maxHeartbeats 3200000 in
theorem lawRights_calls (text user : ByteArray) (n : Nd) (w : World) (hr : Ready w) (h1 : text.size ≤ reachBytes) (h2 : user.size ≤ reachBytes) (h3 : n.came) :
    Calls Tryd.prog 10 #[.string text, .string user, nodeV n] w fun e w' => e = .returned (.bool true) ∧ Below w.heap.size w w' := by
  have hz : (⟨#[]⟩ : ByteArray).size ≤ reachBytes := by show 0 ≤ reachBytes; omega
  have HM := Lib.hid (fun (w : World) => much_calls text user n Nd.none false false ⟨#[]⟩ 0 0 w h1 h2 h3 ⟨Int.le_refl _, by decide, hz, hz, hz, hz⟩ hz)
  have HT := Lib.hid (N0.start hr n)
  by_cases hbig : 8388608 < muchN text user n Nd.none ⟨#[]⟩
  · clear h1 h2 h3 hr hz
    go_enter Tryd.func10, Tryd.ntmps10
    go_upto_region 1 with (fail)
    generalize w.alloc (Obj.cells _ _) = w1 at HT ⊢
    go_wp2_with (first
      | (refine wnN HT.out.nb rfl _ rfl rfl ?_)
      | (go_at_call 19; refine (HM.out _).mono ?_; rintro e w' ⟨rfl, hb⟩; replace HT := Lib.hid (HT.out.next hb); clear hb))
    go_ret
    exact ⟨rfl, HT.out.low⟩
  · have hle : ¬ (8388608 : Int) < (muchN text user n Nd.none ⟨#[]⟩ : Int) := by omega
    have hmn : muchN text user n Nd.none ⟨#[]⟩ ≤ 8388608 := by omega
    unfold muchN at hmn
    have HN := Lib.hid (came_ok h3 (by omega) (by omega) (by omega) (by omega))
    have HU := Lib.hid (show user.size ≤ 16777216 by omega)
    obtain ⟨r, hr1⟩ : ∃ r, rights (decide (user = n.uid)) (isMember (tableL text) user n.gid) n.mode = r := ⟨_, rfl⟩
    obtain ⟨st, hst⟩ : ∃ x, stepS n r = x := ⟨_, rfl⟩
    obtain ⟨rc, hrc⟩ : ∃ x, recS n = x := ⟨_, rfl⟩
    have HR := Lib.hid hr1; have HST := Lib.hid hst; have HRC := Lib.hid hrc
    clear h1 h2 h3 hr hmn hbig hz hr1 hst hrc
    go_enter Tryd.func10, Tryd.ntmps10
    go_upto_region 1 with (fail)
    generalize w.alloc (Obj.cells _ _) = w1 at HT ⊢
    go_upto_region 7 with (first
      | (refine wnN HT.out.nb rfl _ rfl rfl ?_)
      | (go_at_call 19; refine (HM.out _).mono ?_; rintro e w' ⟨rfl, hb⟩; replace HT := Lib.hid (HT.out.next hb); clear hb)
      | (go_at_call 13; refine (exKnown_calls _ HT.out.ready).mono ?_; rintro e w' ⟨rfl, hb⟩; replace HT := Lib.hid (HT.out.next hb); clear hb)
      | (go_at_call 20; refine (tables_calls text _ HT.out.ready).mono ?_; rintro e w' ⟨⟨g, h, rfl, hpt, hrt⟩, hb⟩; replace HT := Lib.hid (HT.out.next hb); have HPT := Lib.hid hpt; have HRT := Lib.hid hrt; clear hb hpt hrt))
    have HS := Lib.hid (show NS w n g h (tableL text) w'.drew from ⟨HT.out.next (below_drew _), HPT.out.below (below_drew _), HRT.out.below (below_drew _)⟩)
    clear HT HPT HRT HM
    refine wp_region_held_drew (S := NS w n g h (tableL text)) (by kernel_rfl) HS.out (fun hHeld => ?_)
    refine wpAnyH_takeD 31 (i := 0) (v := .pointer (some ⟨g, 0, none⟩)) rfl rfl (by kernel_rfl) (by kernel_rfl) (by kernel_rfl) (fun _ _ _ h => h) (Or.inl ⟨by rfl, fun wq hSw => by go_simp⟩) (by assumption) ?_
    simp only [Act.put, List.setIfInBounds_toArray, List.set_cons_zero, List.set_cons_succ]
    refine wpAnyH_takeD 32 (i := 1) (v := .string user) rfl rfl (by kernel_rfl) (by kernel_rfl) (by kernel_rfl) (fun _ _ _ h => h) (Or.inl ⟨by rfl, fun wq hSw => by go_simp⟩) (by assumption) ?_
    simp only [Act.put, List.setIfInBounds_toArray, List.set_cons_zero, List.set_cons_succ]
    refine wpAnyH_takeD 33 (i := 2) rfl rfl (by kernel_rfl) (by kernel_rfl) (by kernel_rfl) (fun _ _ _ h => h) (yNS (by rfl) _ rfl rfl) (by assumption) ?_
    simp only [Act.put, List.setIfInBounds_toArray, List.set_cons_zero, List.set_cons_succ]
    refine wpAnyH_takeD 35 (i := 4) (v := .pointer (some ⟨h, 0, none⟩)) rfl rfl (by kernel_rfl) (by kernel_rfl) (by kernel_rfl) (fun _ _ _ h => h) (Or.inl ⟨by rfl, fun wq hSw => by go_simp⟩) (by assumption) ?_
    simp only [Act.put, List.setIfInBounds_toArray, List.set_cons_zero, List.set_cons_succ]
    refine wpAnyH_takeD 36 (i := 5) (v := .string user) rfl rfl (by kernel_rfl) (by kernel_rfl) (by kernel_rfl) (fun _ _ _ h => h) (Or.inl ⟨by rfl, fun wq hSw => by go_simp⟩) (by assumption) ?_
    simp only [Act.put, List.setIfInBounds_toArray, List.set_cons_zero, List.set_cons_succ]
    refine wpAnyH_takeD 37 (i := 6) rfl rfl (by kernel_rfl) (by kernel_rfl) (by kernel_rfl) (fun _ _ _ h => h) (yNS (by rfl) _ rfl rfl) (by assumption) ?_
    simp only [Act.put, List.setIfInBounds_toArray, List.set_cons_zero, List.set_cons_succ]
    refine wpAnyH_ready (rs := [3]) (by kernel_rfl) (by simp) ?_
    refine AllReadyH.cons rfl (fun K hK => ?_) AllReadyH.nil
    rw [if_pos (by rfl)]
    go_simp
    (with_reducible refine (rights_calls _ _ user n _ hHeld.pt HN.out HU.out).mono ?_)
    rw [HR.out]
    rintro e w3 ⟨rfl, hb⟩
    dsimp only
    have hOld := hHeld.next hb
    clear hHeld hb
    refine hK.out _ _ hOld (fun hHeld => ?_)
    clear hK hOld
    refine wpAnyH_ready (rs := [7]) (by kernel_rfl) (by simp) ?_
    refine AllReadyH.cons rfl (fun K hK => ?_) AllReadyH.nil
    rw [if_pos (by rfl)]
    go_simp
    (with_reducible refine (refRights2_calls _ text user n _ hHeld.rt HN.out).mono ?_)
    rw [HR.out]
    rintro e w4 ⟨rfl, hb⟩
    dsimp only
    have hOld := hHeld.next hb
    clear hHeld hb
    refine hK.out _ _ hOld (fun hHeld => ?_)
    clear hK hOld
    refine wpAnyH_takeD 39 (i := 8) (v := .bool false) rfl rfl (by kernel_rfl) (by kernel_rfl) (by kernel_rfl) (fun _ _ _ h => h) (Or.inl ⟨by rfl, fun wq hSw => by go_simp⟩) (by assumption) ?_
    simp only [Act.put, List.setIfInBounds_toArray, List.set_cons_zero, List.set_cons_succ]
    refine wpAnyH_takeD 40 (i := 9) (v := .bool false) rfl rfl (by kernel_rfl) (by kernel_rfl) (by kernel_rfl) (fun _ _ _ h => h) (Or.inl ⟨by rfl, fun wq hSw => by go_simp⟩) (by assumption) ?_
    simp only [Act.put, List.setIfInBounds_toArray, List.set_cons_zero, List.set_cons_succ]
    refine wpAnyH_takeD 41 (i := 10) (v := .pointer (some ⟨g, 0, none⟩)) rfl rfl (by kernel_rfl) (by kernel_rfl) (by kernel_rfl) (fun _ _ _ h => h) (Or.inl ⟨by rfl, fun wq hSw => by go_simp⟩) (by assumption) ?_
    simp only [Act.put, List.setIfInBounds_toArray, List.set_cons_zero, List.set_cons_succ]
    refine wpAnyH_takeD 42 (i := 11) (v := .string user) rfl rfl (by kernel_rfl) (by kernel_rfl) (by kernel_rfl) (fun _ _ _ h => h) (Or.inl ⟨by rfl, fun wq hSw => by go_simp⟩) (by assumption) ?_
    simp only [Act.put, List.setIfInBounds_toArray, List.set_cons_zero, List.set_cons_succ]
    refine wpAnyH_takeD 43 (i := 12) rfl rfl (by kernel_rfl) (by kernel_rfl) (by kernel_rfl) (fun _ _ _ h => h) (yNS (by rfl) _ rfl rfl) (by assumption) ?_
    simp only [Act.put, List.setIfInBounds_toArray, List.set_cons_zero, List.set_cons_succ]
    refine wpAnyH_takeD 45 (i := 14) (v := .pointer (some ⟨h, 0, none⟩)) rfl rfl (by kernel_rfl) (by kernel_rfl) (by kernel_rfl) (fun _ _ _ h => h) (Or.inl ⟨by rfl, fun wq hSw => by go_simp⟩) (by assumption) ?_
    simp only [Act.put, List.setIfInBounds_toArray, List.set_cons_zero, List.set_cons_succ]
    refine wpAnyH_takeD 46 (i := 15) (v := .string user) rfl rfl (by kernel_rfl) (by kernel_rfl) (by kernel_rfl) (fun _ _ _ h => h) (Or.inl ⟨by rfl, fun wq hSw => by go_simp⟩) (by assumption) ?_
    simp only [Act.put, List.setIfInBounds_toArray, List.set_cons_zero, List.set_cons_succ]
    refine wpAnyH_takeD 47 (i := 16) rfl rfl (by kernel_rfl) (by kernel_rfl) (by kernel_rfl) (fun _ _ _ h => h) (yNS (by rfl) _ rfl rfl) (by assumption) ?_
    simp only [Act.put, List.setIfInBounds_toArray, List.set_cons_zero, List.set_cons_succ]
    refine wpAnyH_ready (rs := [13]) (by kernel_rfl) (by simp) ?_
    refine AllReadyH.cons rfl (fun K hK => ?_) AllReadyH.nil
    rw [if_pos (by rfl)]
    go_simp
    (with_reducible refine (step_calls _ _ user n _ hHeld.pt HN.out HU.out).mono ?_)
    rw [HR.out, HST.out]
    rintro e w5 ⟨rfl, hb⟩
    dsimp only
    have hOld := hHeld.next hb
    clear hHeld hb
    refine hK.out _ _ hOld (fun hHeld => ?_)
    clear hK hOld
    refine wpAnyH_ready (rs := [17]) (by kernel_rfl) (by simp) ?_
    refine AllReadyH.cons rfl (fun K hK => ?_) AllReadyH.nil
    rw [if_pos (by rfl)]
    go_simp
    (with_reducible refine (refStep2_calls _ text user n _ hHeld.rt HN.out).mono ?_)
    rw [HR.out, HST.out]
    rintro e w6 ⟨rfl, hb⟩
    dsimp only
    have hOld := hHeld.next hb
    clear hHeld hb
    refine hK.out _ _ hOld (fun hHeld => ?_)
    clear hK hOld
    refine wpAnyH_takeD 49 (i := 18) (v := .bool false) rfl rfl (by kernel_rfl) (by kernel_rfl) (by kernel_rfl) (fun _ _ _ h => h) (Or.inl ⟨by rfl, fun wq hSw => by go_simp⟩) (by assumption) ?_
    simp only [Act.put, List.setIfInBounds_toArray, List.set_cons_zero, List.set_cons_succ]
    refine wpAnyH_takeD 50 (i := 19) (v := .bool false) rfl rfl (by kernel_rfl) (by kernel_rfl) (by kernel_rfl) (fun _ _ _ h => h) (Or.inl ⟨by rfl, fun wq hSw => by go_simp⟩) (by assumption) ?_
    simp only [Act.put, List.setIfInBounds_toArray, List.set_cons_zero, List.set_cons_succ]
    refine wpAnyH_done (by kernel_rfl) ?_ _
    have HS2 := Lib.hid hHeld
    clear hHeld HS HR HST
    go_upto_region 9 with (fail)
    have HS := Lib.hid (HS2.out.next (below_drew _))
    refine wp_region_held_drew (S := NS w n g h (tableL text)) (by kernel_rfl) HS.out (fun hHeld => ?_)
    refine wpAnyH_takeD 51 (i := 0) rfl rfl (by kernel_rfl) (by kernel_rfl) (by kernel_rfl) (fun _ _ _ h => h) (yNS (by rfl) _ rfl rfl) (by assumption) ?_
    simp only [Act.put, List.setIfInBounds_toArray, List.set_cons_zero, List.set_cons_succ]
    refine wpAnyH_takeD 53 (i := 2) rfl rfl (by kernel_rfl) (by kernel_rfl) (by kernel_rfl) (fun _ _ _ h => h) (yNS (by rfl) _ rfl rfl) (by assumption) ?_
    simp only [Act.put, List.setIfInBounds_toArray, List.set_cons_zero, List.set_cons_succ]
    refine wpAnyH_ready (rs := [1]) (by kernel_rfl) (by simp) ?_
    refine AllReadyH.cons rfl (fun K hK => ?_) AllReadyH.nil
    rw [if_pos (by rfl)]
    go_simp
    (with_reducible refine (record_calls n _ HN.out).mono ?_)
    rw [HRC.out]
    rintro e w7 ⟨rfl, hb⟩
    dsimp only
    have hOld := hHeld.next hb
    clear hHeld hb
    refine hK.out _ _ hOld (fun hHeld => ?_)
    clear hK hOld
    refine wpAnyH_ready (rs := [3]) (by kernel_rfl) (by simp) ?_
    refine AllReadyH.cons rfl (fun K hK => ?_) AllReadyH.nil
    rw [if_pos (by rfl)]
    go_simp
    (with_reducible refine (refRecord_calls n _ HN.out).mono ?_)
    rw [HRC.out]
    rintro e w8 ⟨rfl, hb⟩
    dsimp only
    have hOld := hHeld.next hb
    clear hHeld hb
    refine hK.out _ _ hOld (fun hHeld => ?_)
    clear hK hOld
    refine wpAnyH_takeD 55 (i := 4) rfl rfl (by kernel_rfl) (by kernel_rfl) (by kernel_rfl) (fun _ _ _ h => h) (yEq (s := rc) (by rfl) _ _ rfl rfl rfl) (by assumption) ?_
    simp only [Act.put, List.setIfInBounds_toArray, List.set_cons_zero, List.set_cons_succ]
    refine wpAnyH_takeD 6 (i := 5) (v := .bool true) rfl rfl (by kernel_rfl) (by kernel_rfl) (by kernel_rfl) (fun _ _ _ h => h) (Or.inl ⟨by rfl, fun wq hSw => by go_simp⟩) (by assumption) ?_
    simp only [Act.put, List.setIfInBounds_toArray, List.set_cons_zero, List.set_cons_succ]
    refine wpAnyH_done (by kernel_rfl) ?_ _
    have HS3 := Lib.hid hHeld
    clear hHeld HS
    go_wp2_with fail
    go_ret
    exact ⟨rfl, HS3.out.low⟩
end Go.Proofs.YtlenlldiimohjaaDoor
