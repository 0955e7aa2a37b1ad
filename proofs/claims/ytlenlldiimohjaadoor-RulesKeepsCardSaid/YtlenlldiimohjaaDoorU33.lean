/-
  vergerlaw09: RulesOpens. Condition: the tables of utf8 lie as laid.
-/
import Derived.Test.YtlenlldiimohjaaDoorW1
import Derived.Deep.RegionHeld3
namespace Go.Proofs.YtlenlldiimohjaaDoor
open Go.ChangeShapes Go.WideShapes Go.ChangeAt Go.RowKit

theorem refOpen2_calls (g : Nat) (text : ByteArray) (u : ByteArray) (n p : Nd) (taken full : Bool) (m : Nat) (hm : m < 256) (w : World) (h : RTab w g (tableL text)) (hn : n.ok) (hp : p.ok) :
    Calls Tryd.prog 26 #[.pointer (some ⟨g, 0, none⟩), .string u, factsV n p taken full, .int .u8 m] w fun e w' => e = .returned (.int .i64 (openS n (rights (decide (u = n.uid)) (isMember (tableL text) u n.gid) n.mode) (rights (decide (u = p.uid)) (isMember (tableL text) u p.gid) p.mode) m (wantsP m))) ∧ Below w.heap.size w w' := by
  have h := refOpen_calls g (tableL text) u n p taken full m w h hn hp
  rw [table_member, table_member, ← wants_eq m (by omega) (by omega)] at h
  exact h
theorem refRemove2_calls (g : Nat) (text : ByteArray) (u : ByteArray) (n p : Nd) (taken full : Bool) (w : World) (h : RTab w g (tableL text)) (hn : n.ok) (hp : p.ok) :
    Calls Tryd.prog 28 #[.pointer (some ⟨g, 0, none⟩), .string u, factsV n p taken full] w fun e w' => e = .returned (.int .i64 (removeS n (rights (decide (u = p.uid)) (isMember (tableL text) u p.gid) p.mode))) ∧ Below w.heap.size w w' := by
  have h := refRemove_calls g (tableL text) u n p taken full w h hn hp
  rw [table_member] at h
  exact h
theorem refCloses2_calls (g : Nat) (text : ByteArray) (u : ByteArray) (n p : Nd) (taken full : Bool) (w : World) (h : RTab w g (tableL text)) (hn : n.ok) (hp : p.ok) :
    Calls Tryd.prog 30 #[.pointer (some ⟨g, 0, none⟩), .string u, factsV n p taken full] w fun e w' => e = .returned (.bool (removeS n (rights (decide (u = p.uid)) (isMember (tableL text) u p.gid) p.mode) == 0)) ∧ Below w.heap.size w w' := by
  have h := refCloses_calls g (tableL text) u n p taken full w h hn hp
  rw [table_member] at h
  exact h

/-- Where a law with both tables stands. -/
def OS (w0 : World) (cs : Array Value) (g h : Nat) (L : List Acct) (w : World) : Prop := LAt w0 cs w ∧ PTab w g L ∧ RTab w h L
section
variable {w0 w w' : World} {cs : Array Value} {g h : Nat} {L : List Acct}
theorem OS.next (s : OS w0 cs g h L w) (hb : Below w.heap.size w w') : OS w0 cs g h L w' := ⟨s.1.next hb, s.2.1.below hb, s.2.2.below hb⟩
theorem OS.at_ (s : OS w0 cs g h L w) : LAt w0 cs w := s.1
theorem OS.pt (s : OS w0 cs g h L w) : PTab w g L := s.2.1
theorem OS.rt (s : OS w0 cs g h L w) : RTab w h L := s.2.2
variable {ops : Array Oper} {op : Oper} {a : Act} {text user name : ByteArray} {n p : Nd} {taken full : Bool} {perm mode : Int}
theorem wpAnyH_takeD {P : Program} {ops : Array Oper} {Q : Exit → Act → World → Prop} {md : Region.Mode} {S : World → Prop} {i : Nat} {oi : Oper} {v : Value} {fuel : Nat} {listed : Array Bool} {a : Act} {w : World} (d : Nat) (hi : ops[i]? = some oi) (hd : oi.dst = some d)
    (hs : Region.noSelect ops = true) (hf : Region.free md ops listed i = true) (hr : (Region.ready md ops listed).contains i = true)
    (hQ : ∀ c a w, Q (.panic c) (a.put (some d) v) w → Q (.panic c) a w) (hy : YieldsIf P ops S oi v a) (hS : S w)
    (h : wpAnyH P md ops Q S fuel (listed.setIfInBounds i true) (a.put (some d) v) w) : wpAnyH P md ops Q S (fuel + 1) listed a w :=
  wpAnyH_take hi hs hf hr (by rw [hd]; exact hQ) hy hS (by rw [hd]; exact h)
/-- The facts are taken out of the case, whatever the world that serves. -/
theorem yF (hw : Region.wanted op (yielded ops a.tmps) = true) (x : Operand) (ho : op.op = .load 36 x) (hx : a.eval x = .pointer (some ⟨w0.heap.size, 2, none⟩)) : YieldsIf Tryd.prog ops (OS w0 (caseL text user n p taken full name perm mode).toArray g h L) op (factsV n p taken full) a :=
  yieldsIf_load_mid hw _ x ho _ _ hx (factsL n p taken full) _ (fun _ hS => Blk.range hS.1.cb 2 _ rfl) Tryd.underlying36 rfl facts_size
theorem yN (hw : Region.wanted op (yielded ops a.tmps) = true) (x : Operand) (ho : op.op = .load 34 x) (hx : a.eval x = .pointer (some ⟨w0.heap.size, 2, none⟩)) : YieldsIf Tryd.prog ops (OS w0 (caseL text user n p taken full name perm mode).toArray g h L) op (nodeV n) a :=
  yieldsIf_load_mid hw _ x ho _ _ hx (nodeL n) _ (fun _ hS => Blk.range hS.1.cb 2 _ rfl) Tryd.underlying34 rfl node_size
end

set_option maxRecDepth 100000 in
set_option maxHeartbeats 6400000 in
theorem lawOpens_calls (text user : ByteArray) (n p : Nd) (taken full : Bool) (name : ByteArray) (perm mode : Int) (w : World) (hr : Ready w)
    (h1 : text.size ≤ reachBytes) (h2 : user.size ≤ reachBytes) (h3 : n.came) (h4 : p.came) (h5 : name.size ≤ reachBytes) (hm : 0 ≤ mode ∧ mode < 256) :
    Calls Tryd.prog 7 #[caseV text user n p taken full name perm mode] w fun e w' => e = .returned (.bool true) ∧ Below w.heap.size w w' := by
  obtain ⟨k, rfl⟩ := Int.eq_ofNat_of_zero_le hm.1
  have HM := Lib.hid (fun (w : World) => much_calls text user n p taken full name perm k w h1 h2 h3 h4 h5)
  have HT := Lib.hid (LAt.start hr (caseL text user n p taken full name perm k).toArray)
  by_cases hbig : 8388608 < muchN text user n p name
  · clear h1 h2 h3 h4 h5 hm hr
    go_enter Tryd.func7, Tryd.ntmps7
    go_upto_region 1 with (fail)
    generalize w.alloc (Obj.cells _ _) = w1 at HT ⊢
    go_wp2_with (first
      | (refine wc HT.out.cb rfl _ rfl rfl ?_)
      | (go_at_call 19; refine (HM.out _).mono ?_; rintro e w' ⟨rfl, hb⟩; replace HT := Lib.hid (HT.out.next hb); clear hb))
    go_ret
    exact ⟨rfl, HT.out.low⟩
  · have hle : ¬ (8388608 : Int) < (muchN text user n p name : Int) := by omega
    have hmn : muchN text user n p name ≤ 8388608 := by omega
    unfold muchN at hmn
    have HN := Lib.hid (came_ok h3 (by omega) (by omega) (by omega) (by omega))
    have HP := Lib.hid (came_ok h4 (by omega) (by omega) (by omega) (by omega))
    have HU := Lib.hid (show user.size ≤ 16777216 by omega)
    have HK := Lib.hid (show k < 256 by omega)
    clear h1 h2 h3 h4 h5 hm hr hmn hbig
    go_enter Tryd.func7, Tryd.ntmps7
    go_upto_region 1 with (fail)
    generalize w.alloc (Obj.cells _ _) = w1 at HT ⊢
    go_upto_region 7 with (first
      | (refine wc HT.out.cb rfl _ rfl rfl ?_)
      | (go_at_call 19; refine (HM.out _).mono ?_; rintro e w' ⟨rfl, hb⟩; replace HT := Lib.hid (HT.out.next hb); clear hb)
      | (go_at_call 13; refine (exKnown_calls _ HT.out.ready).mono ?_; rintro e w' ⟨rfl, hb⟩; replace HT := Lib.hid (HT.out.next hb); clear hb; have c0 := HT.out.c0)
      | (go_at_call 20; refine (tables_calls text _ HT.out.ready).mono ?_; rintro e w' ⟨⟨g, h, rfl, hpt, hrt⟩, hb⟩; replace HT := Lib.hid (HT.out.next hb); have HPT := Lib.hid hpt; have HRT := Lib.hid hrt; clear hb hpt hrt c0))
    have HS := Lib.hid (show OS w (caseL text user n p taken full name perm k).toArray g h (tableL text) w'.drew from ⟨HT.out.next (below_drew _), HPT.out.below (below_drew _), HRT.out.below (below_drew _)⟩)
    clear HT HPT HRT
    obtain ⟨o1, ho1⟩ : ∃ r, openS n (rights (decide (user = n.uid)) (isMember (tableL text) user n.gid) n.mode) (rights (decide (user = p.uid)) (isMember (tableL text) user p.gid) p.mode) k (wantsP k) = r := ⟨_, rfl⟩
    have HO := Lib.hid ho1; clear ho1
    refine wp_region_held_drew (S := OS w (caseL text user n p taken full name perm k).toArray g h (tableL text)) (by kernel_rfl) HS.out (fun hHeld => ?_)
    refine wpAnyH_takeD 24 (i := 0) (v := .pointer (some ⟨g, 0, none⟩)) rfl rfl (by kernel_rfl) (by kernel_rfl) (by kernel_rfl) (fun _ _ _ h => h) (Or.inl ⟨by rfl, fun wq hSw => by go_simp⟩) (by assumption) ?_
    simp only [Act.put, List.setIfInBounds_toArray, List.set_cons_zero, List.set_cons_succ]
    refine wpAnyH_takeD 25 (i := 1) (v := .pointer (some ⟨w.heap.size, 1, none⟩)) rfl rfl (by kernel_rfl) (by kernel_rfl) (by kernel_rfl) (fun _ _ _ h => h) (Or.inl ⟨by rfl, fun wq hSw => by go_simp⟩) (by assumption) ?_
    simp only [Act.put, List.setIfInBounds_toArray, List.set_cons_zero, List.set_cons_succ]
    refine wpAnyH_takeD 26 (i := 2) (v := .string user) rfl rfl (by kernel_rfl) (by kernel_rfl) (by kernel_rfl) (fun _ _ _ h => h) (Or.inl ⟨by rfl, fun wq hSw => by have c := hSw.at_.c1; go_simp⟩) (by assumption) ?_
    simp only [Act.put, List.setIfInBounds_toArray, List.set_cons_zero, List.set_cons_succ]
    refine wpAnyH_takeD 27 (i := 3) (v := .pointer (some ⟨w.heap.size, 2, none⟩)) rfl rfl (by kernel_rfl) (by kernel_rfl) (by kernel_rfl) (fun _ _ _ h => h) (Or.inl ⟨by rfl, fun wq hSw => by go_simp⟩) (by assumption) ?_
    simp only [Act.put, List.setIfInBounds_toArray, List.set_cons_zero, List.set_cons_succ]
    refine wpAnyH_takeD 28 (i := 4) rfl rfl (by kernel_rfl) (by kernel_rfl) (by kernel_rfl) (fun _ _ _ h => h) (yF (by rfl) _ rfl rfl) (by assumption) ?_
    simp only [Act.put, List.setIfInBounds_toArray, List.set_cons_zero, List.set_cons_succ]
    refine wpAnyH_takeD 29 (i := 5) (v := .pointer (some ⟨w.heap.size, 32, none⟩)) rfl rfl (by kernel_rfl) (by kernel_rfl) (by kernel_rfl) (fun _ _ _ h => h) (Or.inl ⟨by rfl, fun wq hSw => by go_simp⟩) (by assumption) ?_
    simp only [Act.put, List.setIfInBounds_toArray, List.set_cons_zero, List.set_cons_succ]
    refine wpAnyH_takeD 30 (i := 6) (v := .int .u8 k) rfl rfl (by kernel_rfl) (by kernel_rfl) (by kernel_rfl) (fun _ _ _ h => h) (Or.inl ⟨by rfl, fun wq hSw => by have c := hSw.at_.c32; go_simp⟩) (by assumption) ?_
    simp only [Act.put, List.setIfInBounds_toArray, List.set_cons_zero, List.set_cons_succ]
    refine wpAnyH_takeD 32 (i := 8) (v := .pointer (some ⟨h, 0, none⟩)) rfl rfl (by kernel_rfl) (by kernel_rfl) (by kernel_rfl) (fun _ _ _ h => h) (Or.inl ⟨by rfl, fun wq hSw => by go_simp⟩) (by assumption) ?_
    simp only [Act.put, List.setIfInBounds_toArray, List.set_cons_zero, List.set_cons_succ]
    refine wpAnyH_takeD 33 (i := 9) (v := .pointer (some ⟨w.heap.size, 1, none⟩)) rfl rfl (by kernel_rfl) (by kernel_rfl) (by kernel_rfl) (fun _ _ _ h => h) (Or.inl ⟨by rfl, fun wq hSw => by go_simp⟩) (by assumption) ?_
    simp only [Act.put, List.setIfInBounds_toArray, List.set_cons_zero, List.set_cons_succ]
    refine wpAnyH_takeD 34 (i := 10) (v := .string user) rfl rfl (by kernel_rfl) (by kernel_rfl) (by kernel_rfl) (fun _ _ _ h => h) (Or.inl ⟨by rfl, fun wq hSw => by have c := hSw.at_.c1; go_simp⟩) (by assumption) ?_
    simp only [Act.put, List.setIfInBounds_toArray, List.set_cons_zero, List.set_cons_succ]
    refine wpAnyH_takeD 35 (i := 11) (v := .pointer (some ⟨w.heap.size, 2, none⟩)) rfl rfl (by kernel_rfl) (by kernel_rfl) (by kernel_rfl) (fun _ _ _ h => h) (Or.inl ⟨by rfl, fun wq hSw => by go_simp⟩) (by assumption) ?_
    simp only [Act.put, List.setIfInBounds_toArray, List.set_cons_zero, List.set_cons_succ]
    refine wpAnyH_takeD 36 (i := 12) rfl rfl (by kernel_rfl) (by kernel_rfl) (by kernel_rfl) (fun _ _ _ h => h) (yF (by rfl) _ rfl rfl) (by assumption) ?_
    simp only [Act.put, List.setIfInBounds_toArray, List.set_cons_zero, List.set_cons_succ]
    refine wpAnyH_takeD 37 (i := 13) (v := .pointer (some ⟨w.heap.size, 32, none⟩)) rfl rfl (by kernel_rfl) (by kernel_rfl) (by kernel_rfl) (fun _ _ _ h => h) (Or.inl ⟨by rfl, fun wq hSw => by go_simp⟩) (by assumption) ?_
    simp only [Act.put, List.setIfInBounds_toArray, List.set_cons_zero, List.set_cons_succ]
    refine wpAnyH_takeD 38 (i := 14) (v := .int .u8 k) rfl rfl (by kernel_rfl) (by kernel_rfl) (by kernel_rfl) (fun _ _ _ h => h) (Or.inl ⟨by rfl, fun wq hSw => by have c := hSw.at_.c32; go_simp⟩) (by assumption) ?_
    simp only [Act.put, List.setIfInBounds_toArray, List.set_cons_zero, List.set_cons_succ]
    refine wpAnyH_ready (rs := [7]) (by kernel_rfl) (by simp) ?_
    refine AllReadyH.cons rfl (fun K hK => ?_) AllReadyH.nil
    rw [if_pos (by rfl)]
    go_simp
    (with_reducible refine (open_calls _ _ user n p taken full k _ hHeld.pt HN.out HP.out HU.out).mono ?_)
    rw [HO.out]
    rintro e w3 ⟨rfl, hb⟩
    dsimp only
    have hOld := hHeld.next hb
    clear hHeld hb
    refine hK.out _ _ hOld (fun hHeld => ?_)
    clear hK hOld
    refine wpAnyH_ready (rs := [15]) (by kernel_rfl) (by simp) ?_
    refine AllReadyH.cons rfl (fun K hK => ?_) AllReadyH.nil
    rw [if_pos (by rfl)]
    go_simp
    (with_reducible refine (refOpen2_calls _ text user n p taken full k HK.out _ hHeld.rt HN.out HP.out).mono ?_)
    rw [HO.out]
    rintro e w4 ⟨rfl, hb⟩
    dsimp only
    have hOld := hHeld.next hb
    clear hHeld hb
    refine hK.out _ _ hOld (fun hHeld => ?_)
    clear hK hOld
    refine wpAnyH_takeD 40 (i := 16) (v := .bool false) rfl rfl (by kernel_rfl) (by kernel_rfl) (by kernel_rfl) (fun _ _ _ h => h) (Or.inl ⟨by rfl, fun wq hSw => by go_simp⟩) (by assumption) ?_
    simp only [Act.put, List.setIfInBounds_toArray, List.set_cons_zero, List.set_cons_succ]
    refine wpAnyH_done (by kernel_rfl) ?_ _
    have HS2 := Lib.hid hHeld
    clear hHeld HS HO
    obtain ⟨m1, hm1⟩ : ∃ r, removeS n (rights (decide (user = p.uid)) (isMember (tableL text) user p.gid) p.mode) = r := ⟨_, rfl⟩
    have HO := Lib.hid hm1; clear hm1
    go_upto_region 9 with (fail)
    have HS := Lib.hid (HS2.out.next (below_drew _))
    refine wp_region_held_drew (S := OS w (caseL text user n p taken full name perm k).toArray g h (tableL text)) (by kernel_rfl) HS.out (fun hHeld => ?_)
    refine wpAnyH_takeD 41 (i := 0) (v := .pointer (some ⟨g, 0, none⟩)) rfl rfl (by kernel_rfl) (by kernel_rfl) (by kernel_rfl) (fun _ _ _ h => h) (Or.inl ⟨by rfl, fun wq hSw => by go_simp⟩) (by assumption) ?_
    simp only [Act.put, List.setIfInBounds_toArray, List.set_cons_zero, List.set_cons_succ]
    refine wpAnyH_takeD 42 (i := 1) (v := .pointer (some ⟨w.heap.size, 1, none⟩)) rfl rfl (by kernel_rfl) (by kernel_rfl) (by kernel_rfl) (fun _ _ _ h => h) (Or.inl ⟨by rfl, fun wq hSw => by go_simp⟩) (by assumption) ?_
    simp only [Act.put, List.setIfInBounds_toArray, List.set_cons_zero, List.set_cons_succ]
    refine wpAnyH_takeD 43 (i := 2) (v := .string user) rfl rfl (by kernel_rfl) (by kernel_rfl) (by kernel_rfl) (fun _ _ _ h => h) (Or.inl ⟨by rfl, fun wq hSw => by have c := hSw.at_.c1; go_simp⟩) (by assumption) ?_
    simp only [Act.put, List.setIfInBounds_toArray, List.set_cons_zero, List.set_cons_succ]
    refine wpAnyH_takeD 44 (i := 3) (v := .pointer (some ⟨w.heap.size, 2, none⟩)) rfl rfl (by kernel_rfl) (by kernel_rfl) (by kernel_rfl) (fun _ _ _ h => h) (Or.inl ⟨by rfl, fun wq hSw => by go_simp⟩) (by assumption) ?_
    simp only [Act.put, List.setIfInBounds_toArray, List.set_cons_zero, List.set_cons_succ]
    refine wpAnyH_takeD 45 (i := 4) rfl rfl (by kernel_rfl) (by kernel_rfl) (by kernel_rfl) (fun _ _ _ h => h) (yF (by rfl) _ rfl rfl) (by assumption) ?_
    simp only [Act.put, List.setIfInBounds_toArray, List.set_cons_zero, List.set_cons_succ]
    refine wpAnyH_takeD 47 (i := 6) (v := .pointer (some ⟨h, 0, none⟩)) rfl rfl (by kernel_rfl) (by kernel_rfl) (by kernel_rfl) (fun _ _ _ h => h) (Or.inl ⟨by rfl, fun wq hSw => by go_simp⟩) (by assumption) ?_
    simp only [Act.put, List.setIfInBounds_toArray, List.set_cons_zero, List.set_cons_succ]
    refine wpAnyH_takeD 48 (i := 7) (v := .pointer (some ⟨w.heap.size, 1, none⟩)) rfl rfl (by kernel_rfl) (by kernel_rfl) (by kernel_rfl) (fun _ _ _ h => h) (Or.inl ⟨by rfl, fun wq hSw => by go_simp⟩) (by assumption) ?_
    simp only [Act.put, List.setIfInBounds_toArray, List.set_cons_zero, List.set_cons_succ]
    refine wpAnyH_takeD 49 (i := 8) (v := .string user) rfl rfl (by kernel_rfl) (by kernel_rfl) (by kernel_rfl) (fun _ _ _ h => h) (Or.inl ⟨by rfl, fun wq hSw => by have c := hSw.at_.c1; go_simp⟩) (by assumption) ?_
    simp only [Act.put, List.setIfInBounds_toArray, List.set_cons_zero, List.set_cons_succ]
    refine wpAnyH_takeD 50 (i := 9) (v := .pointer (some ⟨w.heap.size, 2, none⟩)) rfl rfl (by kernel_rfl) (by kernel_rfl) (by kernel_rfl) (fun _ _ _ h => h) (Or.inl ⟨by rfl, fun wq hSw => by go_simp⟩) (by assumption) ?_
    simp only [Act.put, List.setIfInBounds_toArray, List.set_cons_zero, List.set_cons_succ]
    refine wpAnyH_takeD 51 (i := 10) rfl rfl (by kernel_rfl) (by kernel_rfl) (by kernel_rfl) (fun _ _ _ h => h) (yF (by rfl) _ rfl rfl) (by assumption) ?_
    simp only [Act.put, List.setIfInBounds_toArray, List.set_cons_zero, List.set_cons_succ]
    refine wpAnyH_ready (rs := [5]) (by kernel_rfl) (by simp) ?_
    refine AllReadyH.cons rfl (fun K hK => ?_) AllReadyH.nil
    rw [if_pos (by rfl)]
    go_simp
    (with_reducible refine (remove_calls _ _ user n p taken full _ hHeld.pt HN.out HP.out HU.out).mono ?_)
    rw [HO.out]
    rintro e w5 ⟨rfl, hb⟩
    dsimp only
    have hOld := hHeld.next hb
    clear hHeld hb
    refine hK.out _ _ hOld (fun hHeld => ?_)
    clear hK hOld
    refine wpAnyH_ready (rs := [11]) (by kernel_rfl) (by simp) ?_
    refine AllReadyH.cons rfl (fun K hK => ?_) AllReadyH.nil
    rw [if_pos (by rfl)]
    go_simp
    (with_reducible refine (refRemove2_calls _ text user n p taken full _ hHeld.rt HN.out HP.out).mono ?_)
    rw [HO.out]
    rintro e w6 ⟨rfl, hb⟩
    dsimp only
    have hOld := hHeld.next hb
    clear hHeld hb
    refine hK.out _ _ hOld (fun hHeld => ?_)
    clear hK hOld
    refine wpAnyH_takeD 53 (i := 12) (v := .bool true) rfl rfl (by kernel_rfl) (by kernel_rfl) (by kernel_rfl) (fun _ _ _ h => h) (Or.inl ⟨by rfl, fun wq hSw => by go_simp⟩) (by assumption) ?_
    simp only [Act.put, List.setIfInBounds_toArray, List.set_cons_zero, List.set_cons_succ]
    refine wpAnyH_takeD 54 (i := 13) (v := .bool true) rfl rfl (by kernel_rfl) (by kernel_rfl) (by kernel_rfl) (fun _ _ _ h => h) (Or.inl ⟨by rfl, fun wq hSw => by go_simp⟩) (by assumption) ?_
    simp only [Act.put, List.setIfInBounds_toArray, List.set_cons_zero, List.set_cons_succ]
    refine wpAnyH_takeD 55 (i := 14) (v := .pointer (some ⟨g, 0, none⟩)) rfl rfl (by kernel_rfl) (by kernel_rfl) (by kernel_rfl) (fun _ _ _ h => h) (Or.inl ⟨by rfl, fun wq hSw => by go_simp⟩) (by assumption) ?_
    simp only [Act.put, List.setIfInBounds_toArray, List.set_cons_zero, List.set_cons_succ]
    refine wpAnyH_takeD 56 (i := 15) (v := .pointer (some ⟨w.heap.size, 1, none⟩)) rfl rfl (by kernel_rfl) (by kernel_rfl) (by kernel_rfl) (fun _ _ _ h => h) (Or.inl ⟨by rfl, fun wq hSw => by go_simp⟩) (by assumption) ?_
    simp only [Act.put, List.setIfInBounds_toArray, List.set_cons_zero, List.set_cons_succ]
    refine wpAnyH_takeD 57 (i := 16) (v := .string user) rfl rfl (by kernel_rfl) (by kernel_rfl) (by kernel_rfl) (fun _ _ _ h => h) (Or.inl ⟨by rfl, fun wq hSw => by have c := hSw.at_.c1; go_simp⟩) (by assumption) ?_
    simp only [Act.put, List.setIfInBounds_toArray, List.set_cons_zero, List.set_cons_succ]
    refine wpAnyH_takeD 58 (i := 17) (v := .pointer (some ⟨w.heap.size, 2, none⟩)) rfl rfl (by kernel_rfl) (by kernel_rfl) (by kernel_rfl) (fun _ _ _ h => h) (Or.inl ⟨by rfl, fun wq hSw => by go_simp⟩) (by assumption) ?_
    simp only [Act.put, List.setIfInBounds_toArray, List.set_cons_zero, List.set_cons_succ]
    refine wpAnyH_takeD 59 (i := 18) rfl rfl (by kernel_rfl) (by kernel_rfl) (by kernel_rfl) (fun _ _ _ h => h) (yF (by rfl) _ rfl rfl) (by assumption) ?_
    simp only [Act.put, List.setIfInBounds_toArray, List.set_cons_zero, List.set_cons_succ]
    refine wpAnyH_takeD 61 (i := 20) (v := .pointer (some ⟨h, 0, none⟩)) rfl rfl (by kernel_rfl) (by kernel_rfl) (by kernel_rfl) (fun _ _ _ h => h) (Or.inl ⟨by rfl, fun wq hSw => by go_simp⟩) (by assumption) ?_
    simp only [Act.put, List.setIfInBounds_toArray, List.set_cons_zero, List.set_cons_succ]
    refine wpAnyH_takeD 62 (i := 21) (v := .pointer (some ⟨w.heap.size, 1, none⟩)) rfl rfl (by kernel_rfl) (by kernel_rfl) (by kernel_rfl) (fun _ _ _ h => h) (Or.inl ⟨by rfl, fun wq hSw => by go_simp⟩) (by assumption) ?_
    simp only [Act.put, List.setIfInBounds_toArray, List.set_cons_zero, List.set_cons_succ]
    refine wpAnyH_takeD 63 (i := 22) (v := .string user) rfl rfl (by kernel_rfl) (by kernel_rfl) (by kernel_rfl) (fun _ _ _ h => h) (Or.inl ⟨by rfl, fun wq hSw => by have c := hSw.at_.c1; go_simp⟩) (by assumption) ?_
    simp only [Act.put, List.setIfInBounds_toArray, List.set_cons_zero, List.set_cons_succ]
    refine wpAnyH_takeD 64 (i := 23) (v := .pointer (some ⟨w.heap.size, 2, none⟩)) rfl rfl (by kernel_rfl) (by kernel_rfl) (by kernel_rfl) (fun _ _ _ h => h) (Or.inl ⟨by rfl, fun wq hSw => by go_simp⟩) (by assumption) ?_
    simp only [Act.put, List.setIfInBounds_toArray, List.set_cons_zero, List.set_cons_succ]
    refine wpAnyH_takeD 65 (i := 24) rfl rfl (by kernel_rfl) (by kernel_rfl) (by kernel_rfl) (fun _ _ _ h => h) (yF (by rfl) _ rfl rfl) (by assumption) ?_
    simp only [Act.put, List.setIfInBounds_toArray, List.set_cons_zero, List.set_cons_succ]
    refine wpAnyH_ready (rs := [19]) (by kernel_rfl) (by simp) ?_
    refine AllReadyH.cons rfl (fun K hK => ?_) AllReadyH.nil
    rw [if_pos (by rfl)]
    go_simp
    (with_reducible refine (closes_calls _ _ user n p taken full _ hHeld.pt HN.out HP.out HU.out).mono ?_)
    rw [HO.out]
    rintro e w7 ⟨rfl, hb⟩
    dsimp only
    have hOld := hHeld.next hb
    clear hHeld hb
    refine hK.out _ _ hOld (fun hHeld => ?_)
    clear hK hOld
    refine wpAnyH_ready (rs := [25]) (by kernel_rfl) (by simp) ?_
    refine AllReadyH.cons rfl (fun K hK => ?_) AllReadyH.nil
    rw [if_pos (by rfl)]
    go_simp
    (with_reducible refine (refCloses2_calls _ text user n p taken full _ hHeld.rt HN.out HP.out).mono ?_)
    rw [HO.out]
    rintro e w8 ⟨rfl, hb⟩
    dsimp only
    have hOld := hHeld.next hb
    clear hHeld hb
    refine hK.out _ _ hOld (fun hHeld => ?_)
    clear hK hOld
    refine wpAnyH_takeD 67 (i := 26) (v := .bool true) rfl rfl (by kernel_rfl) (by kernel_rfl) (by kernel_rfl) (fun _ _ _ h => h) (Or.inl ⟨by rfl, fun wq hSw => by go_simp⟩) (by assumption) ?_
    simp only [Act.put, List.setIfInBounds_toArray, List.set_cons_zero, List.set_cons_succ]
    refine wpAnyH_takeD 68 (i := 27) (v := .bool true) rfl rfl (by kernel_rfl) (by kernel_rfl) (by kernel_rfl) (fun _ _ _ h => h) (Or.inl ⟨by rfl, fun wq hSw => by go_simp⟩) (by assumption) ?_
    simp only [Act.put, List.setIfInBounds_toArray, List.set_cons_zero, List.set_cons_succ]
    refine wpAnyH_takeD 2 (i := 28) (v := .bool true) rfl rfl (by kernel_rfl) (by kernel_rfl) (by kernel_rfl) (fun _ _ _ h => h) (Or.inl ⟨by rfl, fun wq hSw => by go_simp⟩) (by assumption) ?_
    simp only [Act.put, List.setIfInBounds_toArray, List.set_cons_zero, List.set_cons_succ]
    refine wpAnyH_done (by kernel_rfl) ?_ _
    have HS3 := Lib.hid hHeld
    clear hHeld HS HO
    go_wp2_with fail
    go_ret
    exact ⟨rfl, HS3.out.at_.low⟩
end Go.Proofs.YtlenlldiimohjaaDoor
