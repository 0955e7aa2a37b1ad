/-
  Package rules: change's length, name and gid.
-/
import Derived.Test.YtlenlldiimohjaaDoorChg
namespace Go.Proofs.YtlenlldiimohjaaDoor
open Go.ChangeShapes Go.WideShapes Go.ChangeAt Go.RowKit

/-- And with a node of its own at q. -/
def HS2 (w0 : World) (c q : Nat) (L : List Acct) (g : Nat) (user : ByteArray) (n p : Nd) (taken full : Bool) (s : St) (w : World) : Prop := HS w0 c L g user n p taken full s w ∧ NBlk w q n
section
variable {w0 w w' : World} {c q g : Nat} {L : List Acct} {user : ByteArray} {n p : Nd} {taken full : Bool} {s : St}
theorem HS2.next (h : HS2 w0 c q L g user n p taken full s w) (hb : Below w.heap.size w w') : HS2 w0 c q L g user n p taken full s w' := ⟨h.1.next hb, h.2.below hb⟩
theorem HS2.nb (h : HS2 w0 c q L g user n p taken full s w) : NBlk w q n := h.2
theorem HS2.hs (h : HS2 w0 c q L g user n p taken full s w) : HS w0 c L g user n p taken full s w := h.1
theorem HS2.q10 (h : HS2 w0 c q L g user n p taken full s w) : w.cell? ⟨q, 10, none⟩ = some (.int .u64 n.length) := Blk.cell h.2 10
variable {ops : Array Oper} {op : Oper} {a : Act}
theorem yHQ (hw : Region.wanted op (yielded ops a.tmps) = true) (x : Operand) (ho : op.op = .load 34 x) (hx : a.eval x = .pointer (some ⟨q, 0, none⟩)) : YieldsIf Tryd.prog ops (HS2 w0 c q L g user n p taken full s) op (nodeV n) a :=
  yieldsIf_load_mid hw _ x ho _ _ hx (nodeL n) _ (fun _ hS => Blk.range hS.2 0 _ rfl) Tryd.underlying34 rfl node_size
end

set_option maxRecDepth 100000 in
set_option maxHeartbeats 1600000 in
theorem chLength_calls (c : Nat) (L : List Acct) (g : Nat) (user : ByteArray) (n p : Nd) (taken full : Bool) (s : St) (w : World) (h : HS w c L g user n p taken full s w) (hu : user.size ≤ 16777216) (hn : n.ok) :
    Calls Tryd.prog 55 #[.pointer (some ⟨c, 0, none⟩)] w fun e w' => e = .returned (.int .i64 (eLen n s (rights (decide (user = n.uid)) (isMember L user n.gid) n.mode))) ∧ Below w.heap.size w w' := by
  have HR := Lib.hid h; clear h
  have HN := Lib.hid hn; clear hn
  have HU := Lib.hid hu; clear hu
  obtain ⟨r, hr⟩ : ∃ r, rights (decide (user = n.uid)) (isMember L user n.gid) n.mode = r := ⟨_, rfl⟩
  rw [hr]
  have HRR := Lib.hid hr; clear hr
  cases hd : isB n.mode 2147483648
  · have HD := Lib.hid hd
    cases hm : mayB r 2
    · have HM := Lib.hid hm
      have HX := Lib.hid (show eLen n s r = 90 from by simp [eLen, hd, hm])
      clear hd hm
      go_enter Tryd.func55, Tryd.ntmps55
      go_upto_region 2 with (first | (refine wn HR.out.bk 2 n rfl rfl _ rfl rfl ?_) | (refine wl_store (NBlk.zero _) n rfl _ _ rfl rfl rfl ?_; intro w2 hs ho hz hbl; have hb := hbl _ _ ((Below.refl _ _).alloc (Nat.le_refl _) _) (Nat.le_refl _); have HQ := Lib.hid (show HS2 w c w.heap.size L g user n p taken full s w2 from ⟨HR.out.next hb, hs⟩); clear hs ho hz hbl hb))
      go_upto_region 4 with (first | (refine wnN HQ.out.nb rfl _ rfl rfl ?_) | (go_at_call 42; (with_reducible refine (is_calls n _ _ HN.out).mono ?_); rw [HD.out]; rintro e w3 ⟨rfl, hb⟩; replace HQ := Lib.hid (HQ.out.next hb); clear hb))
      refine wp_region_held_drew (S := HS2 w c w.heap.size L g user n p taken full s) (by kernel_rfl) (HQ.out.next (below_drew _)) (fun hHeld => ?_)
      refine wpAnyH_takeD 13 (i := 0) (v := .pointer (some ⟨c, 0, none⟩)) rfl rfl (by kernel_rfl) (by kernel_rfl) (by kernel_rfl) (fun _ _ _ h => h) (Or.inl ⟨by rfl, fun wq hSw => by go_simp⟩) (by assumption) ?_
      simp only [Act.put, List.setIfInBounds_toArray, List.set_cons_zero, List.set_cons_succ]
      refine wpAnyH_takeD 14 (i := 1) (v := .pointer (some ⟨c, 0, none⟩)) rfl rfl (by kernel_rfl) (by kernel_rfl) (by kernel_rfl) (fun _ _ _ h => h) (Or.inl ⟨by rfl, fun wq hSw => by go_simp⟩) (by assumption) ?_
      simp only [Act.put, List.setIfInBounds_toArray, List.set_cons_zero, List.set_cons_succ]
      refine wpAnyH_takeD 15 (i := 2) (v := .pointer (some ⟨c, 0, none⟩)) rfl rfl (by kernel_rfl) (by kernel_rfl) (by kernel_rfl) (fun _ _ _ h => h) (Or.inl ⟨by rfl, fun wq hSw => by go_simp⟩) (by assumption) ?_
      simp only [Act.put, List.setIfInBounds_toArray, List.set_cons_zero, List.set_cons_succ]
      refine wpAnyH_takeD 16 (i := 3) (v := .pointer (some ⟨g, 0, none⟩)) rfl rfl (by kernel_rfl) (by kernel_rfl) (by kernel_rfl) (fun _ _ _ h => h) (Or.inl ⟨by rfl, fun wq hSw => by have k := hSw.hs.k0; go_simp⟩) (by assumption) ?_
      simp only [Act.put, List.setIfInBounds_toArray, List.set_cons_zero, List.set_cons_succ]
      refine wpAnyH_takeD 17 (i := 4) (v := .pointer (some ⟨c, 0, none⟩)) rfl rfl (by kernel_rfl) (by kernel_rfl) (by kernel_rfl) (fun _ _ _ h => h) (Or.inl ⟨by rfl, fun wq hSw => by go_simp⟩) (by assumption) ?_
      simp only [Act.put, List.setIfInBounds_toArray, List.set_cons_zero, List.set_cons_succ]
      refine wpAnyH_takeD 18 (i := 5) (v := .pointer (some ⟨c, 0, none⟩)) rfl rfl (by kernel_rfl) (by kernel_rfl) (by kernel_rfl) (fun _ _ _ h => h) (Or.inl ⟨by rfl, fun wq hSw => by go_simp⟩) (by assumption) ?_
      simp only [Act.put, List.setIfInBounds_toArray, List.set_cons_zero, List.set_cons_succ]
      refine wpAnyH_takeD 19 (i := 6) (v := .pointer (some ⟨c, 1, none⟩)) rfl rfl (by kernel_rfl) (by kernel_rfl) (by kernel_rfl) (fun _ _ _ h => h) (Or.inl ⟨by rfl, fun wq hSw => by go_simp⟩) (by assumption) ?_
      simp only [Act.put, List.setIfInBounds_toArray, List.set_cons_zero, List.set_cons_succ]
      refine wpAnyH_takeD 20 (i := 7) (v := .string user) rfl rfl (by kernel_rfl) (by kernel_rfl) (by kernel_rfl) (fun _ _ _ h => h) (Or.inl ⟨by rfl, fun wq hSw => by have k := hSw.hs.k1; go_simp⟩) (by assumption) ?_
      simp only [Act.put, List.setIfInBounds_toArray, List.set_cons_zero, List.set_cons_succ]
      refine wpAnyH_takeD 21 (i := 8) rfl rfl (by kernel_rfl) (by kernel_rfl) (by kernel_rfl) (fun _ _ _ h => h) (yHQ (by rfl) _ rfl rfl) (by assumption) ?_
      simp only [Act.put, List.setIfInBounds_toArray, List.set_cons_zero, List.set_cons_succ]
      refine wpAnyH_ready (rs := [9]) (by kernel_rfl) (by simp) ?_
      refine AllReadyH.cons rfl (fun K hK => ?_) AllReadyH.nil
      rw [if_pos (by rfl)]
      go_simp
      (with_reducible refine (may_calls _ _ user n _ _ hHeld.hs.pt HN.out HU.out).mono ?_)
      rw [HRR.out, HM.out]
      rintro e w3 ⟨rfl, hb⟩
      dsimp only
      have hOld := hHeld.next hb
      clear hHeld hb
      refine hK.out _ _ hOld (fun hHeld => ?_)
      clear hK hOld
      refine wpAnyH_takeD 23 (i := 10) (v := .bool true) rfl rfl (by kernel_rfl) (by kernel_rfl) (by kernel_rfl) (fun _ _ _ h => h) (Or.inl ⟨by rfl, fun wq hSw => by go_simp⟩) (by assumption) ?_
      simp only [Act.put, List.setIfInBounds_toArray, List.set_cons_zero, List.set_cons_succ]
      refine wpAnyH_takeD 12 (i := 11) (v := .bool true) rfl rfl (by kernel_rfl) (by kernel_rfl) (by kernel_rfl) (fun _ _ _ h => h) (Or.inl ⟨by rfl, fun wq hSw => by go_simp⟩) (by assumption) ?_
      simp only [Act.put, List.setIfInBounds_toArray, List.set_cons_zero, List.set_cons_succ]
      refine wpAnyH_done (by kernel_rfl) ?_ _
      replace HQ := Lib.hid hHeld
      clear hHeld
      go_wp2_with fail
      go_ret
      exact ⟨by first | rfl | (rw [HX.out]; rfl) | rw [HX.out], HQ.out.hs.low⟩
    · have HM := Lib.hid hm
      by_cases hb : 65536 < s.length
      · have HX := Lib.hid (show eLen n s r = 98 from by simp [eLen, hd, hm, hb])
        clear hd hm
        go_enter Tryd.func55, Tryd.ntmps55
        go_upto_region 2 with (first | (refine wn HR.out.bk 2 n rfl rfl _ rfl rfl ?_) | (refine wl_store (NBlk.zero _) n rfl _ _ rfl rfl rfl ?_; intro w2 hs ho hz hbl; have hb := hbl _ _ ((Below.refl _ _).alloc (Nat.le_refl _) _) (Nat.le_refl _); have HQ := Lib.hid (show HS2 w c w.heap.size L g user n p taken full s w2 from ⟨HR.out.next hb, hs⟩); clear hs ho hz hbl hb))
        go_upto_region 4 with (first | (refine wnN HQ.out.nb rfl _ rfl rfl ?_) | (go_at_call 42; (with_reducible refine (is_calls n _ _ HN.out).mono ?_); rw [HD.out]; rintro e w3 ⟨rfl, hb⟩; replace HQ := Lib.hid (HQ.out.next hb); clear hb))
        refine wp_region_held_drew (S := HS2 w c w.heap.size L g user n p taken full s) (by kernel_rfl) (HQ.out.next (below_drew _)) (fun hHeld => ?_)
        refine wpAnyH_takeD 13 (i := 0) (v := .pointer (some ⟨c, 0, none⟩)) rfl rfl (by kernel_rfl) (by kernel_rfl) (by kernel_rfl) (fun _ _ _ h => h) (Or.inl ⟨by rfl, fun wq hSw => by go_simp⟩) (by assumption) ?_
        simp only [Act.put, List.setIfInBounds_toArray, List.set_cons_zero, List.set_cons_succ]
        refine wpAnyH_takeD 14 (i := 1) (v := .pointer (some ⟨c, 0, none⟩)) rfl rfl (by kernel_rfl) (by kernel_rfl) (by kernel_rfl) (fun _ _ _ h => h) (Or.inl ⟨by rfl, fun wq hSw => by go_simp⟩) (by assumption) ?_
        simp only [Act.put, List.setIfInBounds_toArray, List.set_cons_zero, List.set_cons_succ]
        refine wpAnyH_takeD 15 (i := 2) (v := .pointer (some ⟨c, 0, none⟩)) rfl rfl (by kernel_rfl) (by kernel_rfl) (by kernel_rfl) (fun _ _ _ h => h) (Or.inl ⟨by rfl, fun wq hSw => by go_simp⟩) (by assumption) ?_
        simp only [Act.put, List.setIfInBounds_toArray, List.set_cons_zero, List.set_cons_succ]
        refine wpAnyH_takeD 16 (i := 3) (v := .pointer (some ⟨g, 0, none⟩)) rfl rfl (by kernel_rfl) (by kernel_rfl) (by kernel_rfl) (fun _ _ _ h => h) (Or.inl ⟨by rfl, fun wq hSw => by have k := hSw.hs.k0; go_simp⟩) (by assumption) ?_
        simp only [Act.put, List.setIfInBounds_toArray, List.set_cons_zero, List.set_cons_succ]
        refine wpAnyH_takeD 17 (i := 4) (v := .pointer (some ⟨c, 0, none⟩)) rfl rfl (by kernel_rfl) (by kernel_rfl) (by kernel_rfl) (fun _ _ _ h => h) (Or.inl ⟨by rfl, fun wq hSw => by go_simp⟩) (by assumption) ?_
        simp only [Act.put, List.setIfInBounds_toArray, List.set_cons_zero, List.set_cons_succ]
        refine wpAnyH_takeD 18 (i := 5) (v := .pointer (some ⟨c, 0, none⟩)) rfl rfl (by kernel_rfl) (by kernel_rfl) (by kernel_rfl) (fun _ _ _ h => h) (Or.inl ⟨by rfl, fun wq hSw => by go_simp⟩) (by assumption) ?_
        simp only [Act.put, List.setIfInBounds_toArray, List.set_cons_zero, List.set_cons_succ]
        refine wpAnyH_takeD 19 (i := 6) (v := .pointer (some ⟨c, 1, none⟩)) rfl rfl (by kernel_rfl) (by kernel_rfl) (by kernel_rfl) (fun _ _ _ h => h) (Or.inl ⟨by rfl, fun wq hSw => by go_simp⟩) (by assumption) ?_
        simp only [Act.put, List.setIfInBounds_toArray, List.set_cons_zero, List.set_cons_succ]
        refine wpAnyH_takeD 20 (i := 7) (v := .string user) rfl rfl (by kernel_rfl) (by kernel_rfl) (by kernel_rfl) (fun _ _ _ h => h) (Or.inl ⟨by rfl, fun wq hSw => by have k := hSw.hs.k1; go_simp⟩) (by assumption) ?_
        simp only [Act.put, List.setIfInBounds_toArray, List.set_cons_zero, List.set_cons_succ]
        refine wpAnyH_takeD 21 (i := 8) rfl rfl (by kernel_rfl) (by kernel_rfl) (by kernel_rfl) (fun _ _ _ h => h) (yHQ (by rfl) _ rfl rfl) (by assumption) ?_
        simp only [Act.put, List.setIfInBounds_toArray, List.set_cons_zero, List.set_cons_succ]
        refine wpAnyH_ready (rs := [9]) (by kernel_rfl) (by simp) ?_
        refine AllReadyH.cons rfl (fun K hK => ?_) AllReadyH.nil
        rw [if_pos (by rfl)]
        go_simp
        (with_reducible refine (may_calls _ _ user n _ _ hHeld.hs.pt HN.out HU.out).mono ?_)
        rw [HRR.out, HM.out]
        rintro e w3 ⟨rfl, hb⟩
        dsimp only
        have hOld := hHeld.next hb
        clear hHeld hb
        refine hK.out _ _ hOld (fun hHeld => ?_)
        clear hK hOld
        refine wpAnyH_takeD 23 (i := 10) (v := .bool false) rfl rfl (by kernel_rfl) (by kernel_rfl) (by kernel_rfl) (fun _ _ _ h => h) (Or.inl ⟨by rfl, fun wq hSw => by go_simp⟩) (by assumption) ?_
        simp only [Act.put, List.setIfInBounds_toArray, List.set_cons_zero, List.set_cons_succ]
        refine wpAnyH_takeD 12 (i := 11) (v := .bool false) rfl rfl (by kernel_rfl) (by kernel_rfl) (by kernel_rfl) (fun _ _ _ h => h) (Or.inl ⟨by rfl, fun wq hSw => by go_simp⟩) (by assumption) ?_
        simp only [Act.put, List.setIfInBounds_toArray, List.set_cons_zero, List.set_cons_succ]
        refine wpAnyH_done (by kernel_rfl) ?_ _
        replace HQ := Lib.hid hHeld
        clear hHeld
        have k := HQ.out.hs.k38
        go_wp2_with fail
        go_ret
        exact ⟨by first | rfl | (rw [HX.out]; rfl) | rw [HX.out], HQ.out.hs.low⟩
      · cases ha : isB n.mode 1073741824
        · have HA := Lib.hid ha
          have HX := Lib.hid (show eLen n s r = 0 from by simp [eLen, hd, hm, hb, ha])
          clear hd hm ha
          go_enter Tryd.func55, Tryd.ntmps55
          go_upto_region 2 with (first | (refine wn HR.out.bk 2 n rfl rfl _ rfl rfl ?_) | (refine wl_store (NBlk.zero _) n rfl _ _ rfl rfl rfl ?_; intro w2 hs ho hz hbl; have hb := hbl _ _ ((Below.refl _ _).alloc (Nat.le_refl _) _) (Nat.le_refl _); have HQ := Lib.hid (show HS2 w c w.heap.size L g user n p taken full s w2 from ⟨HR.out.next hb, hs⟩); clear hs ho hz hbl hb))
          go_upto_region 4 with (first | (refine wnN HQ.out.nb rfl _ rfl rfl ?_) | (go_at_call 42; (with_reducible refine (is_calls n _ _ HN.out).mono ?_); rw [HD.out]; rintro e w3 ⟨rfl, hb⟩; replace HQ := Lib.hid (HQ.out.next hb); clear hb))
          refine wp_region_held_drew (S := HS2 w c w.heap.size L g user n p taken full s) (by kernel_rfl) (HQ.out.next (below_drew _)) (fun hHeld => ?_)
          refine wpAnyH_takeD 13 (i := 0) (v := .pointer (some ⟨c, 0, none⟩)) rfl rfl (by kernel_rfl) (by kernel_rfl) (by kernel_rfl) (fun _ _ _ h => h) (Or.inl ⟨by rfl, fun wq hSw => by go_simp⟩) (by assumption) ?_
          simp only [Act.put, List.setIfInBounds_toArray, List.set_cons_zero, List.set_cons_succ]
          refine wpAnyH_takeD 14 (i := 1) (v := .pointer (some ⟨c, 0, none⟩)) rfl rfl (by kernel_rfl) (by kernel_rfl) (by kernel_rfl) (fun _ _ _ h => h) (Or.inl ⟨by rfl, fun wq hSw => by go_simp⟩) (by assumption) ?_
          simp only [Act.put, List.setIfInBounds_toArray, List.set_cons_zero, List.set_cons_succ]
          refine wpAnyH_takeD 15 (i := 2) (v := .pointer (some ⟨c, 0, none⟩)) rfl rfl (by kernel_rfl) (by kernel_rfl) (by kernel_rfl) (fun _ _ _ h => h) (Or.inl ⟨by rfl, fun wq hSw => by go_simp⟩) (by assumption) ?_
          simp only [Act.put, List.setIfInBounds_toArray, List.set_cons_zero, List.set_cons_succ]
          refine wpAnyH_takeD 16 (i := 3) (v := .pointer (some ⟨g, 0, none⟩)) rfl rfl (by kernel_rfl) (by kernel_rfl) (by kernel_rfl) (fun _ _ _ h => h) (Or.inl ⟨by rfl, fun wq hSw => by have k := hSw.hs.k0; go_simp⟩) (by assumption) ?_
          simp only [Act.put, List.setIfInBounds_toArray, List.set_cons_zero, List.set_cons_succ]
          refine wpAnyH_takeD 17 (i := 4) (v := .pointer (some ⟨c, 0, none⟩)) rfl rfl (by kernel_rfl) (by kernel_rfl) (by kernel_rfl) (fun _ _ _ h => h) (Or.inl ⟨by rfl, fun wq hSw => by go_simp⟩) (by assumption) ?_
          simp only [Act.put, List.setIfInBounds_toArray, List.set_cons_zero, List.set_cons_succ]
          refine wpAnyH_takeD 18 (i := 5) (v := .pointer (some ⟨c, 0, none⟩)) rfl rfl (by kernel_rfl) (by kernel_rfl) (by kernel_rfl) (fun _ _ _ h => h) (Or.inl ⟨by rfl, fun wq hSw => by go_simp⟩) (by assumption) ?_
          simp only [Act.put, List.setIfInBounds_toArray, List.set_cons_zero, List.set_cons_succ]
          refine wpAnyH_takeD 19 (i := 6) (v := .pointer (some ⟨c, 1, none⟩)) rfl rfl (by kernel_rfl) (by kernel_rfl) (by kernel_rfl) (fun _ _ _ h => h) (Or.inl ⟨by rfl, fun wq hSw => by go_simp⟩) (by assumption) ?_
          simp only [Act.put, List.setIfInBounds_toArray, List.set_cons_zero, List.set_cons_succ]
          refine wpAnyH_takeD 20 (i := 7) (v := .string user) rfl rfl (by kernel_rfl) (by kernel_rfl) (by kernel_rfl) (fun _ _ _ h => h) (Or.inl ⟨by rfl, fun wq hSw => by have k := hSw.hs.k1; go_simp⟩) (by assumption) ?_
          simp only [Act.put, List.setIfInBounds_toArray, List.set_cons_zero, List.set_cons_succ]
          refine wpAnyH_takeD 21 (i := 8) rfl rfl (by kernel_rfl) (by kernel_rfl) (by kernel_rfl) (fun _ _ _ h => h) (yHQ (by rfl) _ rfl rfl) (by assumption) ?_
          simp only [Act.put, List.setIfInBounds_toArray, List.set_cons_zero, List.set_cons_succ]
          refine wpAnyH_ready (rs := [9]) (by kernel_rfl) (by simp) ?_
          refine AllReadyH.cons rfl (fun K hK => ?_) AllReadyH.nil
          rw [if_pos (by rfl)]
          go_simp
          (with_reducible refine (may_calls _ _ user n _ _ hHeld.hs.pt HN.out HU.out).mono ?_)
          rw [HRR.out, HM.out]
          rintro e w3 ⟨rfl, hb⟩
          dsimp only
          have hOld := hHeld.next hb
          clear hHeld hb
          refine hK.out _ _ hOld (fun hHeld => ?_)
          clear hK hOld
          refine wpAnyH_takeD 23 (i := 10) (v := .bool false) rfl rfl (by kernel_rfl) (by kernel_rfl) (by kernel_rfl) (fun _ _ _ h => h) (Or.inl ⟨by rfl, fun wq hSw => by go_simp⟩) (by assumption) ?_
          simp only [Act.put, List.setIfInBounds_toArray, List.set_cons_zero, List.set_cons_succ]
          refine wpAnyH_takeD 12 (i := 11) (v := .bool false) rfl rfl (by kernel_rfl) (by kernel_rfl) (by kernel_rfl) (fun _ _ _ h => h) (Or.inl ⟨by rfl, fun wq hSw => by go_simp⟩) (by assumption) ?_
          simp only [Act.put, List.setIfInBounds_toArray, List.set_cons_zero, List.set_cons_succ]
          refine wpAnyH_done (by kernel_rfl) ?_ _
          replace HQ := Lib.hid hHeld
          clear hHeld
          have k := HQ.out.hs.k38
          go_upto_region 8 with (fail)
          clear k
          refine wp_region_held_drew (S := HS2 w c w.heap.size L g user n p taken full s) (by kernel_rfl) (HQ.out.next (below_drew _)) (fun hHeld => ?_)
          refine wpAnyH_takeD 32 (i := 0) rfl rfl (by kernel_rfl) (by kernel_rfl) (by kernel_rfl) (fun _ _ _ h => h) (yHQ (by rfl) _ rfl rfl) (by assumption) ?_
          simp only [Act.put, List.setIfInBounds_toArray, List.set_cons_zero, List.set_cons_succ]
          refine wpAnyH_ready (rs := [1]) (by kernel_rfl) (by simp) ?_
          refine AllReadyH.cons rfl (fun K hK => ?_) AllReadyH.nil
          rw [if_pos (by rfl)]
          go_simp
          (with_reducible refine (is_calls n _ _ HN.out).mono ?_)
          rw [HA.out]
          rintro e w3 ⟨rfl, hb⟩
          dsimp only
          have hOld := hHeld.next hb
          clear hHeld hb
          refine hK.out _ _ hOld (fun hHeld => ?_)
          clear hK hOld
          refine wpAnyH_takeD 34 (i := 2) (v := .bool false) rfl rfl (by kernel_rfl) (by kernel_rfl) (by kernel_rfl) (fun _ _ _ h => h) (Or.inl ⟨by rfl, fun wq hSw => by go_simp⟩) (by assumption) ?_
          simp only [Act.put, List.setIfInBounds_toArray, List.set_cons_zero, List.set_cons_succ]
          refine wpAnyH_takeD 35 (i := 3) (v := undef) rfl rfl (by kernel_rfl) (by kernel_rfl) (by kernel_rfl) (fun _ _ _ h => h) (Or.inr ⟨by rfl, rfl⟩) (by assumption) ?_
          simp only [Act.put, List.setIfInBounds_toArray, List.set_cons_zero, List.set_cons_succ]
          refine wpAnyH_takeD 36 (i := 4) (v := undef) rfl rfl (by kernel_rfl) (by kernel_rfl) (by kernel_rfl) (fun _ _ _ h => h) (Or.inr ⟨by rfl, rfl⟩) (by assumption) ?_
          simp only [Act.put, List.setIfInBounds_toArray, List.set_cons_zero, List.set_cons_succ]
          refine wpAnyH_takeD 37 (i := 5) (v := undef) rfl rfl (by kernel_rfl) (by kernel_rfl) (by kernel_rfl) (fun _ _ _ h => h) (Or.inr ⟨by rfl, rfl⟩) (by assumption) ?_
          simp only [Act.put, List.setIfInBounds_toArray, List.set_cons_zero, List.set_cons_succ]
          refine wpAnyH_takeD 38 (i := 6) (v := undef) rfl rfl (by kernel_rfl) (by kernel_rfl) (by kernel_rfl) (fun _ _ _ h => h) (Or.inr ⟨by rfl, rfl⟩) (by assumption) ?_
          simp only [Act.put, List.setIfInBounds_toArray, List.set_cons_zero, List.set_cons_succ]
          refine wpAnyH_takeD 39 (i := 7) (v := undef) rfl rfl (by kernel_rfl) (by kernel_rfl) (by kernel_rfl) (fun _ _ _ h => h) (Or.inr ⟨by rfl, rfl⟩) (by assumption) ?_
          simp only [Act.put, List.setIfInBounds_toArray, List.set_cons_zero, List.set_cons_succ]
          refine wpAnyH_takeD 40 (i := 8) (v := undef) rfl rfl (by kernel_rfl) (by kernel_rfl) (by kernel_rfl) (fun _ _ _ h => h) (Or.inr ⟨by rfl, rfl⟩) (by assumption) ?_
          simp only [Act.put, List.setIfInBounds_toArray, List.set_cons_zero, List.set_cons_succ]
          refine wpAnyH_takeD 41 (i := 9) (v := undef) rfl rfl (by kernel_rfl) (by kernel_rfl) (by kernel_rfl) (fun _ _ _ h => h) (Or.inr ⟨by rfl, rfl⟩) (by assumption) ?_
          simp only [Act.put, List.setIfInBounds_toArray, List.set_cons_zero, List.set_cons_succ]
          refine wpAnyH_takeD 42 (i := 10) (v := undef) rfl rfl (by kernel_rfl) (by kernel_rfl) (by kernel_rfl) (fun _ _ _ h => h) (Or.inr ⟨by rfl, rfl⟩) (by assumption) ?_
          simp only [Act.put, List.setIfInBounds_toArray, List.set_cons_zero, List.set_cons_succ]
          refine wpAnyH_takeD 43 (i := 11) (v := .bool false) rfl rfl (by kernel_rfl) (by kernel_rfl) (by kernel_rfl) (fun _ _ _ h => h) (Or.inl ⟨by rfl, fun wq hSw => by go_simp⟩) (by assumption) ?_
          simp only [Act.put, List.setIfInBounds_toArray, List.set_cons_zero, List.set_cons_succ]
          refine wpAnyH_takeD 31 (i := 12) (v := .bool false) rfl rfl (by kernel_rfl) (by kernel_rfl) (by kernel_rfl) (fun _ _ _ h => h) (Or.inl ⟨by rfl, fun wq hSw => by go_simp⟩) (by assumption) ?_
          simp only [Act.put, List.setIfInBounds_toArray, List.set_cons_zero, List.set_cons_succ]
          refine wpAnyH_done (by kernel_rfl) ?_ _
          replace HQ := Lib.hid hHeld
          clear hHeld
          go_wp2_with fail
          go_ret
          exact ⟨by first | rfl | (rw [HX.out]; rfl) | rw [HX.out], HQ.out.hs.low⟩
        · have HA := Lib.hid ha
          by_cases hl : s.length < n.length
          · have HX := Lib.hid (show eLen n s r = 97 from by simp [eLen, hd, hm, hb, ha, hl])
            clear hd hm ha
            go_enter Tryd.func55, Tryd.ntmps55
            go_upto_region 2 with (first | (refine wn HR.out.bk 2 n rfl rfl _ rfl rfl ?_) | (refine wl_store (NBlk.zero _) n rfl _ _ rfl rfl rfl ?_; intro w2 hs ho hz hbl; have hb := hbl _ _ ((Below.refl _ _).alloc (Nat.le_refl _) _) (Nat.le_refl _); have HQ := Lib.hid (show HS2 w c w.heap.size L g user n p taken full s w2 from ⟨HR.out.next hb, hs⟩); clear hs ho hz hbl hb))
            go_upto_region 4 with (first | (refine wnN HQ.out.nb rfl _ rfl rfl ?_) | (go_at_call 42; (with_reducible refine (is_calls n _ _ HN.out).mono ?_); rw [HD.out]; rintro e w3 ⟨rfl, hb⟩; replace HQ := Lib.hid (HQ.out.next hb); clear hb))
            refine wp_region_held_drew (S := HS2 w c w.heap.size L g user n p taken full s) (by kernel_rfl) (HQ.out.next (below_drew _)) (fun hHeld => ?_)
            refine wpAnyH_takeD 13 (i := 0) (v := .pointer (some ⟨c, 0, none⟩)) rfl rfl (by kernel_rfl) (by kernel_rfl) (by kernel_rfl) (fun _ _ _ h => h) (Or.inl ⟨by rfl, fun wq hSw => by go_simp⟩) (by assumption) ?_
            simp only [Act.put, List.setIfInBounds_toArray, List.set_cons_zero, List.set_cons_succ]
            refine wpAnyH_takeD 14 (i := 1) (v := .pointer (some ⟨c, 0, none⟩)) rfl rfl (by kernel_rfl) (by kernel_rfl) (by kernel_rfl) (fun _ _ _ h => h) (Or.inl ⟨by rfl, fun wq hSw => by go_simp⟩) (by assumption) ?_
            simp only [Act.put, List.setIfInBounds_toArray, List.set_cons_zero, List.set_cons_succ]
            refine wpAnyH_takeD 15 (i := 2) (v := .pointer (some ⟨c, 0, none⟩)) rfl rfl (by kernel_rfl) (by kernel_rfl) (by kernel_rfl) (fun _ _ _ h => h) (Or.inl ⟨by rfl, fun wq hSw => by go_simp⟩) (by assumption) ?_
            simp only [Act.put, List.setIfInBounds_toArray, List.set_cons_zero, List.set_cons_succ]
            refine wpAnyH_takeD 16 (i := 3) (v := .pointer (some ⟨g, 0, none⟩)) rfl rfl (by kernel_rfl) (by kernel_rfl) (by kernel_rfl) (fun _ _ _ h => h) (Or.inl ⟨by rfl, fun wq hSw => by have k := hSw.hs.k0; go_simp⟩) (by assumption) ?_
            simp only [Act.put, List.setIfInBounds_toArray, List.set_cons_zero, List.set_cons_succ]
            refine wpAnyH_takeD 17 (i := 4) (v := .pointer (some ⟨c, 0, none⟩)) rfl rfl (by kernel_rfl) (by kernel_rfl) (by kernel_rfl) (fun _ _ _ h => h) (Or.inl ⟨by rfl, fun wq hSw => by go_simp⟩) (by assumption) ?_
            simp only [Act.put, List.setIfInBounds_toArray, List.set_cons_zero, List.set_cons_succ]
            refine wpAnyH_takeD 18 (i := 5) (v := .pointer (some ⟨c, 0, none⟩)) rfl rfl (by kernel_rfl) (by kernel_rfl) (by kernel_rfl) (fun _ _ _ h => h) (Or.inl ⟨by rfl, fun wq hSw => by go_simp⟩) (by assumption) ?_
            simp only [Act.put, List.setIfInBounds_toArray, List.set_cons_zero, List.set_cons_succ]
            refine wpAnyH_takeD 19 (i := 6) (v := .pointer (some ⟨c, 1, none⟩)) rfl rfl (by kernel_rfl) (by kernel_rfl) (by kernel_rfl) (fun _ _ _ h => h) (Or.inl ⟨by rfl, fun wq hSw => by go_simp⟩) (by assumption) ?_
            simp only [Act.put, List.setIfInBounds_toArray, List.set_cons_zero, List.set_cons_succ]
            refine wpAnyH_takeD 20 (i := 7) (v := .string user) rfl rfl (by kernel_rfl) (by kernel_rfl) (by kernel_rfl) (fun _ _ _ h => h) (Or.inl ⟨by rfl, fun wq hSw => by have k := hSw.hs.k1; go_simp⟩) (by assumption) ?_
            simp only [Act.put, List.setIfInBounds_toArray, List.set_cons_zero, List.set_cons_succ]
            refine wpAnyH_takeD 21 (i := 8) rfl rfl (by kernel_rfl) (by kernel_rfl) (by kernel_rfl) (fun _ _ _ h => h) (yHQ (by rfl) _ rfl rfl) (by assumption) ?_
            simp only [Act.put, List.setIfInBounds_toArray, List.set_cons_zero, List.set_cons_succ]
            refine wpAnyH_ready (rs := [9]) (by kernel_rfl) (by simp) ?_
            refine AllReadyH.cons rfl (fun K hK => ?_) AllReadyH.nil
            rw [if_pos (by rfl)]
            go_simp
            (with_reducible refine (may_calls _ _ user n _ _ hHeld.hs.pt HN.out HU.out).mono ?_)
            rw [HRR.out, HM.out]
            rintro e w3 ⟨rfl, hb⟩
            dsimp only
            have hOld := hHeld.next hb
            clear hHeld hb
            refine hK.out _ _ hOld (fun hHeld => ?_)
            clear hK hOld
            refine wpAnyH_takeD 23 (i := 10) (v := .bool false) rfl rfl (by kernel_rfl) (by kernel_rfl) (by kernel_rfl) (fun _ _ _ h => h) (Or.inl ⟨by rfl, fun wq hSw => by go_simp⟩) (by assumption) ?_
            simp only [Act.put, List.setIfInBounds_toArray, List.set_cons_zero, List.set_cons_succ]
            refine wpAnyH_takeD 12 (i := 11) (v := .bool false) rfl rfl (by kernel_rfl) (by kernel_rfl) (by kernel_rfl) (fun _ _ _ h => h) (Or.inl ⟨by rfl, fun wq hSw => by go_simp⟩) (by assumption) ?_
            simp only [Act.put, List.setIfInBounds_toArray, List.set_cons_zero, List.set_cons_succ]
            refine wpAnyH_done (by kernel_rfl) ?_ _
            replace HQ := Lib.hid hHeld
            clear hHeld
            have k := HQ.out.hs.k38
            go_upto_region 8 with (fail)
            clear k
            refine wp_region_held_drew (S := HS2 w c w.heap.size L g user n p taken full s) (by kernel_rfl) (HQ.out.next (below_drew _)) (fun hHeld => ?_)
            refine wpAnyH_takeD 32 (i := 0) rfl rfl (by kernel_rfl) (by kernel_rfl) (by kernel_rfl) (fun _ _ _ h => h) (yHQ (by rfl) _ rfl rfl) (by assumption) ?_
            simp only [Act.put, List.setIfInBounds_toArray, List.set_cons_zero, List.set_cons_succ]
            refine wpAnyH_ready (rs := [1]) (by kernel_rfl) (by simp) ?_
            refine AllReadyH.cons rfl (fun K hK => ?_) AllReadyH.nil
            rw [if_pos (by rfl)]
            go_simp
            (with_reducible refine (is_calls n _ _ HN.out).mono ?_)
            rw [HA.out]
            rintro e w3 ⟨rfl, hb⟩
            dsimp only
            have hOld := hHeld.next hb
            clear hHeld hb
            refine hK.out _ _ hOld (fun hHeld => ?_)
            clear hK hOld
            refine wpAnyH_takeD 34 (i := 2) (v := .bool true) rfl rfl (by kernel_rfl) (by kernel_rfl) (by kernel_rfl) (fun _ _ _ h => h) (Or.inl ⟨by rfl, fun wq hSw => by go_simp⟩) (by assumption) ?_
            simp only [Act.put, List.setIfInBounds_toArray, List.set_cons_zero, List.set_cons_succ]
            refine wpAnyH_takeD 35 (i := 3) (v := .pointer (some ⟨c, 0, none⟩)) rfl rfl (by kernel_rfl) (by kernel_rfl) (by kernel_rfl) (fun _ _ _ h => h) (Or.inl ⟨by rfl, fun wq hSw => by go_simp⟩) (by assumption) ?_
            simp only [Act.put, List.setIfInBounds_toArray, List.set_cons_zero, List.set_cons_succ]
            refine wpAnyH_takeD 36 (i := 4) (v := .pointer (some ⟨c, 0, none⟩)) rfl rfl (by kernel_rfl) (by kernel_rfl) (by kernel_rfl) (fun _ _ _ h => h) (Or.inl ⟨by rfl, fun wq hSw => by go_simp⟩) (by assumption) ?_
            simp only [Act.put, List.setIfInBounds_toArray, List.set_cons_zero, List.set_cons_succ]
            refine wpAnyH_takeD 37 (i := 5) (v := .pointer (some ⟨c, 30, none⟩)) rfl rfl (by kernel_rfl) (by kernel_rfl) (by kernel_rfl) (fun _ _ _ h => h) (Or.inl ⟨by rfl, fun wq hSw => by go_simp⟩) (by assumption) ?_
            simp only [Act.put, List.setIfInBounds_toArray, List.set_cons_zero, List.set_cons_succ]
            refine wpAnyH_takeD 38 (i := 6) (v := .pointer (some ⟨c, 38, none⟩)) rfl rfl (by kernel_rfl) (by kernel_rfl) (by kernel_rfl) (fun _ _ _ h => h) (Or.inl ⟨by rfl, fun wq hSw => by go_simp⟩) (by assumption) ?_
            simp only [Act.put, List.setIfInBounds_toArray, List.set_cons_zero, List.set_cons_succ]
            refine wpAnyH_takeD 39 (i := 7) (v := .int .u64 s.length) rfl rfl (by kernel_rfl) (by kernel_rfl) (by kernel_rfl) (fun _ _ _ h => h) (Or.inl ⟨by rfl, fun wq hSw => by have k := hSw.hs.k38; go_simp⟩) (by assumption) ?_
            simp only [Act.put, List.setIfInBounds_toArray, List.set_cons_zero, List.set_cons_succ]
            refine wpAnyH_takeD 40 (i := 8) (v := .pointer (some ⟨w.heap.size, 10, none⟩)) rfl rfl (by kernel_rfl) (by kernel_rfl) (by kernel_rfl) (fun _ _ _ h => h) (Or.inl ⟨by rfl, fun wq hSw => by go_simp⟩) (by assumption) ?_
            simp only [Act.put, List.setIfInBounds_toArray, List.set_cons_zero, List.set_cons_succ]
            refine wpAnyH_takeD 41 (i := 9) (v := .int .u64 n.length) rfl rfl (by kernel_rfl) (by kernel_rfl) (by kernel_rfl) (fun _ _ _ h => h) (Or.inl ⟨by rfl, fun wq hSw => by have k := hSw.q10; go_simp⟩) (by assumption) ?_
            simp only [Act.put, List.setIfInBounds_toArray, List.set_cons_zero, List.set_cons_succ]
            refine wpAnyH_takeD 42 (i := 10) (v := .bool true) rfl rfl (by kernel_rfl) (by kernel_rfl) (by kernel_rfl) (fun _ _ _ h => h) (Or.inl ⟨by rfl, fun wq hSw => by go_simp⟩) (by assumption) ?_
            simp only [Act.put, List.setIfInBounds_toArray, List.set_cons_zero, List.set_cons_succ]
            refine wpAnyH_takeD 43 (i := 11) (v := .bool true) rfl rfl (by kernel_rfl) (by kernel_rfl) (by kernel_rfl) (fun _ _ _ h => h) (Or.inl ⟨by rfl, fun wq hSw => by go_simp⟩) (by assumption) ?_
            simp only [Act.put, List.setIfInBounds_toArray, List.set_cons_zero, List.set_cons_succ]
            refine wpAnyH_takeD 31 (i := 12) (v := .bool true) rfl rfl (by kernel_rfl) (by kernel_rfl) (by kernel_rfl) (fun _ _ _ h => h) (Or.inl ⟨by rfl, fun wq hSw => by go_simp⟩) (by assumption) ?_
            simp only [Act.put, List.setIfInBounds_toArray, List.set_cons_zero, List.set_cons_succ]
            refine wpAnyH_done (by kernel_rfl) ?_ _
            replace HQ := Lib.hid hHeld
            clear hHeld
            go_wp2_with fail
            go_ret
            exact ⟨by first | rfl | (rw [HX.out]; rfl) | rw [HX.out], HQ.out.hs.low⟩
          · have HX := Lib.hid (show eLen n s r = 0 from by simp [eLen, hd, hm, hb, ha, hl])
            clear hd hm ha
            go_enter Tryd.func55, Tryd.ntmps55
            go_upto_region 2 with (first | (refine wn HR.out.bk 2 n rfl rfl _ rfl rfl ?_) | (refine wl_store (NBlk.zero _) n rfl _ _ rfl rfl rfl ?_; intro w2 hs ho hz hbl; have hb := hbl _ _ ((Below.refl _ _).alloc (Nat.le_refl _) _) (Nat.le_refl _); have HQ := Lib.hid (show HS2 w c w.heap.size L g user n p taken full s w2 from ⟨HR.out.next hb, hs⟩); clear hs ho hz hbl hb))
            go_upto_region 4 with (first | (refine wnN HQ.out.nb rfl _ rfl rfl ?_) | (go_at_call 42; (with_reducible refine (is_calls n _ _ HN.out).mono ?_); rw [HD.out]; rintro e w3 ⟨rfl, hb⟩; replace HQ := Lib.hid (HQ.out.next hb); clear hb))
            refine wp_region_held_drew (S := HS2 w c w.heap.size L g user n p taken full s) (by kernel_rfl) (HQ.out.next (below_drew _)) (fun hHeld => ?_)
            refine wpAnyH_takeD 13 (i := 0) (v := .pointer (some ⟨c, 0, none⟩)) rfl rfl (by kernel_rfl) (by kernel_rfl) (by kernel_rfl) (fun _ _ _ h => h) (Or.inl ⟨by rfl, fun wq hSw => by go_simp⟩) (by assumption) ?_
            simp only [Act.put, List.setIfInBounds_toArray, List.set_cons_zero, List.set_cons_succ]
            refine wpAnyH_takeD 14 (i := 1) (v := .pointer (some ⟨c, 0, none⟩)) rfl rfl (by kernel_rfl) (by kernel_rfl) (by kernel_rfl) (fun _ _ _ h => h) (Or.inl ⟨by rfl, fun wq hSw => by go_simp⟩) (by assumption) ?_
            simp only [Act.put, List.setIfInBounds_toArray, List.set_cons_zero, List.set_cons_succ]
            refine wpAnyH_takeD 15 (i := 2) (v := .pointer (some ⟨c, 0, none⟩)) rfl rfl (by kernel_rfl) (by kernel_rfl) (by kernel_rfl) (fun _ _ _ h => h) (Or.inl ⟨by rfl, fun wq hSw => by go_simp⟩) (by assumption) ?_
            simp only [Act.put, List.setIfInBounds_toArray, List.set_cons_zero, List.set_cons_succ]
            refine wpAnyH_takeD 16 (i := 3) (v := .pointer (some ⟨g, 0, none⟩)) rfl rfl (by kernel_rfl) (by kernel_rfl) (by kernel_rfl) (fun _ _ _ h => h) (Or.inl ⟨by rfl, fun wq hSw => by have k := hSw.hs.k0; go_simp⟩) (by assumption) ?_
            simp only [Act.put, List.setIfInBounds_toArray, List.set_cons_zero, List.set_cons_succ]
            refine wpAnyH_takeD 17 (i := 4) (v := .pointer (some ⟨c, 0, none⟩)) rfl rfl (by kernel_rfl) (by kernel_rfl) (by kernel_rfl) (fun _ _ _ h => h) (Or.inl ⟨by rfl, fun wq hSw => by go_simp⟩) (by assumption) ?_
            simp only [Act.put, List.setIfInBounds_toArray, List.set_cons_zero, List.set_cons_succ]
            refine wpAnyH_takeD 18 (i := 5) (v := .pointer (some ⟨c, 0, none⟩)) rfl rfl (by kernel_rfl) (by kernel_rfl) (by kernel_rfl) (fun _ _ _ h => h) (Or.inl ⟨by rfl, fun wq hSw => by go_simp⟩) (by assumption) ?_
            simp only [Act.put, List.setIfInBounds_toArray, List.set_cons_zero, List.set_cons_succ]
            refine wpAnyH_takeD 19 (i := 6) (v := .pointer (some ⟨c, 1, none⟩)) rfl rfl (by kernel_rfl) (by kernel_rfl) (by kernel_rfl) (fun _ _ _ h => h) (Or.inl ⟨by rfl, fun wq hSw => by go_simp⟩) (by assumption) ?_
            simp only [Act.put, List.setIfInBounds_toArray, List.set_cons_zero, List.set_cons_succ]
            refine wpAnyH_takeD 20 (i := 7) (v := .string user) rfl rfl (by kernel_rfl) (by kernel_rfl) (by kernel_rfl) (fun _ _ _ h => h) (Or.inl ⟨by rfl, fun wq hSw => by have k := hSw.hs.k1; go_simp⟩) (by assumption) ?_
            simp only [Act.put, List.setIfInBounds_toArray, List.set_cons_zero, List.set_cons_succ]
            refine wpAnyH_takeD 21 (i := 8) rfl rfl (by kernel_rfl) (by kernel_rfl) (by kernel_rfl) (fun _ _ _ h => h) (yHQ (by rfl) _ rfl rfl) (by assumption) ?_
            simp only [Act.put, List.setIfInBounds_toArray, List.set_cons_zero, List.set_cons_succ]
            refine wpAnyH_ready (rs := [9]) (by kernel_rfl) (by simp) ?_
            refine AllReadyH.cons rfl (fun K hK => ?_) AllReadyH.nil
            rw [if_pos (by rfl)]
            go_simp
            (with_reducible refine (may_calls _ _ user n _ _ hHeld.hs.pt HN.out HU.out).mono ?_)
            rw [HRR.out, HM.out]
            rintro e w3 ⟨rfl, hb⟩
            dsimp only
            have hOld := hHeld.next hb
            clear hHeld hb
            refine hK.out _ _ hOld (fun hHeld => ?_)
            clear hK hOld
            refine wpAnyH_takeD 23 (i := 10) (v := .bool false) rfl rfl (by kernel_rfl) (by kernel_rfl) (by kernel_rfl) (fun _ _ _ h => h) (Or.inl ⟨by rfl, fun wq hSw => by go_simp⟩) (by assumption) ?_
            simp only [Act.put, List.setIfInBounds_toArray, List.set_cons_zero, List.set_cons_succ]
            refine wpAnyH_takeD 12 (i := 11) (v := .bool false) rfl rfl (by kernel_rfl) (by kernel_rfl) (by kernel_rfl) (fun _ _ _ h => h) (Or.inl ⟨by rfl, fun wq hSw => by go_simp⟩) (by assumption) ?_
            simp only [Act.put, List.setIfInBounds_toArray, List.set_cons_zero, List.set_cons_succ]
            refine wpAnyH_done (by kernel_rfl) ?_ _
            replace HQ := Lib.hid hHeld
            clear hHeld
            have k := HQ.out.hs.k38
            go_upto_region 8 with (fail)
            clear k
            refine wp_region_held_drew (S := HS2 w c w.heap.size L g user n p taken full s) (by kernel_rfl) (HQ.out.next (below_drew _)) (fun hHeld => ?_)
            refine wpAnyH_takeD 32 (i := 0) rfl rfl (by kernel_rfl) (by kernel_rfl) (by kernel_rfl) (fun _ _ _ h => h) (yHQ (by rfl) _ rfl rfl) (by assumption) ?_
            simp only [Act.put, List.setIfInBounds_toArray, List.set_cons_zero, List.set_cons_succ]
            refine wpAnyH_ready (rs := [1]) (by kernel_rfl) (by simp) ?_
            refine AllReadyH.cons rfl (fun K hK => ?_) AllReadyH.nil
            rw [if_pos (by rfl)]
            go_simp
            (with_reducible refine (is_calls n _ _ HN.out).mono ?_)
            rw [HA.out]
            rintro e w3 ⟨rfl, hb⟩
            dsimp only
            have hOld := hHeld.next hb
            clear hHeld hb
            refine hK.out _ _ hOld (fun hHeld => ?_)
            clear hK hOld
            refine wpAnyH_takeD 34 (i := 2) (v := .bool true) rfl rfl (by kernel_rfl) (by kernel_rfl) (by kernel_rfl) (fun _ _ _ h => h) (Or.inl ⟨by rfl, fun wq hSw => by go_simp⟩) (by assumption) ?_
            simp only [Act.put, List.setIfInBounds_toArray, List.set_cons_zero, List.set_cons_succ]
            refine wpAnyH_takeD 35 (i := 3) (v := .pointer (some ⟨c, 0, none⟩)) rfl rfl (by kernel_rfl) (by kernel_rfl) (by kernel_rfl) (fun _ _ _ h => h) (Or.inl ⟨by rfl, fun wq hSw => by go_simp⟩) (by assumption) ?_
            simp only [Act.put, List.setIfInBounds_toArray, List.set_cons_zero, List.set_cons_succ]
            refine wpAnyH_takeD 36 (i := 4) (v := .pointer (some ⟨c, 0, none⟩)) rfl rfl (by kernel_rfl) (by kernel_rfl) (by kernel_rfl) (fun _ _ _ h => h) (Or.inl ⟨by rfl, fun wq hSw => by go_simp⟩) (by assumption) ?_
            simp only [Act.put, List.setIfInBounds_toArray, List.set_cons_zero, List.set_cons_succ]
            refine wpAnyH_takeD 37 (i := 5) (v := .pointer (some ⟨c, 30, none⟩)) rfl rfl (by kernel_rfl) (by kernel_rfl) (by kernel_rfl) (fun _ _ _ h => h) (Or.inl ⟨by rfl, fun wq hSw => by go_simp⟩) (by assumption) ?_
            simp only [Act.put, List.setIfInBounds_toArray, List.set_cons_zero, List.set_cons_succ]
            refine wpAnyH_takeD 38 (i := 6) (v := .pointer (some ⟨c, 38, none⟩)) rfl rfl (by kernel_rfl) (by kernel_rfl) (by kernel_rfl) (fun _ _ _ h => h) (Or.inl ⟨by rfl, fun wq hSw => by go_simp⟩) (by assumption) ?_
            simp only [Act.put, List.setIfInBounds_toArray, List.set_cons_zero, List.set_cons_succ]
            refine wpAnyH_takeD 39 (i := 7) (v := .int .u64 s.length) rfl rfl (by kernel_rfl) (by kernel_rfl) (by kernel_rfl) (fun _ _ _ h => h) (Or.inl ⟨by rfl, fun wq hSw => by have k := hSw.hs.k38; go_simp⟩) (by assumption) ?_
            simp only [Act.put, List.setIfInBounds_toArray, List.set_cons_zero, List.set_cons_succ]
            refine wpAnyH_takeD 40 (i := 8) (v := .pointer (some ⟨w.heap.size, 10, none⟩)) rfl rfl (by kernel_rfl) (by kernel_rfl) (by kernel_rfl) (fun _ _ _ h => h) (Or.inl ⟨by rfl, fun wq hSw => by go_simp⟩) (by assumption) ?_
            simp only [Act.put, List.setIfInBounds_toArray, List.set_cons_zero, List.set_cons_succ]
            refine wpAnyH_takeD 41 (i := 9) (v := .int .u64 n.length) rfl rfl (by kernel_rfl) (by kernel_rfl) (by kernel_rfl) (fun _ _ _ h => h) (Or.inl ⟨by rfl, fun wq hSw => by have k := hSw.q10; go_simp⟩) (by assumption) ?_
            simp only [Act.put, List.setIfInBounds_toArray, List.set_cons_zero, List.set_cons_succ]
            refine wpAnyH_takeD 42 (i := 10) (v := .bool false) rfl rfl (by kernel_rfl) (by kernel_rfl) (by kernel_rfl) (fun _ _ _ h => h) (Or.inl ⟨by rfl, fun wq hSw => by go_simp⟩) (by assumption) ?_
            simp only [Act.put, List.setIfInBounds_toArray, List.set_cons_zero, List.set_cons_succ]
            refine wpAnyH_takeD 43 (i := 11) (v := .bool false) rfl rfl (by kernel_rfl) (by kernel_rfl) (by kernel_rfl) (fun _ _ _ h => h) (Or.inl ⟨by rfl, fun wq hSw => by go_simp⟩) (by assumption) ?_
            simp only [Act.put, List.setIfInBounds_toArray, List.set_cons_zero, List.set_cons_succ]
            refine wpAnyH_takeD 31 (i := 12) (v := .bool false) rfl rfl (by kernel_rfl) (by kernel_rfl) (by kernel_rfl) (fun _ _ _ h => h) (Or.inl ⟨by rfl, fun wq hSw => by go_simp⟩) (by assumption) ?_
            simp only [Act.put, List.setIfInBounds_toArray, List.set_cons_zero, List.set_cons_succ]
            refine wpAnyH_done (by kernel_rfl) ?_ _
            replace HQ := Lib.hid hHeld
            clear hHeld
            go_wp2_with fail
            go_ret
            exact ⟨by first | rfl | (rw [HX.out]; rfl) | rw [HX.out], HQ.out.hs.low⟩
  · have HD := Lib.hid hd
    have HX := Lib.hid (show eLen n s r = 92 from by simp [eLen, hd])
    clear hd
    go_enter Tryd.func55, Tryd.ntmps55
    go_upto_region 2 with (first | (refine wn HR.out.bk 2 n rfl rfl _ rfl rfl ?_) | (refine wl_store (NBlk.zero _) n rfl _ _ rfl rfl rfl ?_; intro w2 hs ho hz hbl; have hb := hbl _ _ ((Below.refl _ _).alloc (Nat.le_refl _) _) (Nat.le_refl _); have HQ := Lib.hid (show HS2 w c w.heap.size L g user n p taken full s w2 from ⟨HR.out.next hb, hs⟩); clear hs ho hz hbl hb))
    go_wp2_with (first | (refine wnN HQ.out.nb rfl _ rfl rfl ?_) | (go_at_call 42; (with_reducible refine (is_calls n _ _ HN.out).mono ?_); rw [HD.out]; rintro e w3 ⟨rfl, hb⟩; replace HQ := Lib.hid (HQ.out.next hb); clear hb))
    go_ret
    exact ⟨by first | rfl | (rw [HX.out]; rfl) | rw [HX.out], HQ.out.hs.low⟩

end Go.Proofs.YtlenlldiimohjaaDoor
