/-
  vergerlaw09: RulesMakes. Condition: the tables of utf8 lie as laid.
-/
import Derived.Test.YtlenlldiimohjaaDoorW1
import Derived.Test.YtlenlldiimohjaaDoorW2
import Derived.Test.YtlenlldiimohjaaDoorV0
namespace Go.Proofs.YtlenlldiimohjaaDoor
open Go.ChangeShapes Go.WideShapes Go.ChangeAt Go.RowKit

theorem refCreate2_calls (g : Nat) (text u : ByteArray) (n p : Nd) (taken full : Bool) (name : ByteArray) (perm m : Nat) (hm : m < 256) (hp : perm < 4294967296) (w : World) (h : RTab w g (tableL text)) (hn : n.ok) (hs : name.size ≤ 16777216) :
    Calls Tryd.prog 22 #[.pointer (some ⟨g, 0, none⟩), .string u, factsV n p taken full, .string name, .int .u32 perm, .int .u8 m] w fun e w' =>
      e = .returned (.tuple #[nodeV (createS n (rights (decide (u = n.uid)) (isMember (tableL text) u n.gid) n.mode) u name perm m taken full).1, .int .i64 (createS n (rights (decide (u = n.uid)) (isMember (tableL text) u n.gid) n.mode) u name perm m taken full).2]) ∧ Below w.heap.size w w' := by
  have h := refCreate_calls g (tableL text) u n p taken full name perm m w h hn hs hm hp
  rw [table_member] at h
  exact h

set_option maxRecDepth 100000 in
set_option maxHeartbeats 3200000 in
theorem lawMakes_calls (text user : ByteArray) (n p : Nd) (taken full : Bool) (name : ByteArray) (perm mode : Int) (w : World) (hr : Ready w)
    (h1 : text.size ≤ reachBytes) (h2 : user.size ≤ reachBytes) (h3 : n.came) (h4 : p.came) (h5 : name.size ≤ reachBytes) (hpm : 0 ≤ perm ∧ perm < 4294967296) (hm : 0 ≤ mode ∧ mode < 256) :
    Calls Tryd.prog 5 #[caseV text user n p taken full name perm mode] w fun e w' => e = .returned (.bool true) ∧ Below w.heap.size w w' := by
  obtain ⟨k, rfl⟩ := Int.eq_ofNat_of_zero_le hm.1
  obtain ⟨pn, rfl⟩ := Int.eq_ofNat_of_zero_le hpm.1
  have HM := Lib.hid (fun (w : World) => much_calls text user n p taken full name pn k w h1 h2 h3 h4 h5)
  have HT := Lib.hid (LAt.start hr (caseL text user n p taken full name pn k).toArray)
  by_cases hbig : 8388608 < muchN text user n p name
  · clear h1 h2 h3 h4 h5 hm hpm hr
    go_enter Tryd.func5, Tryd.ntmps5
    go_upto_region 1 with (fail)
    generalize w.alloc (Obj.cells _ _) = w1 at HT ⊢
    go_wp2_with (first
      | (refine wc HT.out.cb rfl _ rfl rfl ?_)
      | (go_at_call 19; refine (HM.out _).mono ?_; rintro e w' ⟨rfl, hb⟩; replace HT := Lib.hid (HT.out.next hb); clear hb))
    go_ret
    exact ⟨rfl, HT.out.low⟩
  · have hle : ¬ (8388608 : Int) < (muchN text user n p name : Int) := by omega
    have hmn : muchN text user n p name ≤ 8388608 := by omega
    unfold muchN at hmn
    have HN := Lib.hid (came_ok h3 (by omega) (by omega) (by omega) (by omega))
    have HP := Lib.hid (came_ok h4 (by omega) (by omega) (by omega) (by omega))
    have HU := Lib.hid (show user.size ≤ 16777216 by omega)
    have HNM := Lib.hid (show name.size ≤ 16777216 by omega)
    have HK := Lib.hid (show k < 256 by omega)
    have HPK := Lib.hid (show pn < 4294967296 by omega)
    obtain ⟨r1, hr1⟩ : ∃ r, createS n (rights (decide (user = n.uid)) (isMember (tableL text) user n.gid) n.mode) user name pn k taken full = r := ⟨_, rfl⟩
    have HQ := Lib.hid hr1; clear hr1
    clear h1 h2 h3 h4 h5 hm hpm hr hmn hbig
    go_enter Tryd.func5, Tryd.ntmps5
    go_upto_region 1 with (fail)
    generalize w.alloc (Obj.cells _ _) = w1 at HT ⊢
    go_upto_region 7 with (first
      | (refine wc HT.out.cb rfl _ rfl rfl ?_)
      | (go_at_call 19; refine (HM.out _).mono ?_; rintro e w' ⟨rfl, hb⟩; replace HT := Lib.hid (HT.out.next hb); clear hb)
      | (go_at_call 13; refine (exKnown_calls _ HT.out.ready).mono ?_; rintro e w' ⟨rfl, hb⟩; replace HT := Lib.hid (HT.out.next hb); clear hb; have c0 := HT.out.c0)
      | (go_at_call 20; refine (tables_calls text _ HT.out.ready).mono ?_; rintro e w' ⟨⟨g, h, rfl, hpt, hrt⟩, hb⟩; replace HT := Lib.hid (HT.out.next hb); have HPT := Lib.hid hpt; have HRT := Lib.hid hrt; clear hb hpt hrt c0))
    have c1 := HT.out.c1
    have c30 := HT.out.c30
    have c31 := HT.out.c31
    have c32 := HT.out.c32
    go_upto_region 8 with (first
      | (refine wfC HT.out.cb rfl _ rfl rfl ?_)
      | (go_at_call 21; (with_reducible refine (create_calls _ _ user n p taken full name pn k _ HPT.out HN.out HT.out.ready HU.out).mono ?_); rw [HQ.out]; rintro e w' ⟨rfl, hb⟩; replace HT := Lib.hid (HT.out.next hb); replace HRT := Lib.hid (HRT.out.below hb); clear hb)
      | (refine wl_store (NBlk.zero _) r1.1 rfl _ _ rfl rfl rfl ?_; intro ws hs ho hz hbl; have hb := hbl _ _ ((Below.refl _ _).alloc (Nat.le_refl _) _) (Nat.le_refl _); have HA := Lib.hid hs; clear hs ho hz hbl; replace HT := Lib.hid (HT.out.next hb); replace HRT := Lib.hid (HRT.out.below hb); clear hb HPT))
    replace c1 := HT.out.c1
    replace c30 := HT.out.c30
    replace c31 := HT.out.c31
    replace c32 := HT.out.c32
    go_upto_region 9 with (first
      | (refine wfC HT.out.cb rfl _ rfl rfl ?_)
      | (go_at_call 22; (with_reducible refine (refCreate2_calls _ text user n p taken full name pn k HK.out HPK.out _ HRT.out HN.out HNM.out).mono ?_); rw [HQ.out]; rintro e w' ⟨rfl, hb⟩; replace HT := Lib.hid (HT.out.next hb); replace HA := Lib.hid (NBlk.below HA.out hb); clear hb)
      | (refine wl_store (NBlk.zero _) r1.1 rfl _ _ rfl rfl rfl ?_; intro ws2 hs ho hz hbl; have hb := hbl _ _ ((Below.refl _ _).alloc (Nat.le_refl _) _) (Nat.le_refl _); have HB := Lib.hid hs; clear hs ho hz hbl; replace HT := Lib.hid (HT.out.next hb); replace HA := Lib.hid (NBlk.below HA.out hb); clear hb HRT))
    clear c1 c30 c31 c32 HQ HM
    go_wp2_with (first
      | (refine wnN HA.out rfl _ rfl rfl ?_)
      | (refine wnN HB.out rfl _ rfl rfl ?_)
      | (refine weqN r1.1 r1.1 rfl _ _ rfl rfl rfl ?_; rw [ndEqB_self]))
    all_goals
      go_ret
      refine ⟨?_, HT.out.low⟩
      clear HT HA HB
      go_light
      simp_all
end Go.Proofs.YtlenlldiimohjaaDoor
