/-
  vergerlaw09: RulesClasses. Condition: the tables of utf8 lie as laid.
-/
import Derived.Test.YtlenlldiimohjaaDoorW2
import Derived.Deep.DeepCutAuto
namespace Go.Proofs.YtlenlldiimohjaaDoor
open Go.ChangeShapes Go.WideShapes Go.ChangeAt Go.RowKit

theorem cls_11 (m : Nat) : bits .or .u32 (bits .or .u32 ((m : Int) % 8) ((m : Int) / 64 % 8)) ((m : Int) / 8 % 8) = (rightsN true true m : Nat) := by
  have e1 : ((m : Int) % 8) = ((m % 8 : Nat) : Int) := rfl
  have e2 : ((m : Int) / 64 % 8) = ((m / 64 % 8 : Nat) : Int) := rfl
  have e3 : ((m : Int) / 8 % 8) = ((m / 8 % 8 : Nat) : Int) := rfl
  have hl : (m % 8 ||| m / 64 % 8) < 8 := Nat.or_lt_two_pow (n := 3) (by omega) (by omega)
  rw [e1, e2, e3, small_or _ _ (by omega) (by omega), small_or _ _ hl (by omega), refRights_eq]
  simp only [if_true]
theorem cls_10 (m : Nat) : bits .or .u32 ((m : Int) % 8) ((m : Int) / 64 % 8) = (rightsN true false m : Nat) := by
  have e1 : ((m : Int) % 8) = ((m % 8 : Nat) : Int) := rfl
  have e2 : ((m : Int) / 64 % 8) = ((m / 64 % 8 : Nat) : Int) := rfl
  rw [e1, e2, small_or _ _ (by omega) (by omega), refRights_eq]
  simp only [if_true, Bool.false_eq_true, if_false]
theorem cls_01 (m : Nat) : bits .or .u32 ((m : Int) % 8) ((m : Int) / 8 % 8) = (rightsN false true m : Nat) := by
  have e1 : ((m : Int) % 8) = ((m % 8 : Nat) : Int) := rfl
  have e2 : ((m : Int) / 8 % 8) = ((m / 8 % 8 : Nat) : Int) := rfl
  rw [e1, e2, small_or _ _ (by omega) (by omega), refRights_eq]
  simp only [if_true, Bool.false_eq_true, if_false]
set_option maxRecDepth 100000 in
theorem classes_calls (g : Nat) (L : List Acct) (u : ByteArray) (n : Nd) (w : World) (h : PTab w g L) (hn : n.ok) (hu : u.size ≤ 16777216) :
    Calls Tryd.prog 32 #[.pointer (some ⟨g, 0, none⟩), .string u, nodeV n] w fun e w' => e = .returned (.int .u32 (rights (decide (u = n.uid)) (isMember L u n.gid) n.mode)) ∧ Below w.heap.size w w' := by
  obtain ⟨m, hm⟩ := Int.eq_ofNat_of_zero_le hn.1
  have hgs := hn.2.2.2.2.1
  clear hn
  obtain ⟨a0, a1, a2, md, a4, a5, a6, a7, a8, a9, a10, a11, a12⟩ := n
  dsimp only at hm hgs
  subst hm
  have HT := Lib.hid (h.below ((Below.refl w.heap.size w).alloc (Nat.le_refl _) (Obj.cells #[.int .u64 a0, .int .u64 a1, .string a2, .int .u32 (m : Int), .string a4, .string a5, .string a6, .int .u32 a7, .int .u32 a8, .int .u32 a9, .int .u64 a10, .int .i64 a11, .int .i64 a12] 34))); clear h
  go_enter Tryd.func32, Tryd.ntmps32
  go_wp2_with (first
    | (go_at_call 49; refine (member_calls g L u a5 _ HT.out (by omega) (by omega)).mono ?_; rintro e w' ⟨rfl, rfl⟩))
  all_goals
    go_ret
    refine ⟨ret_int ?_, (Below.refl _ _).alloc (Nat.le_refl _) _⟩
    rename_i h1 h2
    rw [beq_str] at h1
    unfold rights
    rw [show decide (u = a4) = decide (a4 = u) from by rw [Bool.eq_iff_iff]; simp [eq_comm], h1, h2, Int.toNat_natCast]
    first | exact cls_11 m | exact cls_10 m | exact cls_01 m | exact refR_00 m

theorem wants_lt2 (m : Int) (h0 : 0 ≤ m) (h1 : m < 256) : 0 ≤ (wantsP m).1 ∧ (wantsP m).1 < 8 := by
  have key : ∀ i : Fin 256, 0 ≤ (wantsP ((i.val : Nat) : Int)).1 ∧ (wantsP ((i.val : Nat) : Int)).1 < 8 := by decide +kernel
  obtain ⟨k, rfl⟩ := Int.eq_ofNat_of_zero_le h0
  exact key ⟨k, by omega⟩
theorem wants_some (m : Int) (h0 : 0 ≤ m) (h1 : m < 256) (h : ((wantsP m).2 != 0) = false) : ((wantsP m).1 == 0) = false := by
  have key : ∀ i : Fin 256, ((wantsP ((i.val : Nat) : Int)).2 != 0) = false → ((wantsP ((i.val : Nat) : Int)).1 == 0) = false := by decide +kernel
  obtain ⟨k, rfl⟩ := Int.eq_ofNat_of_zero_le h0
  exact key ⟨k, by omega⟩ h
theorem may_32 : ∀ r q : Fin 8, mayB ((r.val : Nat) : Int) ((q.val : Nat) : Int) = true → (bits .and .u32 ((r.val : Nat) : Int) ((q.val : Nat) : Int) != ((q.val : Nat) : Int)) = false := by decide +kernel
theorem may_32' {r q : Int} (h0 : 0 ≤ r) (h1 : r < 8) (h2 : 0 ≤ q) (h3 : q < 8) (h : mayB r q = true) : (bits .and .u32 r q != q) = false := by
  obtain ⟨a, rfl⟩ := Int.eq_ofNat_of_zero_le h0
  obtain ⟨b, rfl⟩ := Int.eq_ofNat_of_zero_le h2
  exact may_32 ⟨a, by omega⟩ ⟨b, by omega⟩ h
theorem may_two {r : Int} (h0 : 0 ≤ r) (h1 : r < 8) (h : mayB r 2 = true) : (bits .and .u32 r 2 == 0) = false := by
  have key : ∀ r : Fin 8, mayB ((r.val : Nat) : Int) 2 = true → (bits .and .u32 ((r.val : Nat) : Int) 2 == 0) = false := by decide +kernel
  obtain ⟨a, rfl⟩ := Int.eq_ofNat_of_zero_le h0
  exact key ⟨a, by omega⟩ h
theorem may_one {r : Int} (h0 : 0 ≤ r) (h1 : r < 8) : mayB r 1 = (bits .and .u32 r 1 != 0) := by
  have key : ∀ r : Fin 8, mayB ((r.val : Nat) : Int) 1 = (bits .and .u32 ((r.val : Nat) : Int) 1 != 0) := by decide +kernel
  obtain ⟨a, rfl⟩ := Int.eq_ofNat_of_zero_le h0
  exact key ⟨a, by omega⟩

section
variable {n : Nd} {r rp m : Int} (r0 : 0 ≤ r) (r1 : r < 8) (p0 : 0 ≤ rp) (p1 : rp < 8)
include r0 r1 in
theorem cl_open (m0 : 0 ≤ m) (m1 : m < 256) (h : (openS n r rp m (wantsP m) == 0) = true) : ((wantsP m).2 != 0) = false ∧ (bits .and .u32 r (wantsP m).1 != (wantsP m).1) = false ∧ ((wantsP m).1 == 0) = false := by
  have h : openS n r rp m (wantsP m) = 0 := by simpa using h
  unfold openS at h
  have hw := wants_lt2 m m0 m1
  split at h
  · rename_i hc
    rw [h] at hc
    simp at hc
  · rename_i c1
    have c1 : ((wantsP m).2 != 0) = false := by simpa using c1
    split at h
    · omega
    · split at h
      · omega
      · rename_i c3
        exact ⟨c1, may_32' r0 r1 hw.1 hw.2 (by simpa using c3), wants_some m m0 m1 c1⟩
include p0 p1 in
theorem cl_open2 (h : (openS n r rp m (wantsP m) == 0) = true) (h6 : (bits .and .u8 m 64 != 0) = true) : (bits .and .u32 rp 2 == 0) = false := by
  have h : openS n r rp m (wantsP m) = 0 := by simpa using h
  unfold openS at h
  split at h
  · rename_i hc
    rw [h] at hc
    simp at hc
  · split at h
    · omega
    · split at h
      · omega
      · split at h
        · omega
        · rename_i c4
          refine may_two p0 p1 ?_
          cases hq : mayB rp 2 with
          | true => rfl
          | false => exact absurd ⟨h6, hq⟩ c4
theorem cl_open3 (h : (openS n r rp m (wantsP m) == 0) = true) (hd : (bits .and .u32 n.mode 2147483648 != 0) = true) : (m != 0) = false := by
  have h : openS n r rp m (wantsP m) = 0 := by simpa using h
  unfold openS at h
  split at h
  · rename_i hc
    rw [h] at hc
    simp at hc
  · split at h
    · omega
    · rename_i c2
      cases hq : (m != 0) with
      | false => rfl
      | true => exact absurd ⟨hd, hq⟩ c2
include p0 p1 in
theorem cl_remove (h : (removeS n rp == 0) = true) : (bits .and .u32 rp 2 == 0) = false ∧ (n.path == 1) = false := by
  have h : removeS n rp = 0 := by simpa using h
  unfold removeS at h
  split at h
  · omega
  · rename_i hd
    rw [not_or] at hd
    exact ⟨may_two p0 p1 (by simpa using hd.2), by simpa using hd.1⟩
include r0 r1 in
theorem cl_step : (stepS n r == 0) = ((bits .and .u32 r 1 != 0) && (bits .and .u32 n.mode 2147483648 != 0)) := by
  unfold stepS isB
  rw [← may_one r0 r1]
  cases (bits .and .u32 n.mode 2147483648 != 0) <;> cases mayB r 1 <;> rfl
include r0 r1 in
theorem cl_create {u name : ByteArray} {perm : Int} {taken full : Bool} (h : ((createS n r u name perm m taken full).2 == 0) = true) : (bits .and .u32 r 2 == 0) = false ∧ (bits .and .u32 n.mode 2147483648 == 0) = false ∧ taken = false ∧ full = false ∧ (checkS name != 0) = false := by
  have h : (createS n r u name perm m taken full).2 = 0 := by simpa using h
  unfold createS at h
  split at h
  · rename_i hc
    dsimp only at h
    rw [h] at hc
    simp at hc
  · rename_i hc
    have h : askS n r name perm m taken full = 0 := by simpa using hc
    unfold askS at h
    split at h
    · omega
    · rename_i c1
      have c1 : (bits .and .u32 n.mode 2147483648 == 0) = false := by
        unfold isB at c1
        cases hq : (bits .and .u32 n.mode 2147483648 == 0) with
        | false => rfl
        | true =>
          refine absurd ?_ c1
          show (!(bits .and .u32 n.mode 2147483648 == 0)) = false
          rw [hq]
          rfl
      split at h
      · rename_i hc; rw [h] at hc; simp at hc
      · rename_i c2
        split at h
        · rename_i hc; rw [h] at hc; simp at hc
        · split at h
          · rename_i hc; rw [h] at hc; simp at hc
          · split at h
            · omega
            · split at h
              · omega
              · rename_i c6
                split at h
                · omega
                · rename_i c7
                  split at h
                  · omega
                  · rename_i c8
                    exact ⟨may_two r0 r1 (by simpa using c6), c1, by simpa using c7, by simpa using c8, by simpa using c2⟩
end

theorem LAt.c2 {w0 w : World} {text user name : ByteArray} {n p : Nd} {taken full : Bool} {perm mode : Int} (h : LAt w0 (caseL text user n p taken full name perm mode).toArray w) : w.cell? ⟨w0.heap.size, 2, none⟩ = some (.int .u64 n.path) := Blk.cell h.cb 2

set_option maxRecDepth 100000 in
set_option maxHeartbeats 6400000 in
theorem lawClasses_calls (text user : ByteArray) (n p : Nd) (taken full : Bool) (name : ByteArray) (perm mode : Int) (w : World) (hr : Ready w)
    (h1 : text.size ≤ reachBytes) (h2 : user.size ≤ reachBytes) (h3 : n.came) (h4 : p.came) (h5 : name.size ≤ reachBytes) (hm : 0 ≤ mode ∧ mode < 256) :
    Calls Tryd.prog 9 #[caseV text user n p taken full name perm mode] w fun e w' => e = .returned (.bool true) ∧ Below w.heap.size w w' := by
  have HM := Lib.hid (fun (w : World) => much_calls text user n p taken full name perm mode w h1 h2 h3 h4 h5)
  have HT := Lib.hid (LAt.start hr (caseL text user n p taken full name perm mode).toArray)
  by_cases hbig : 8388608 < muchN text user n p name
  · clear h1 h2 h3 h4 h5 hm hr
    go_enter Tryd.func9, Tryd.ntmps9
    go_upto_region 1 with (fail)
    generalize w.alloc (Obj.cells _ _) = w1 at HT ⊢
    go_wp2_with (first
      | (refine wc HT.out.cb rfl _ rfl rfl ?_)
      | (go_at_call 19; refine (HM.out _).mono ?_; rintro e w' ⟨rfl, hb⟩; replace HT := Lib.hid (HT.out.next hb); clear hb))
    go_ret
    exact ⟨rfl, HT.out.low⟩
  · have hle : ¬ (8388608 : Int) < (muchN text user n p name : Int) := by omega
    have hmn : muchN text user n p name ≤ 8388608 := by omega
    unfold muchN at hmn
    have HN := Lib.hid (came_ok h3 (by omega) (by omega) (by omega) (by omega))
    have HP := Lib.hid (came_ok h4 (by omega) (by omega) (by omega) (by omega))
    have HU := Lib.hid (show user.size ≤ 16777216 by omega)
    obtain ⟨r, hr1⟩ : ∃ r, rights (decide (user = n.uid)) (isMember (tableL text) user n.gid) n.mode = r := ⟨_, rfl⟩
    obtain ⟨rp, hrp⟩ : ∃ r, rights (decide (user = p.uid)) (isMember (tableL text) user p.gid) p.mode = r := ⟨_, rfl⟩
    have hr0 := rights_lt (decide (user = n.uid)) (isMember (tableL text) user n.gid) n.mode
    have hp0 := rights_lt (decide (user = p.uid)) (isMember (tableL text) user p.gid) p.mode
    have hw0 := wants_lt2 mode hm.1 hm.2
    rw [hr1] at hr0
    rw [hrp] at hp0
    obtain ⟨o1, ho1⟩ : ∃ o, openS n r rp mode (wantsP mode) = o := ⟨_, rfl⟩
    obtain ⟨cn, ce, hc⟩ : ∃ cn ce, createS n r user name perm mode taken full = (cn, ce) := ⟨_, _, rfl⟩
    obtain ⟨rm, hrm⟩ : ∃ x, removeS n rp = x := ⟨_, rfl⟩
    obtain ⟨st, hst⟩ : ∃ x, stepS n r = x := ⟨_, rfl⟩
    obtain ⟨w1, w2, hw⟩ : ∃ w1 w2, wantsP mode = (w1, w2) := ⟨_, _, rfl⟩
    obtain ⟨k, hk⟩ : ∃ k, checkS name = k := ⟨_, rfl⟩
    have hf1 := cl_open (n := n) (rp := rp) hr0.1 hr0.2 hm.1 hm.2
    have hf2 := cl_open2 (n := n) (r := r) (m := mode) hp0.1 hp0.2
    have hf3 := cl_open3 (n := n) (r := r) (rp := rp) (m := mode)
    have hf4 := cl_remove (n := n) hp0.1 hp0.2
    have hf5 := cl_step (n := n) hr0.1 hr0.2
    have hf6 := cl_create (n := n) (m := mode) (u := user) (name := name) (perm := perm) (taken := taken) (full := full) hr0.1 hr0.2
    rw [ho1, hw] at hf1
    rw [ho1] at hf2 hf3
    rw [hrm] at hf4
    rw [hst] at hf5
    rw [hc, hk] at hf6
    rw [hw] at hw0
    have F1 := Lib.hid hf1; have F2 := Lib.hid hf2; have F3 := Lib.hid hf3; have F4 := Lib.hid hf4; have F5 := Lib.hid hf5; have F6 := Lib.hid hf6
    obtain ⟨r0, r8⟩ := hr0
    obtain ⟨w10, w18⟩ := hw0
    dsimp only at w10 w18
    have HR := Lib.hid hr1; have HRP := Lib.hid hrp; have HO := Lib.hid ho1; have HC := Lib.hid hc; have HRM := Lib.hid hrm; have HST := Lib.hid hst; have HW := Lib.hid hw; have HK := Lib.hid hk
    clear hf1 hf2 hf3 hf4 hf5 hf6 hr1 hrp ho1 hc hrm hst hw hk hp0
    clear h1 h2 h3 h4 h5 hm hr hmn hbig
    go_enter Tryd.func9, Tryd.ntmps9
    go_upto_region 1 with (fail)
    generalize w.alloc (Obj.cells _ _) = wz at HT ⊢
    go_upto_region 7 with (first
      | (refine wc HT.out.cb rfl _ rfl rfl ?_)
      | (go_at_call 19; refine (HM.out _).mono ?_; rintro e w' ⟨rfl, hb⟩; replace HT := Lib.hid (HT.out.next hb); clear hb)
      | (go_at_call 13; refine (exKnown_calls _ HT.out.ready).mono ?_; rintro e w' ⟨rfl, hb⟩; replace HT := Lib.hid (HT.out.next hb); clear hb; have c0 := HT.out.c0)
      | (go_at_call 23; refine (table_calls text _ HT.out.ready).mono ?_; rintro e w' ⟨⟨g, rfl, hpt⟩, hb⟩; replace HT := Lib.hid (HT.out.next hb); have HPT := Lib.hid hpt; clear hb hpt c0))
    clear HM
    have c1 := HT.out.c1
    go_upto_region 8 with (first
      | (refine wnC HT.out.cb rfl _ rfl rfl ?_)
      | (go_at_call 32; (with_reducible refine (classes_calls _ _ user n _ HPT.out HN.out HU.out).mono ?_); rw [HR.out]; rintro e w' ⟨rfl, hb⟩; replace HT := Lib.hid (HT.out.next hb); replace HPT := Lib.hid (HPT.out.below hb); clear hb))
    replace c1 := HT.out.c1
    go_upto_region 9 with (first
      | (refine wpC HT.out.cb rfl _ rfl rfl ?_)
      | (go_at_call 32; (with_reducible refine (classes_calls _ _ user p _ HPT.out HP.out HU.out).mono ?_); rw [HRP.out]; rintro e w' ⟨rfl, hb⟩; replace HT := Lib.hid (HT.out.next hb); replace HPT := Lib.hid (HPT.out.below hb); clear hb))
    replace c1 := HT.out.c1
    go_upto_region 11 with (first
      | (refine wnC HT.out.cb rfl _ rfl rfl ?_)
      | (go_at_call 33; (with_reducible refine (rights_calls _ _ user n _ HPT.out HN.out HU.out).mono ?_); rw [HR.out]; rintro e w' ⟨rfl, hb⟩; replace HT := Lib.hid (HT.out.next hb); replace HPT := Lib.hid (HPT.out.below hb); clear hb))
    replace c1 := HT.out.c1
    have c32 := HT.out.c32
    go_upto_region 12 with (first
      | (refine wfC HT.out.cb rfl _ rfl rfl ?_)
      | (go_at_call 25; (with_reducible refine (open_calls _ _ user n p taken full mode _ HPT.out HN.out HP.out HU.out).mono ?_); rw [HR.out, HRP.out, HO.out]; rintro e w' ⟨rfl, hb⟩; replace HT := Lib.hid (HT.out.next hb); replace HPT := Lib.hid (HPT.out.below hb); clear hb))
    replace c32 := HT.out.c32
    go_upto_region 13 with (first
      | (go_at_call 14; (with_reducible refine (wants_calls mode _).mono ?_); rw [HW.out]; rintro e w' ⟨rfl, rfl⟩))
    go_cut [83] (fun s wx => s = .bool false ∧ wx = w')
    case first => as_aux_lemma =>
      cases ho : (o1 == 0) with
      | false =>
        go_wp2_with fail
        go_meet
        case rel => exact ⟨rfl, rfl⟩
      | true =>
        obtain ⟨f1, f2, f3⟩ := F1.out ho
        go_wp2_with fail
        go_meet
        case rel => exact ⟨rfl, rfl⟩
    obtain ⟨rfl, rfl⟩ := hcut
    have c32 := HT.out.c32
    go_upto_region 15 with (fail)
    go_cut [96] (fun s wx => s = .bool false ∧ wx = wc)
    case first => as_aux_lemma =>
      cases ho : (o1 == 0) with
      | false =>
        go_wp2_with fail
        go_meet
        case rel => exact ⟨rfl, rfl⟩
      | true =>
        cases h6 : (bits .and .u8 mode 64 != 0) with
        | false =>
          go_wp2_with fail
          go_meet
          case rel => exact ⟨rfl, rfl⟩
        | true =>
          have f1 := F2.out ho h6
          go_wp2_with fail
          go_meet
          case rel => exact ⟨rfl, rfl⟩
    obtain ⟨rfl, rfl⟩ := hcut
    have c5 := HT.out.c5
    go_upto_region 17 with (fail)
    go_cut [111] (fun s wx => s = .bool false ∧ wx = wc)
    case first => as_aux_lemma =>
      cases ho : (o1 == 0) with
      | false =>
        go_wp2_with fail
        go_meet
        case rel => exact ⟨rfl, rfl⟩
      | true =>
        cases h6 : (bits .and .u32 n.mode 2147483648 != 0) with
        | false =>
          go_wp2_with fail
          go_meet
          case rel => exact ⟨rfl, rfl⟩
        | true =>
          have f1 := F3.out ho h6
          go_wp2_with fail
          go_meet
          case rel => exact ⟨rfl, rfl⟩
    obtain ⟨rfl, rfl⟩ := hcut
    clear F1 F2 F3 c5
    go_upto_region 19 with (fail)
    replace c1 := HT.out.c1
    have c30 := HT.out.c30
    have c31 := HT.out.c31
    go_upto_region 20 with (first
      | (refine wfC HT.out.cb rfl _ rfl rfl ?_)
      | (go_at_call 21; (with_reducible refine (create_calls _ _ user n p taken full name perm mode _ HPT.out HN.out HT.out.ready HU.out).mono ?_); rw [HR.out, HC.out]; rintro e w7 ⟨rfl, hb⟩; replace HT := Lib.hid (HT.out.next hb); replace HPT := Lib.hid (HPT.out.below hb); clear hb)
      | (refine wl_store (NBlk.zero _) cn rfl _ _ rfl rfl rfl ?_; intro w8 hs ho hz hbl; have hb := hbl _ _ ((Below.refl _ _).alloc (Nat.le_refl _) _) (Nat.le_refl _); clear hs ho hz hbl; replace HT := Lib.hid (HT.out.next hb); replace HPT := Lib.hid (HPT.out.below hb); clear hb))
    clear c31 c32
    replace c30 := HT.out.c30
    have c5 := HT.out.c5
    go_cut [157] (fun s wx => s = .bool false ∧ LAt w (caseL text user n p taken full name perm mode).toArray wx ∧ PTab wx g (tableL text))
    case first => as_aux_lemma =>
      cases hq : (ce == 0) with
      | false =>
        go_wp2_with fail
        go_meet
        case rel => exact ⟨rfl, HT.out, HPT.out⟩
      | true =>
        obtain ⟨f1, f2, f3, f4, f5⟩ := F6.out hq
        have c28 := HT.out.c28
        have c29 := HT.out.c29
        rw [f3] at c28
        rw [f4] at c29
        clear f3 f4
        go_wp2_with (first
          | (go_at_call 24; (with_reducible refine (check_calls name _ HT.out.ready).mono ?_); rw [HK.out]; rintro e w9 ⟨rfl, hb⟩; replace HT := Lib.hid (HT.out.next hb); replace HPT := Lib.hid (HPT.out.below hb); clear hb))
        go_meet
        case rel => exact ⟨rfl, HT.out, HPT.out⟩
    obtain ⟨rfl, hT, hP⟩ := hcut
    replace HT := Lib.hid hT
    replace HPT := Lib.hid hP
    clear hT hP c30 c5
    go_upto_region 22 with (fail)
    replace c1 := HT.out.c1
    go_upto_region 23 with (first
      | (refine wfC HT.out.cb rfl _ rfl rfl ?_)
      | (go_at_call 27; (with_reducible refine (remove_calls _ _ user n p taken full _ HPT.out HN.out HP.out HU.out).mono ?_); rw [HRP.out, HRM.out]; rintro e wR ⟨rfl, hb⟩; replace HT := Lib.hid (HT.out.next hb); replace HPT := Lib.hid (HPT.out.below hb); clear hb))
    have c2 := HT.out.c2
    go_cut [177] (fun s wx => s = .bool false ∧ wx = wR)
    case first => as_aux_lemma =>
      cases hq : (rm == 0) with
      | false =>
        go_wp2_with fail
        go_meet
        case rel => exact ⟨rfl, rfl⟩
      | true =>
        obtain ⟨f1, f2⟩ := F4.out hq
        go_wp2_with fail
        go_meet
        case rel => exact ⟨rfl, rfl⟩
    obtain ⟨rfl, rfl⟩ := hcut
    clear c2
    go_upto_region 25 with (fail)
    replace c1 := HT.out.c1
    go_upto_region 26 with (first
      | (refine wnC HT.out.cb rfl _ rfl rfl ?_)
      | (go_at_call 31; (with_reducible refine (step_calls _ _ user n _ HPT.out HN.out HU.out).mono ?_); rw [HR.out, HST.out]; rintro e wS ⟨rfl, hb⟩; replace HT := Lib.hid (HT.out.next hb); replace HPT := Lib.hid (HPT.out.below hb); clear hb))
    replace c1 := HT.out.c1
    have c5 := HT.out.c5
    have f5 := F5.out
    cases hs1 : (bits .and .u32 r 1 != 0)
    all_goals
      cases hs2 : (bits .and .u32 n.mode 2147483648 != 0)
    all_goals
      rw [hs1, hs2] at f5
      simp only [Bool.and_false, Bool.and_true] at f5
      as_aux_lemma =>
        go_wp2_with (first
          | (refine wfC HT.out.cb rfl _ rfl rfl ?_)
          | (go_at_call 29; (with_reducible refine (closes_calls _ _ user n p taken full _ HPT.out HN.out HP.out HU.out).mono ?_); rw [HRP.out, HRM.out]; rintro e wT ⟨rfl, hb⟩; replace HT := Lib.hid (HT.out.next hb); replace HPT := Lib.hid (HPT.out.below hb); clear hb))
        go_ret
        refine ⟨?_, HT.out.low⟩
        first | rfl | simp
end Go.Proofs.YtlenlldiimohjaaDoor
