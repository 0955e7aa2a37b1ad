/-
  vergerlaw09: RulesEmpty. Condition: the tables of utf8 lie as laid.
-/
import Derived.Test.YtlenlldiimohjaaDoorWst
import Derived.Test.YtlenlldiimohjaaDoorClsL
namespace Go.Proofs.YtlenlldiimohjaaDoor
open Go.ChangeShapes Go.WideShapes Go.ChangeAt Go.RowKit

def noRights (n : Nd) : Nd := { n with mode := bits .andNot .u32 n.mode 511 }
theorem noRights_mode {n : Nd} (hn : n.ok) : ∃ M : Nat, (noRights n).mode = M ∧ M < 4294967296 ∧ M % 512 = 0 := by
  obtain ⟨g0, g1, _⟩ := hn
  obtain ⟨m, hm⟩ := Int.eq_ofNat_of_zero_le g0
  refine ⟨m &&& (4294967295 - 511), ?_, Nat.lt_of_le_of_lt Nat.and_le_left (by omega), ?_⟩
  · show bits .andNot .u32 n.mode 511 = _
    rw [hm, show (511 : Int) = ((511 : Nat) : Int) from rfl, u32_andNot_nat m 511 (by omega) (by omega)]
  · have h : (m &&& (4294967295 - 511)) % 2 ^ 9 = (m % 2 ^ 9) &&& ((4294967295 - 511) % 2 ^ 9) := Nat.and_mod_two_pow
    rw [show (4294967295 - 511) % 2 ^ 9 = 0 from rfl, Nat.and_zero] at h
    exact h
theorem noRights_ok {n : Nd} (hn : n.ok) : (noRights n).ok := by
  obtain ⟨M, h1, h2, _⟩ := noRights_mode hn
  exact ⟨by rw [h1]; omega, by rw [h1]; omega, hn.2.2⟩
theorem rights_none {n : Nd} (own mem : Bool) (hn : n.ok) : rights own mem (noRights n).mode = 0 := by
  obtain ⟨M, h1, h2, h3⟩ := noRights_mode hn
  unfold rights rightsN
  rw [h1, Int.toNat_natCast, show M / 64 % 8 = 0 by omega, show M / 8 % 8 = 0 by omega, show M % 8 = 0 by omega]
  cases own <;> cases mem <;> rfl
theorem no_open {n : Nd} {rp m : Int} (m0 : 0 ≤ m) (m1 : m < 256) : (openS n 0 rp m (wantsP m) == 0) = false := by
  cases h : (openS n 0 rp m (wantsP m) == 0) with
  | false => rfl
  | true =>
    obtain ⟨-, h2, h3⟩ := cl_open (n := n) (rp := rp) (r := 0) (Int.le_refl _) (by decide) m0 m1 h
    have hw := wants_lt2 m m0 m1
    have key : ∀ q : Fin 8, (bits .and .u32 0 ((q.val : Nat) : Int) != ((q.val : Nat) : Int)) = false → (((q.val : Nat) : Int) == 0) = true := by decide +kernel
    obtain ⟨a, ha⟩ := Int.eq_ofNat_of_zero_le hw.1
    have := key ⟨a, by omega⟩ (by rw [← ha]; exact h2)
    rw [← ha, h3] at this
    cases this
theorem no_create {n : Nd} {m : Int} {u name : ByteArray} {perm : Int} {taken full : Bool} : ((createS n 0 u name perm m taken full).2 == 0) = false := by
  cases h : ((createS n 0 u name perm m taken full).2 == 0) with
  | false => rfl
  | true => exact absurd (cl_create (r := 0) (Int.le_refl _) (by decide) h).1 (by decide)
theorem no_remove {n : Nd} : (removeS n 0 == 0) = false := by
  cases h : (removeS n 0 == 0) with
  | false => rfl
  | true => exact absurd (cl_remove (rp := 0) (Int.le_refl _) (by decide) h).1 (by decide)
theorem no_step {n : Nd} : (stepS n 0 == 0) = false := by
  rw [cl_step (r := 0) (Int.le_refl _) (by decide), show (bits .and .u32 (0 : Int) 1 != 0) = false by decide, Bool.false_and]
theorem no_len {n : Nd} {s : St} : (eLen n s 0 == 0) = false := by
  unfold eLen
  split
  · rfl
  · rw [if_pos (by decide)]
    rfl
theorem no_name {n : Nd} {s : St} {taken : Bool} : (eName n s 0 taken == 0) = false := by
  unfold eName
  cases h : (checkS s.name != 0) with
  | true =>
    rw [if_pos rfl]
    simpa using h
  | false =>
    rw [if_neg (by decide)]
    split
    · rfl
    · rw [if_pos (by decide)]
      rfl
theorem LAt.oth {w0 w w' : World} {cs : Array Value} {q : Nat} (h : LAt w0 cs w) (hr : Ready w0) (ho : ∀ i, i ≠ q → w'.heap[i]? = w.heap[i]?) (hb : Below w0.heap.size w0 w') (hq : w0.heap.size < q) : LAt w0 cs w' :=
  ⟨hr.below hb (Nat.le_refl _), hb, (ho w0.heap.size (Nat.ne_of_lt hq)).trans h.cb⟩
theorem askT_empty (a c : ByteArray) : askT a keepS.name c = (!a.toList.isEmpty && !(a.toList == c.toList)) := by
  have h : keepS.name.toList = [] := by show (⟨#[]⟩ : ByteArray).toList = []; rw [ByteArray.toList_eq]
  unfold askT
  rw [h]
  cases a.toList <;> rfl
theorem PTab.setS {w : World} {g q i : Nat} {L : List Acct} {s : St} {v : Value} (h : PTab w g L) (hk : SBlk w q s) : PTab (w.setCell ⟨q, i, none⟩ v) g L :=
  h.other hk (by decide) (setCell_other w q i v)

set_option maxRecDepth 100000 in
set_option maxHeartbeats 6400000 in
theorem lawEmpty_calls (text user : ByteArray) (n p : Nd) (taken full : Bool) (name : ByteArray) (perm mode l : Int) (w : World) (hr : Ready w)
    (h1 : text.size ≤ reachBytes) (h2 : user.size ≤ reachBytes) (h3 : n.came) (h4 : p.came) (h5 : name.size ≤ reachBytes) (hm : 0 ≤ mode ∧ mode < 256) :
    Calls Tryd.prog 12 #[caseV text user n p taken full name perm mode, .int .u64 l] w fun e w' => e = .returned (.bool true) ∧ Below w.heap.size w w' := by
  have HM := Lib.hid (fun (w : World) => much_calls text user n p taken full name perm mode w h1 h2 h3 h4 h5)
  have HT := Lib.hid (LAt.start hr (caseL text user n p taken full name perm mode).toArray)
  by_cases hbig : 8388608 < muchN text user n p name
  · clear h1 h2 h3 h4 h5 hm hr
    go_enter Tryd.func12, Tryd.ntmps12
    go_upto_region 1 with (fail)
    generalize w.alloc (Obj.cells _ _) = w1 at HT ⊢
    go_wp2_with (first
      | (refine wc HT.out.cb rfl _ rfl rfl ?_)
      | (go_at_call 19; refine (HM.out _).mono ?_; rintro e w' ⟨rfl, hb⟩; replace HT := Lib.hid (HT.out.next hb); clear hb))
    go_ret
    exact ⟨rfl, HT.out.low⟩
  · have hle : ¬ (8388608 : Int) < (muchN text user n p name : Int) := by omega
    have hmn : muchN text user n p name ≤ 8388608 := by omega
    unfold muchN at hmn
    have HN0 := came_ok h3 (by omega) (by omega) (by omega) (by omega)
    have HP0 := came_ok h4 (by omega) (by omega) (by omega) (by omega)
    have HU := Lib.hid (show user.size ≤ 16777216 by omega)
    have hrd := fun own mem => rights_none own mem HN0
    have hrp := fun own mem => rights_none own mem HP0
    have HN1 := noRights_ok HN0
    have HP1 := noRights_ok HP0
    obtain ⟨d, hd⟩ : ∃ d, noRights n = d := ⟨_, rfl⟩
    obtain ⟨dp, hdp⟩ : ∃ d, noRights p = d := ⟨_, rfl⟩
    rw [hd] at hrd HN1
    rw [hdp] at hrp HP1
    have HN := Lib.hid HN1
    have HP := Lib.hid HP1
    have HR := Lib.hid (hrd (decide (user = d.uid)) (isMember (tableL text) user d.gid))
    have HRP := Lib.hid (hrp (decide (user = dp.uid)) (isMember (tableL text) user dp.gid))
    obtain ⟨o1, ho1⟩ : ∃ o, openS d 0 0 mode (wantsP mode) = o := ⟨_, rfl⟩
    obtain ⟨cn, ce, hc⟩ : ∃ cn ce, createS d 0 user name perm mode taken full = (cn, ce) := ⟨_, _, rfl⟩
    obtain ⟨rm, hrm⟩ : ∃ x, removeS d 0 = x := ⟨_, rfl⟩
    obtain ⟨st, hst⟩ : ∃ x, stepS d 0 = x := ⟨_, rfl⟩
    obtain ⟨m1, e1, he1⟩ : ∃ a b, wstatS (tableL text) user d dp taken (lenS l) = (a, b) := ⟨_, _, rfl⟩
    obtain ⟨m2, e2, he2⟩ : ∃ a b, wstatS (tableL text) user d dp taken (nameS name) = (a, b) := ⟨_, _, rfl⟩
    have f1 : (o1 == 0) = false := by rw [← ho1]; exact no_open hm.1 hm.2
    have f2 : (ce == 0) = false := by
      have := no_create (n := d) (m := mode) (u := user) (name := name) (perm := perm) (taken := taken) (full := full)
      rw [hc] at this
      exact this
    have f3 : (rm == 0) = false := by rw [← hrm]; exact no_remove
    have f4 : (st == 0) = false := by rw [← hst]; exact no_step
    have F5 := Lib.hid (show (e1 == 0) = !askI l keepS.length (recS d).length from by
      have h := wstat_one (L := tableL text) (user := user) (n := d) (p := dp) (taken := taken) (s := lenS l) 8 (by omega) (touch_len l _) (by show (eLen d (lenS l) (rights (decide (user = d.uid)) (isMember (tableL text) user d.gid) d.mode) == 0) = false; rw [HR.out]; exact no_len)
      rw [he1] at h
      exact h)
    have F6 := Lib.hid (show (e2 == 0) = !askT name keepS.name (recS d).name from by
      have h := wstat_one (L := tableL text) (user := user) (n := d) (p := dp) (taken := taken) (s := nameS name) 9 (by omega) (touch_name name _) (by show (eName d (nameS name) (rights (decide (user = dp.uid)) (isMember (tableL text) user dp.gid) dp.mode) taken == 0) = false; rw [HRP.out]; exact no_name)
      rw [he2] at h
      exact h)
    have HO1 := Lib.hid ho1; have HC := Lib.hid hc; have HRM := Lib.hid hrm; have HST := Lib.hid hst; have HE1 := Lib.hid he1; have HE2 := Lib.hid he2
    have HD := Lib.hid hd; have HDP := Lib.hid hdp
    have HRY := Lib.hid hr
    have HG1 := Lib.hid (show (lenS l).gid.size ≤ 16777216 from Nat.zero_le _)
    have HG2 := Lib.hid (show (nameS name).gid.size ≤ 16777216 from Nat.zero_le _)
    clear h1 h2 h3 h4 h5 hm hr hmn hbig hd hdp ho1 hc hrm hst he1 he2 HN0 HP0 HN1 HP1 hrd hrp
    go_enter Tryd.func12, Tryd.ntmps12
    go_upto_region 1 with (fail)
    generalize w.alloc (Obj.cells _ _) = wz at HT ⊢
    go_upto_region 7 with (first
      | (refine wc HT.out.cb rfl _ rfl rfl ?_)
      | (go_at_call 19; refine (HM.out _).mono ?_; rintro e w' ⟨rfl, hb⟩; replace HT := Lib.hid (HT.out.next hb); clear hb)
      | (go_at_call 13; refine (exKnown_calls _ HT.out.ready).mono ?_; rintro e w' ⟨rfl, hb⟩; replace HT := Lib.hid (HT.out.next hb); clear hb; have c0 := HT.out.c0)
      | (go_at_call 23; refine (table_calls text _ HT.out.ready).mono ?_; rintro e w' ⟨⟨g, rfl, hpt⟩, hb⟩; replace HT := Lib.hid (HT.out.next hb); have HPT := Lib.hid hpt; clear hb hpt c0))
    clear HM
    have c5 := HT.out.c5
    have z5 := HT.out.f 5
    have c18 := HT.out.c18
    have z18 := HT.out.f 18
    go_upto_region 9 with (fail)
    have hcb : Blk ((w'.setCell ⟨w.heap.size, 5, none⟩ (.int .u32 (noRights n).mode)).setCell ⟨w.heap.size, 18, none⟩ (.int .u32 (noRights p).mode)) w.heap.size 38 (caseL text user (noRights n) (noRights p) taken full name perm mode).toArray := Blk.set_ (Blk.set_ HT.out.cb 5 _) 18 _
    have hoth : ∀ i, i ≠ w.heap.size → ((w'.setCell ⟨w.heap.size, 5, none⟩ (.int .u32 (noRights n).mode)).setCell ⟨w.heap.size, 18, none⟩ (.int .u32 (noRights p).mode)).heap[i]? = w'.heap[i]? := fun i hi => (setCell_other _ _ 18 _ i hi).trans (setCell_other _ _ 5 _ i hi)
    have hb5 : Below w.heap.size w ((w'.setCell ⟨w.heap.size, 5, none⟩ (.int .u32 (noRights n).mode)).setCell ⟨w.heap.size, 18, none⟩ (.int .u32 (noRights p).mode)) := (HT.out.low.setCell (Nat.le_refl _) _).setCell (Nat.le_refl _) _
    replace HPT := Lib.hid (HPT.out.other HT.out.cb (by decide) hoth)
    replace HT := Lib.hid (show LAt w (caseL text user (noRights n) (noRights p) taken full name perm mode).toArray ((w'.setCell ⟨w.heap.size, 5, none⟩ (.int .u32 (noRights n).mode)).setCell ⟨w.heap.size, 18, none⟩ (.int .u32 (noRights p).mode)) from ⟨HRY.out.below hb5 (Nat.le_refl _), hb5, hcb⟩)
    clear hcb hoth hb5 c5 z5 c18 z18
    change Code.wp _ _ _ _ ((w'.setCell ⟨w.heap.size, 5, none⟩ (.int .u32 (noRights n).mode)).setCell ⟨w.heap.size, 18, none⟩ (.int .u32 (noRights p).mode))
    generalize ((w'.setCell ⟨w.heap.size, 5, none⟩ (.int .u32 (noRights n).mode)).setCell ⟨w.heap.size, 18, none⟩ (.int .u32 (noRights p).mode)) = w6 at HT HPT ⊢
    rw [HD.out, HDP.out] at HT
    try clear c1
    have c1 := HT.out.c1
    try clear c30
    have c30 := HT.out.c30
    try clear c31
    have c31 := HT.out.c31
    try clear c32
    have c32 := HT.out.c32
    go_upto_region 10 with (first
      | (refine wfC HT.out.cb rfl _ rfl rfl ?_)
      | (go_at_call 21; (with_reducible refine (create_calls _ _ user d dp taken full name perm mode _ HPT.out HN.out HT.out.ready HU.out).mono ?_); rw [HR.out, HC.out]; rintro e w7 ⟨rfl, hb⟩; replace HT := Lib.hid (HT.out.next hb); replace HPT := Lib.hid (HPT.out.below hb); clear hb)
      | (refine wl_store (NBlk.zero _) cn rfl _ _ rfl rfl rfl ?_; intro w8 hs ho hz hbl; have hb := hbl _ _ ((Below.refl _ _).alloc (Nat.le_refl _) _) (Nat.le_refl _); clear hs ho hz hbl; replace HT := Lib.hid (HT.out.next hb); replace HPT := Lib.hid (HPT.out.below hb); clear hb))
    try clear c1
    have c1 := HT.out.c1
    try clear c32
    have c32 := HT.out.c32
    go_upto_region 12 with (first
      | (refine wfC HT.out.cb rfl _ rfl rfl ?_)
      | (refine wnC HT.out.cb rfl _ rfl rfl ?_)
      | (go_at_call 25; (with_reducible refine (open_calls _ _ user d dp taken full mode _ HPT.out HN.out HP.out HU.out).mono ?_); rw [HR.out, HRP.out, HO1.out]; rintro e w7 ⟨rfl, hb⟩; replace HT := Lib.hid (HT.out.next hb); replace HPT := Lib.hid (HPT.out.below hb); clear hb; replace c1 := HT.out.c1)
      | (go_at_call 27; (with_reducible refine (remove_calls _ _ user d dp taken full _ HPT.out HN.out HP.out HU.out).mono ?_); rw [HRP.out, HRM.out]; rintro e w7 ⟨rfl, hb⟩; replace HT := Lib.hid (HT.out.next hb); replace HPT := Lib.hid (HPT.out.below hb); clear hb; replace c1 := HT.out.c1)
      | (go_at_call 31; (with_reducible refine (step_calls _ _ user d _ HPT.out HN.out HU.out).mono ?_); rw [HR.out, HST.out]; rintro e w7 ⟨rfl, hb⟩; replace HT := Lib.hid (HT.out.next hb); replace HPT := Lib.hid (HPT.out.below hb); clear hb; replace c1 := HT.out.c1))
    try clear c1
    have c1 := HT.out.c1
    go_upto_region 14 with (first
      | (refine wfC HT.out.cb rfl _ rfl rfl ?_)
      | (refine wnC HT.out.cb rfl _ rfl rfl ?_)
      | (go_at_call 33; (with_reducible refine (rights_calls _ _ user d _ HPT.out HN.out HU.out).mono ?_); rw [HR.out]; rintro e w7 ⟨rfl, hb⟩; replace HT := Lib.hid (HT.out.next hb); replace HPT := Lib.hid (HPT.out.below hb); clear hb; replace c1 := HT.out.c1)
      | (go_at_call 29; (with_reducible refine (closes_calls _ _ user d dp taken full _ HPT.out HN.out HP.out HU.out).mono ?_); rw [HRP.out, HRM.out]; rintro e w7 ⟨rfl, hb⟩; replace HT := Lib.hid (HT.out.next hb); replace HPT := Lib.hid (HPT.out.below hb); clear hb; replace c1 := HT.out.c1))
    go_upto_region 15 with (first
      | (refine wnC HT.out.cb rfl _ rfl rfl ?_)
      | (go_at_call 36; (with_reducible refine (record_calls d _ HN.out).mono ?_); rintro e w7 ⟨rfl, hb⟩; replace HT := Lib.hid (HT.out.next hb); replace HPT := Lib.hid (HPT.out.below hb); clear hb; have hq9 := HT.out.lt)
      | (refine wstS (SBlk.zero _) (recS d) rfl _ _ rfl rfl rfl ?_; intro w8 hs ho hbl; have hb := hbl _ _ ((Below.refl _ _).alloc (Nat.le_refl _) _) (Nat.le_refl _); have HO := Lib.hid hs; clear hs ho hbl; replace HT := Lib.hid (HT.out.next hb); replace HPT := Lib.hid (HPT.out.below hb); clear hb))
    generalize w7.heap.size = q9 at HO hq9 ⊢
    go_upto_region 16 with (first
      | (go_at_call 39; (with_reducible refine (keep_calls _).mono ?_); rintro e w9 ⟨rfl, hb⟩; replace HT := Lib.hid (HT.out.next hb); replace HPT := Lib.hid (HPT.out.below hb); have h910 := Nat.lt_of_lt_of_le (Blk.lt HO.out) hb.size; replace HO := Lib.hid (SBlk.below HO.out hb); clear hb; have hq10 := HT.out.lt)
      | (refine wstS (SBlk.zero _) keepS rfl _ _ rfl rfl rfl ?_; intro w10 hs ho hbl; have hb := hbl _ _ ((Below.refl _ _).alloc (Nat.le_refl _) _) (Nat.le_refl _); have HK := Lib.hid hs; clear hs ho hbl; replace HT := Lib.hid (HT.out.next hb); replace HPT := Lib.hid (HPT.out.below hb); replace HO := Lib.hid (SBlk.below HO.out hb); clear hb))
    generalize w9.heap.size = q10 at HK hq10 h910 ⊢
    have k8 : w10.cell? ⟨q10, 8, none⟩ = some (.int .u64 keepS.length) := Blk.cell HK.out 8
    have z8 := Blk.frozen HK.out 8
    go_upto_region 17 with (fail)
    replace HPT := Lib.hid (HPT.out.setS (i := 8) (v := .int .u64 l) HK.out)
    replace HT := Lib.hid (HT.out.far (i := 8) (v := .int .u64 l) HRY.out hq10)
    replace HO := Lib.hid (show SBlk (w10.setCell ⟨q10, 8, none⟩ (.int .u64 l)) q9 (recS d) from Blk.far HO.out (Nat.ne_of_lt h910) _)
    replace HK := Lib.hid (show SBlk (w10.setCell ⟨q10, 8, none⟩ (.int .u64 l)) q10 (lenS l) from Blk.set_ HK.out 8 _)
    clear k8 z8
    change Code.wp _ _ _ _ (w10.setCell ⟨q10, 8, none⟩ (.int .u64 l))
    generalize w10.setCell ⟨q10, 8, none⟩ (.int .u64 l) = w11 at HT HPT HO HK ⊢
    try clear c1
    have c1 := HT.out.c1
    go_upto_region 18 with (first
      | (refine wfC HT.out.cb rfl _ rfl rfl ?_)
      | (refine wS HK.out rfl _ rfl rfl ?_)
      | (go_at_call 38; (with_reducible refine (wstat_calls _ _ user d dp taken full (lenS l) _ HPT.out HT.out.ready HU.out HN.out HP.out HG1.out).mono ?_); rw [HE1.out]; rintro e w12 ⟨rfl, hb⟩; replace HT := Lib.hid (HT.out.next hb); replace HPT := Lib.hid (HPT.out.below hb); replace HO := Lib.hid (SBlk.below HO.out hb); replace HK := Lib.hid (SBlk.below HK.out hb); clear hb)
      | (refine wl_store (NBlk.zero _) m1 rfl _ _ rfl rfl rfl ?_; intro w8 hs ho hz hbl; have hb := hbl _ _ ((Below.refl _ _).alloc (Nat.le_refl _) _) (Nat.le_refl _); clear hs ho hz hbl; replace HT := Lib.hid (HT.out.next hb); replace HPT := Lib.hid (HPT.out.below hb); replace HO := Lib.hid (SBlk.below HO.out hb); replace HK := Lib.hid (SBlk.below HK.out hb); clear hb))
    have k8 : w8.cell? ⟨q9, 8, none⟩ = some (.int .u64 (recS d).length) := Blk.cell HO.out 8
    have f5 := F5.out
    unfold askI at f5
    rw [show keepS.length = 18446744073709551615 from rfl] at f5
    go_cut [134] (fun s wx => s = .bool false ∧ wx = w8)
    case first =>
      cases g1 : (l == 18446744073709551615)
      all_goals
        cases g2 : (l == (recS d).length)
      all_goals
        simp only [bne, g1, g2, Bool.not_true, Bool.not_false, Bool.and_true, Bool.and_false] at f5
        go_wp2_with fail
        go_meet
        case rel => exact ⟨rfl, rfl⟩
    obtain ⟨rfl, rfl⟩ := hcut
    clear f5 k8 F5
    go_upto_region 21 with (first
      | (go_at_call 39; (with_reducible refine (keep_calls _).mono ?_); rintro e w13 ⟨rfl, hb⟩; replace HT := Lib.hid (HT.out.next hb); replace HPT := Lib.hid (HPT.out.below hb); replace HO := Lib.hid (SBlk.below HO.out hb); replace HK := Lib.hid (SBlk.below HK.out hb); clear hb)
      | (refine wstS HK.out keepS rfl _ _ rfl rfl rfl ?_; intro w14 hs ho hbl; have hb := hbl _ _ HT.out.low (Nat.le_of_lt hq10); replace HPT := Lib.hid (HPT.out.other HK.out (by decide) ho); replace HT := Lib.hid (HT.out.oth HRY.out ho hb hq10); replace HO := Lib.hid (show SBlk w14 q9 (recS d) from (ho q9 (Nat.ne_of_lt h910)).trans HO.out); replace HK := Lib.hid hs; clear hs ho hbl hb))
    have k9 : w14.cell? ⟨q10, 9, none⟩ = some (.string keepS.name) := Blk.cell HK.out 9
    have z9 := Blk.frozen HK.out 9
    have c30 := HT.out.c30
    go_upto_region 22 with (fail)
    replace HPT := Lib.hid (HPT.out.setS (i := 9) (v := .string name) HK.out)
    replace HT := Lib.hid (HT.out.far (i := 9) (v := .string name) HRY.out hq10)
    replace HO := Lib.hid (show SBlk (w14.setCell ⟨q10, 9, none⟩ (.string name)) q9 (recS d) from Blk.far HO.out (Nat.ne_of_lt h910) _)
    replace HK := Lib.hid (show SBlk (w14.setCell ⟨q10, 9, none⟩ (.string name)) q10 (nameS name) from Blk.set_ HK.out 9 _)
    clear k9 z9 c30
    change Code.wp _ _ _ _ (w14.setCell ⟨q10, 9, none⟩ (.string name))
    generalize w14.setCell ⟨q10, 9, none⟩ (.string name) = w15 at HT HPT HO HK ⊢
    try clear c1
    have c1 := HT.out.c1
    go_upto_region 23 with (first
      | (refine wfC HT.out.cb rfl _ rfl rfl ?_)
      | (refine wS HK.out rfl _ rfl rfl ?_)
      | (go_at_call 38; (with_reducible refine (wstat_calls _ _ user d dp taken full (nameS name) _ HPT.out HT.out.ready HU.out HN.out HP.out HG2.out).mono ?_); rw [HE2.out]; rintro e w12 ⟨rfl, hb⟩; replace HT := Lib.hid (HT.out.next hb); replace HPT := Lib.hid (HPT.out.below hb); replace HO := Lib.hid (SBlk.below HO.out hb); replace HK := Lib.hid (SBlk.below HK.out hb); clear hb)
      | (refine wl_store (NBlk.zero _) m2 rfl _ _ rfl rfl rfl ?_; intro w8 hs ho hz hbl; have hb := hbl _ _ ((Below.refl _ _).alloc (Nat.le_refl _) _) (Nat.le_refl _); clear hs ho hz hbl; replace HT := Lib.hid (HT.out.next hb); replace HPT := Lib.hid (HPT.out.below hb); replace HO := Lib.hid (SBlk.below HO.out hb); replace HK := Lib.hid (SBlk.below HK.out hb); clear hb))
    have k9 : w8.cell? ⟨q9, 9, none⟩ = some (.string (recS d).name) := Blk.cell HO.out 9
    have c30 := HT.out.c30
    have f6 := F6.out
    rw [askT_empty] at f6
    cases g1 : name.toList.isEmpty
    all_goals
      cases g2 : (name.toList == (recS d).name.toList)
    all_goals
      simp only [g1, g2, Bool.not_true, Bool.not_false, Bool.and_true, Bool.and_false] at f6
      go_wp2_with fail
      go_ret
      refine ⟨?_, HT.out.low⟩
      first | rfl | simp
end Go.Proofs.YtlenlldiimohjaaDoor
