/-
  More rights never refuse what fewer allow. No program in sight.
  vergerlaw09: RulesMore. Condition: the tables of utf8 lie as laid.
-/
import Derived.Test.YtlenlldiimohjaaDoorU21
import Derived.Test.YtlenlldiimohjaaDoorV2
namespace Go.Proofs.YtlenlldiimohjaaDoor

def moreN (n : Nd) (k : Int) : Nd := { n with mode := bits .or .u32 n.mode (bits .and .u32 k 511) }

theorem or_div_mod (m j s : Nat) : (m ||| j) / 2 ^ s % 8 = (m / 2 ^ s % 8) ||| (j / 2 ^ s % 8) := by
  rw [← Nat.shiftRight_eq_div_pow, ← Nat.shiftRight_eq_div_pow, ← Nat.shiftRight_eq_div_pow, Nat.shiftRight_or_distrib, show 8 = 2 ^ 3 from rfl, Nat.or_mod_two_pow]
theorem rightsN_or (own mem : Bool) (m j : Nat) : rightsN own mem (m ||| j) = rightsN own mem m ||| rightsN own mem j := by
  have h1 := or_div_mod m j 6
  have h2 := or_div_mod m j 3
  have h3 := or_div_mod m j 0
  simp only [Nat.reducePow, Nat.div_one] at h1 h2 h3
  unfold rightsN
  rw [h1, h2, h3]
  cases own <;> cases mem <;> simp <;> ac_rfl
theorem mayB_or : ∀ (r s q : Fin 8), mayB ((r.val : Nat) : Int) ((q.val : Nat) : Int) = true → mayB ((r.val ||| s.val : Nat) : Int) ((q.val : Nat) : Int) = true := by decide +kernel
theorem and_511 (k : Nat) : k &&& 511 < 512 := Nat.lt_of_le_of_lt Nat.and_le_right (by omega)
theorem low_31 : ∀ j : Fin 512, j.val &&& 2147483648 = 0 ∧ j.val &&& 536870912 = 0 := by decide +kernel

theorem moreN_mode (n : Nd) (k : Int) (hn : n.ok) (h0 : 0 ≤ k) (h1 : k < 4294967296) : ∃ m j : Nat, n.mode = m ∧ m < 4294967296 ∧ j < 512 ∧ (moreN n k).mode = ((m ||| j : Nat) : Int) := by
  obtain ⟨g0, g1, _⟩ := hn
  obtain ⟨m, hm⟩ := Int.eq_ofNat_of_zero_le g0
  obtain ⟨kk, rfl⟩ := Int.eq_ofNat_of_zero_le h0
  have hj := and_511 kk
  refine ⟨m, kk &&& 511, hm, by omega, hj, ?_⟩
  show bits .or .u32 n.mode (bits .and .u32 (kk : Int) 511) = _
  rw [hm, show (511 : Int) = ((511 : Nat) : Int) from rfl, u32_and_nat kk 511 (by omega) (by omega), u32_or_nat m _ (by omega) (by omega)]
theorem moreN_ok {n : Nd} {k : Int} (hn : n.ok) (h0 : 0 ≤ k) (h1 : k < 4294967296) : (moreN n k).ok := by
  obtain ⟨m, j, hm, hl, hj, he⟩ := moreN_mode n k hn h0 h1
  have : m ||| j < 2 ^ 32 := Nat.or_lt_two_pow (by omega) (by omega)
  exact ⟨by rw [he]; omega, by rw [he]; omega, hn.2.2⟩
theorem moreN_isB {n : Nd} {k : Int} (hn : n.ok) (h0 : 0 ≤ k) (h1 : k < 4294967296) : isB (moreN n k).mode 2147483648 = isB n.mode 2147483648 ∧ isB (moreN n k).mode 536870912 = isB n.mode 536870912 := by
  obtain ⟨m, j, hm, hl, hj, he⟩ := moreN_mode n k hn h0 h1
  have h2 : m ||| j < 2 ^ 32 := Nat.or_lt_two_pow (by omega) (by omega)
  have hz := low_31 ⟨j, hj⟩
  have key : ∀ b : Nat, b < 4294967296 → j &&& b = 0 → isB (moreN n k).mode (b : Int) = isB n.mode (b : Int) := by
    intro b hb hjb
    unfold isB
    rw [he, hm, u32_and_nat _ _ (by omega) hb, u32_and_nat _ _ hl hb, Nat.and_or_distrib_right, hjb, Nat.or_zero]
  exact ⟨key 2147483648 (by omega) hz.1, key 536870912 (by omega) hz.2⟩
theorem more_may {n : Nd} {k : Int} (own mem : Bool) {q : Int} (hn : n.ok) (h0 : 0 ≤ k) (h1 : k < 4294967296) (q0 : 0 ≤ q) (q1 : q < 8) (h : mayB (rights own mem n.mode) q = true) : mayB (rights own mem (moreN n k).mode) q = true := by
  obtain ⟨m, j, hm, hl, hj, he⟩ := moreN_mode n k hn h0 h1
  obtain ⟨qq, rfl⟩ := Int.eq_ofNat_of_zero_le q0
  unfold rights at h ⊢
  rw [hm, Int.toNat_natCast] at h
  rw [he, Int.toNat_natCast, rightsN_or]
  exact mayB_or ⟨_, rightsN_lt own mem m⟩ ⟨_, rightsN_lt own mem j⟩ ⟨qq, by omega⟩ h
theorem wants_lt (m : Int) (h0 : 0 ≤ m) (h1 : m < 256) : 0 ≤ (wantsP m).1 ∧ (wantsP m).1 < 8 := by
  have key : ∀ i : Fin 256, 0 ≤ (wantsP ((i.val : Nat) : Int)).1 ∧ (wantsP ((i.val : Nat) : Int)).1 < 8 := by decide +kernel
  obtain ⟨k, rfl⟩ := Int.eq_ofNat_of_zero_le h0
  exact key ⟨k, by omega⟩

section
variable {n p : Nd} {k l : Int} {own mem own' mem' : Bool}
theorem more_step (hn : n.ok) (h0 : 0 ≤ k) (h1 : k < 4294967296) (h : stepS n (rights own mem n.mode) = 0) : stepS (moreN n k) (rights own mem (moreN n k).mode) = 0 := by
  unfold stepS at h ⊢
  rw [(moreN_isB hn h0 h1).1]
  split at h
  · omega
  · rename_i hd
    rw [if_neg hd]
    split at h
    · omega
    · rename_i hm
      rw [if_neg]
      rw [more_may own mem hn h0 h1 (by omega) (by omega) (by simpa using hm)]
      simp
theorem more_remove (hp : p.ok) (hn : n.ok) (k0 : 0 ≤ k) (k1 : k < 4294967296) (h0 : 0 ≤ l) (h1 : l < 4294967296) (h : removeS n (rights own mem p.mode) = 0) : removeS (moreN n k) (rights own mem (moreN p l).mode) = 0 := by
  unfold removeS at h ⊢
  rw [(moreN_isB hn k0 k1).1]
  split at h
  · omega
  · rename_i hd
    rw [not_or] at hd
    have hm := more_may own mem hp h0 h1 (q := 2) (by omega) (by omega) (by simpa using hd.2)
    rw [if_neg (by rw [not_or]; exact ⟨hd.1, by rw [hm]; simp⟩)]
    exact h
theorem more_open {m : Int} (hn : n.ok) (hp : p.ok) (k0 : 0 ≤ k) (k1 : k < 4294967296) (h0 : 0 ≤ l) (h1 : l < 4294967296) (m0 : 0 ≤ m) (m1 : m < 256) (h : openS n (rights own mem n.mode) (rights own' mem' p.mode) m (wantsP m) = 0) :
    openS (moreN n k) (rights own mem (moreN n k).mode) (rights own' mem' (moreN p l).mode) m (wantsP m) = 0 := by
  unfold openS at h ⊢
  rw [(moreN_isB hn k0 k1).1, (moreN_isB hn k0 k1).2]
  have hw := wants_lt m m0 m1
  split at h
  · rename_i hc
    rw [h] at hc
    simp at hc
  · rename_i c1
    rw [if_neg c1]
    split at h
    · omega
    · rename_i c2
      rw [if_neg c2]
      split at h
      · omega
      · rename_i c3
        rw [if_neg (by rw [more_may own mem hn k0 k1 hw.1 hw.2 (by simpa using c3)]; simp)]
        split at h
        · omega
        · rename_i c4
          rw [if_neg]
          · exact h
          · rintro ⟨c5, c6⟩
            refine c4 ⟨c5, ?_⟩
            cases hq : mayB (rights own' mem' p.mode) 2 with
            | false => rfl
            | true => rw [more_may own' mem' hp h0 h1 (by omega) (by omega) hq] at c6; cases c6
theorem more_ask {name : ByteArray} {perm m : Int} {taken full : Bool} (hn : n.ok) (k0 : 0 ≤ k) (k1 : k < 4294967296) (h : askS n (rights own mem n.mode) name perm m taken full = 0) :
    askS (moreN n k) (rights own mem (moreN n k).mode) name perm m taken full = 0 := by
  unfold askS at h ⊢
  rw [(moreN_isB hn k0 k1).1]
  by_cases hq : mayB (rights own mem n.mode) 2 = false
  · rw [if_pos hq] at h
    exfalso
    revert h
    repeat' split
    all_goals intro h
    all_goals first | omega | (rename_i hc; rw [h] at hc; simp at hc)
  · rw [if_neg hq] at h
    rw [if_neg (show ¬ mayB (rights own mem (moreN n k).mode) 2 = false by rw [more_may own mem hn k0 k1 (by omega) (by omega) (by simpa using hq)]; simp)]
    exact h
theorem more_create {u name : ByteArray} {perm m : Int} {taken full : Bool} (hn : n.ok) (k0 : 0 ≤ k) (k1 : k < 4294967296) (h : (createS n (rights own mem n.mode) u name perm m taken full).2 = 0) :
    (createS (moreN n k) (rights own mem (moreN n k).mode) u name perm m taken full).2 = 0 := by
  unfold createS at h ⊢
  split at h
  · rename_i hc
    dsimp only at h
    rw [h] at hc
    simp at hc
  · rename_i hc
    have h2 : askS n (rights own mem n.mode) name perm m taken full = 0 := by simpa using hc
    rw [more_ask hn k0 k1 h2]
    rfl
end
end Go.Proofs.YtlenlldiimohjaaDoor

namespace Go.Proofs.YtlenlldiimohjaaDoor
open Go.ChangeShapes Go.WideShapes Go.ChangeAt Go.RowKit

set_option maxRecDepth 100000 in
set_option maxHeartbeats 6400000 in
theorem lawMore_calls (text user : ByteArray) (n p : Nd) (taken full : Bool) (name : ByteArray) (perm mode : Int) (kn kp : Int) (w : World) (hr : Ready w)
    (h1 : text.size ≤ reachBytes) (h2 : user.size ≤ reachBytes) (h3 : n.came) (h4 : p.came) (h5 : name.size ≤ reachBytes) (hm : 0 ≤ mode ∧ mode < 256) (hkn : 0 ≤ kn ∧ kn < 4294967296) (hkp : 0 ≤ kp ∧ kp < 4294967296) :
    Calls Tryd.prog 8 #[caseV text user n p taken full name perm mode, .int .u32 kn, .int .u32 kp] w fun e w' => e = .returned (.bool true) ∧ Below w.heap.size w w' := by
  have HM := Lib.hid (fun (w : World) => much_calls text user n p taken full name perm mode w h1 h2 h3 h4 h5)
  have HT := Lib.hid (LAt.start hr (caseL text user n p taken full name perm mode).toArray)
  by_cases hbig : 8388608 < muchN text user n p name
  · clear h1 h2 h3 h4 h5 hm hkn hkp hr
    go_enter Tryd.func8, Tryd.ntmps8
    go_upto_region 1 with (fail)
    generalize w.alloc (Obj.cells _ _) = w1 at HT ⊢
    go_wp2_with (first
      | (refine wc HT.out.cb rfl _ rfl rfl ?_)
      | (go_at_call 19; refine (HM.out _).mono ?_; rintro e w' ⟨rfl, hb⟩; replace HT := Lib.hid (HT.out.next hb); clear hb))
    go_ret
    exact ⟨rfl, HT.out.low⟩
  · have hle : ¬ (8388608 : Int) < (muchN text user n p name : Int) := by omega
    have hmn : muchN text user n p name ≤ 8388608 := by omega
    unfold muchN at hmn
    have HN := Lib.hid (came_ok h3 (by omega) (by omega) (by omega) (by omega))
    have HP := Lib.hid (came_ok h4 (by omega) (by omega) (by omega) (by omega))
    have HU := Lib.hid (show user.size ≤ 16777216 by omega)
    have HN2 := Lib.hid (moreN_ok HN.out hkn.1 hkn.2)
    have HP2 := Lib.hid (moreN_ok HP.out hkp.1 hkp.2)
    have HH := Lib.hid (And.intro hm (And.intro hkn hkp))
    obtain ⟨r1, hr1⟩ : ∃ r, createS n (rights (decide (user = n.uid)) (isMember (tableL text) user n.gid) n.mode) user name perm mode taken full = r := ⟨_, rfl⟩
    obtain ⟨r2, hr2⟩ : ∃ r, createS (moreN n kn) (rights (decide (user = (moreN n kn).uid)) (isMember (tableL text) user (moreN n kn).gid) (moreN n kn).mode) user name perm mode taken full = r := ⟨_, rfl⟩
    obtain ⟨o1, ho1⟩ : ∃ r, openS n (rights (decide (user = n.uid)) (isMember (tableL text) user n.gid) n.mode) (rights (decide (user = p.uid)) (isMember (tableL text) user p.gid) p.mode) mode (wantsP mode) = r := ⟨_, rfl⟩
    obtain ⟨o2, ho2⟩ : ∃ r, openS (moreN n kn) (rights (decide (user = (moreN n kn).uid)) (isMember (tableL text) user (moreN n kn).gid) (moreN n kn).mode) (rights (decide (user = (moreN p kp).uid)) (isMember (tableL text) user (moreN p kp).gid) (moreN p kp).mode) mode (wantsP mode) = r := ⟨_, rfl⟩
    obtain ⟨m1, hm1⟩ : ∃ r, removeS n (rights (decide (user = p.uid)) (isMember (tableL text) user p.gid) p.mode) = r := ⟨_, rfl⟩
    obtain ⟨m2, hm2⟩ : ∃ r, removeS (moreN n kn) (rights (decide (user = (moreN p kp).uid)) (isMember (tableL text) user (moreN p kp).gid) (moreN p kp).mode) = r := ⟨_, rfl⟩
    obtain ⟨s1, hs1⟩ : ∃ r, stepS n (rights (decide (user = n.uid)) (isMember (tableL text) user n.gid) n.mode) = r := ⟨_, rfl⟩
    obtain ⟨s2, hs2⟩ : ∃ r, stepS (moreN n kn) (rights (decide (user = (moreN n kn).uid)) (isMember (tableL text) user (moreN n kn).gid) (moreN n kn).mode) = r := ⟨_, rfl⟩
    have hcr : r1.2 = 0 → r2.2 = 0 := by rw [← hr1, ← hr2]; exact more_create HN.out hkn.1 hkn.2
    have hco : o1 = 0 → o2 = 0 := by rw [← ho1, ← ho2]; exact more_open HN.out HP.out hkn.1 hkn.2 hkp.1 hkp.2 hm.1 hm.2
    have hcm : m1 = 0 → m2 = 0 := by rw [← hm1, ← hm2]; exact more_remove HP.out HN.out hkn.1 hkn.2 hkp.1 hkp.2
    have hcs : s1 = 0 → s2 = 0 := by rw [← hs1, ← hs2]; exact more_step HN.out hkn.1 hkn.2
    have HIM := Lib.hid (And.intro hcr (And.intro hco (And.intro hcm hcs)))
    have HQ := Lib.hid (And.intro (And.intro hr1 hr2) (And.intro (And.intro ho1 ho2) (And.intro (And.intro hm1 hm2) (And.intro hs1 hs2))))
    clear hcr hco hcm hcs hr1 hr2 ho1 ho2 hm1 hm2 hs1 hs2
    clear h1 h2 h3 h4 h5 hm hkn hkp hr hmn hbig
    go_enter Tryd.func8, Tryd.ntmps8
    go_upto_region 1 with (fail)
    generalize w.alloc (Obj.cells _ _) = w1 at HT ⊢
    go_upto_region 7 with (first
      | (refine wc HT.out.cb rfl _ rfl rfl ?_)
      | (go_at_call 19; refine (HM.out _).mono ?_; rintro e w' ⟨rfl, hb⟩; replace HT := Lib.hid (HT.out.next hb); clear hb)
      | (go_at_call 13; refine (exKnown_calls _ HT.out.ready).mono ?_; rintro e w' ⟨rfl, hb⟩; replace HT := Lib.hid (HT.out.next hb); clear hb; have c0 := Blk.cell HT.out.cb 0; simp at c0)
      | (go_at_call 23; refine (table_calls text _ HT.out.ready).mono ?_; rintro e w' ⟨⟨g, rfl, hpt⟩, hb⟩; replace HT := Lib.hid (HT.out.next hb); have HPT := Lib.hid hpt; clear hb hpt c0))
    go_upto_region 10 with (first
      | (refine wfC HT.out.cb rfl _ rfl rfl ?_)
      | (refine wst_facts (FBlk.zero _) n p taken full rfl _ _ rfl rfl rfl ?_; intro ws hf hbl; have HB := Lib.hid (hbl _ _ ((Below.refl _ _).alloc (Nat.le_refl _) _) (Nat.le_refl _)); clear hbl; have HF := Lib.hid hf
         have c3 : ws.cell? ⟨w'.heap.size, 3, none⟩ = some (.int .u32 n.mode) := Blk.cell hf 3
         have z3 := Blk.frozen hf 3
         have c16 : ws.cell? ⟨w'.heap.size, 16, none⟩ = some (.int .u32 p.mode) := Blk.cell hf 16
         have z16 := Blk.frozen hf 16
         clear hf))
    have HF2 := Lib.hid (show FBlk ((ws.setCell ⟨w'.heap.size, 3, none⟩ (.int .u32 (moreN n kn).mode)).setCell ⟨w'.heap.size, 16, none⟩ (.int .u32 (moreN p kp).mode)) w'.heap.size (moreN n kn) (moreN p kp) taken full from (Blk.set_ (Blk.set_ HF.out 3 _) 16 _))
    have hb2 : Below w'.heap.size w' ((ws.setCell ⟨w'.heap.size, 3, none⟩ (.int .u32 (moreN n kn).mode)).setCell ⟨w'.heap.size, 16, none⟩ (.int .u32 (moreN p kp).mode)) := (HB.out.setCell (Nat.le_refl _) _).setCell (Nat.le_refl _) _
    replace HT := Lib.hid (HT.out.next hb2)
    replace HPT := Lib.hid (HPT.out.below hb2)
    clear hb2 c3 z3 c16 z16 HF HB
    have HF := HF2
    clear HF2
    change Code.wp _ _ _ _ ((ws.setCell ⟨w'.heap.size, 3, none⟩ (.int .u32 (moreN n kn).mode)).setCell ⟨w'.heap.size, 16, none⟩ (.int .u32 (moreN p kp).mode))
    generalize ((ws.setCell ⟨w'.heap.size, 3, none⟩ (.int .u32 (moreN n kn).mode)).setCell ⟨w'.heap.size, 16, none⟩ (.int .u32 (moreN p kp).mode)) = w9 at HT HPT HF ⊢
    generalize w'.heap.size = qf at HF ⊢
    have c1 := HT.out.c1
    have c30 := HT.out.c30
    have c31 := HT.out.c31
    have c32 := HT.out.c32
    go_wp2_with (first
      | (go_at_call 21; (with_reducible refine (create_calls _ _ user n p taken full name perm mode _ HPT.out HN.out HT.out.ready HU.out).mono ?_); rw [HQ.out.1.1]; rintro e w' ⟨rfl, hb⟩; replace HT := Lib.hid (HT.out.next hb); replace HPT := Lib.hid (HPT.out.below hb); replace HF := Lib.hid (FBlk.below HF.out hb); clear hb; replace c1 := HT.out.c1; replace c30 := HT.out.c30; replace c31 := HT.out.c31; replace c32 := HT.out.c32)
      | (go_at_call 21; (with_reducible refine (create_calls _ _ user (moreN n kn) (moreN p kp) taken full name perm mode _ HPT.out HN2.out HT.out.ready HU.out).mono ?_); rw [HQ.out.1.2]; rintro e w' ⟨rfl, hb⟩; replace HT := Lib.hid (HT.out.next hb); replace HPT := Lib.hid (HPT.out.below hb); replace HF := Lib.hid (FBlk.below HF.out hb); clear hb; replace c1 := HT.out.c1; replace c30 := HT.out.c30; replace c31 := HT.out.c31; replace c32 := HT.out.c32)
      | (go_at_call 25; (with_reducible refine (open_calls _ _ user n p taken full mode _ HPT.out HN.out HP.out HU.out).mono ?_); rw [HQ.out.2.1.1]; rintro e w' ⟨rfl, hb⟩; replace HT := Lib.hid (HT.out.next hb); replace HPT := Lib.hid (HPT.out.below hb); replace HF := Lib.hid (FBlk.below HF.out hb); clear hb; replace c1 := HT.out.c1; replace c30 := HT.out.c30; replace c31 := HT.out.c31; replace c32 := HT.out.c32)
      | (go_at_call 25; (with_reducible refine (open_calls _ _ user (moreN n kn) (moreN p kp) taken full mode _ HPT.out HN2.out HP2.out HU.out).mono ?_); rw [HQ.out.2.1.2]; rintro e w' ⟨rfl, hb⟩; replace HT := Lib.hid (HT.out.next hb); replace HPT := Lib.hid (HPT.out.below hb); replace HF := Lib.hid (FBlk.below HF.out hb); clear hb; replace c1 := HT.out.c1; replace c30 := HT.out.c30; replace c31 := HT.out.c31; replace c32 := HT.out.c32)
      | (go_at_call 27; (with_reducible refine (remove_calls _ _ user n p taken full _ HPT.out HN.out HP.out HU.out).mono ?_); rw [HQ.out.2.2.1.1]; rintro e w' ⟨rfl, hb⟩; replace HT := Lib.hid (HT.out.next hb); replace HPT := Lib.hid (HPT.out.below hb); replace HF := Lib.hid (FBlk.below HF.out hb); clear hb; replace c1 := HT.out.c1; replace c30 := HT.out.c30; replace c31 := HT.out.c31; replace c32 := HT.out.c32)
      | (go_at_call 27; (with_reducible refine (remove_calls _ _ user (moreN n kn) (moreN p kp) taken full _ HPT.out HN2.out HP2.out HU.out).mono ?_); rw [HQ.out.2.2.1.2]; rintro e w' ⟨rfl, hb⟩; replace HT := Lib.hid (HT.out.next hb); replace HPT := Lib.hid (HPT.out.below hb); replace HF := Lib.hid (FBlk.below HF.out hb); clear hb; replace c1 := HT.out.c1; replace c30 := HT.out.c30; replace c31 := HT.out.c31; replace c32 := HT.out.c32)
      | (go_at_call 31; (with_reducible refine (step_calls _ _ user n _ HPT.out HN.out HU.out).mono ?_); rw [HQ.out.2.2.2.1]; rintro e w' ⟨rfl, hb⟩; replace HT := Lib.hid (HT.out.next hb); replace HPT := Lib.hid (HPT.out.below hb); replace HF := Lib.hid (FBlk.below HF.out hb); clear hb; replace c1 := HT.out.c1; replace c30 := HT.out.c30; replace c31 := HT.out.c31; replace c32 := HT.out.c32)
      | (go_at_call 31; (with_reducible refine (step_calls _ _ user (moreN n kn) _ HPT.out HN2.out HU.out).mono ?_); rw [HQ.out.2.2.2.2]; rintro e w' ⟨rfl, hb⟩; replace HT := Lib.hid (HT.out.next hb); replace HPT := Lib.hid (HPT.out.below hb); replace HF := Lib.hid (FBlk.below HF.out hb); clear hb; replace c1 := HT.out.c1; replace c30 := HT.out.c30; replace c31 := HT.out.c31; replace c32 := HT.out.c32)
      | (refine wfC HT.out.cb rfl _ rfl rfl ?_)
      | (refine wfF HF.out rfl _ rfl rfl ?_)
      | (refine wnC HT.out.cb rfl _ rfl rfl ?_)
      | (refine wnF HF.out rfl _ rfl rfl ?_)
      | (refine wl_store (NBlk.zero _) _ rfl _ _ rfl rfl rfl ?_; intro ws hs ho hz hbl; have hb := hbl _ _ ((Below.refl _ _).alloc (Nat.le_refl _) _) (Nat.le_refl _); clear hs ho hz hbl; replace HT := Lib.hid (HT.out.next hb); replace HPT := Lib.hid (HPT.out.below hb); replace HF := Lib.hid (FBlk.below HF.out hb); clear hb; replace c1 := HT.out.c1; replace c30 := HT.out.c30; replace c31 := HT.out.c31; replace c32 := HT.out.c32))
    all_goals
      obtain ⟨i1, i2, i3, i4⟩ := HIM.out
      clear HIM HQ HM
      go_ret
      refine ⟨?_, HT.out.low⟩
      clear HT HPT HF c1 c30 c31 c32
      go_light
      simp_all
end Go.Proofs.YtlenlldiimohjaaDoor
