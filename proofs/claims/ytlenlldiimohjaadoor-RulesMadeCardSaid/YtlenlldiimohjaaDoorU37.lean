/-
  vergerlaw09: RulesMade. Condition: the tables of utf8 lie as laid.
-/
import Derived.Test.YtlenlldiimohjaaDoorW2
import Derived.Test.YtlenlldiimohjaaDoorV0
namespace Go.Proofs.YtlenlldiimohjaaDoor
open Go.ChangeShapes Go.WideShapes Go.ChangeAt Go.RowKit

/-- The directory as the law has it: its user's own, with all rights of the owner. -/
def dirN (n : Nd) (user : ByteArray) : Nd := { n with mode := bits .or .u32 n.mode 2147484096, uid := user }
theorem dirN_mode (n : Nd) (user : ByteArray) (hn : n.ok) : ∃ M : Nat, (dirN n user).mode = M ∧ M < 4294967296 ∧ M &&& 448 = 448 ∧ M &&& 2147483648 = 2147483648 := by
  obtain ⟨g0, g1, _⟩ := hn
  obtain ⟨m, hm⟩ := Int.eq_ofNat_of_zero_le g0
  refine ⟨m ||| 2147484096, ?_, Nat.or_lt_two_pow (n := 32) (by omega) (by omega), ?_, ?_⟩
  · show bits .or .u32 n.mode 2147484096 = _
    rw [hm, show (2147484096 : Int) = ((2147484096 : Nat) : Int) from rfl, u32_or_nat m _ (by omega) (by omega)]
  · apply Nat.eq_of_testBit_eq
    intro i
    rw [Nat.testBit_and, Nat.testBit_or, show (2147484096 : Nat) = 2147483648 ||| 448 from rfl, Nat.testBit_or]
    generalize m.testBit i = a
    generalize (448 : Nat).testBit i = b
    generalize (2147483648 : Nat).testBit i = c
    cases a <;> cases b <;> cases c <;> rfl
  · apply Nat.eq_of_testBit_eq
    intro i
    rw [Nat.testBit_and, Nat.testBit_or, show (2147484096 : Nat) = 2147483648 ||| 448 from rfl, Nat.testBit_or]
    generalize m.testBit i = a
    generalize (448 : Nat).testBit i = b
    generalize (2147483648 : Nat).testBit i = c
    cases a <;> cases b <;> cases c <;> rfl
theorem dirN_ok {n : Nd} {user : ByteArray} (hn : n.ok) (hu : user.size ≤ 16777216) : (dirN n user).ok := by
  obtain ⟨M, h1, h2, _⟩ := dirN_mode n user hn
  obtain ⟨_, _, g1, g2, g3, g4⟩ := hn
  exact ⟨by rw [h1]; omega, by rw [h1]; omega, g1, hu, g3, g4⟩
theorem dirN_dir {n : Nd} {user : ByteArray} (hn : n.ok) : isB (dirN n user).mode 2147483648 = true := by
  obtain ⟨M, h1, h2, _, h4⟩ := dirN_mode n user hn
  unfold isB
  rw [h1, show (2147483648 : Int) = ((2147483648 : Nat) : Int) from rfl, u32_and_nat M _ h2 (by omega), h4]
  rfl
theorem own7 : ∀ (a b : Fin 8), mayB ((((7 ||| a.val) ||| b.val : Nat)) : Int) 2 = true := by decide +kernel
theorem dirN_may {n : Nd} {user : ByteArray} (mem : Bool) (hn : n.ok) : mayB (rights true mem (dirN n user).mode) 2 = true := by
  obtain ⟨M, h1, h2, h3, _⟩ := dirN_mode n user hn
  unfold rights rightsN
  rw [h1, Int.toNat_natCast]
  have e : M / 64 % 8 = 7 := by
    have h5 : (M &&& 448) / 2 ^ 6 = (M / 2 ^ 6) &&& (448 / 2 ^ 6) := Nat.and_div_two_pow
    rw [h3] at h5
    simp only [Nat.reducePow, Nat.reduceDiv] at h5
    have h6 : M / 64 &&& 7 = M / 64 % 8 := Nat.and_two_pow_sub_one_eq_mod _ 3
    omega
  rw [if_pos rfl, e]
  cases mem
  · exact own7 ⟨0, by omega⟩ ⟨M % 8, by omega⟩
  · exact own7 ⟨M / 8 % 8, by omega⟩ ⟨M % 8, by omega⟩

/-- What is asked there, once the directory serves. -/
theorem ask_dir {n : Nd} {r : Int} {name : ByteArray} {perm m : Int} (hd : isB n.mode 2147483648 = true) (hr : mayB r 2 = true) :
    askS n r name perm m false false = if (checkS name != 0) = true then checkS name else if (permS perm != 0) = true then permS perm else if ((wantsP m).2 != 0) = true then (wantsP m).2 else if ((bits .and .u32 perm 2147483648 != 0) = true ∧ (m != 0) = true) then 92 else 0 := by
  unfold askS
  simp [hd, hr]

/-- What the law asks of the mode of what is made; x: that mode. -/
theorem made_facts {n : Nd} {user : ByteArray} {perm : Int} (hn : n.ok) (h0 : 0 ≤ perm) (h1 : perm < 4294967296) (dir : Bool) (hd : (bits .and .u32 perm 2147483648 != 0) = dir) :
    (0 ≤ madeS perm (dirN n user).mode ∧ madeS perm (dirN n user).mode < 4294967296) ∧
    (bits .andNot .u32 (bits .andNot .u32 (bits .and .u32 (madeS perm (dirN n user).mode) 511) (if dir then 0 else 73)) (dirN n user).mode != 0) = false ∧
    (bits .andNot .u32 (madeS perm (dirN n user).mode) perm != 0) = false ∧
    (bits .andNot .u32 (bits .xor .u32 (madeS perm (dirN n user).mode) perm) 511 != 0) = false ∧
    (dir = false → (bits .and .u32 (madeS perm (dirN n user).mode) 73 != bits .and .u32 perm 73) = false) ∧
    (bits .and .u32 (madeS perm (dirN n user).mode) 448 != bits .and .u32 perm 448) = false := by
  obtain ⟨M, hM, hM1, hM2, -⟩ := dirN_mode n user hn
  obtain ⟨P, rfl⟩ := Int.eq_ofNat_of_zero_le h0
  have hP : P < 4294967296 := by omega
  have he : (bits .and .u32 (P : Int) 2147483648 == 0) = !dir := by
    rw [← hd]
    show _ = !(!_)
    rw [Bool.not_not]
  rw [hM, madeS_X P M hP hM1, he]
  generalize hx : madeX P M (!dir) = x
  have hx1 : x < 4294967296 := by
    rw [← hx]
    exact Nat.lt_of_le_of_lt Nat.and_le_left hP
  have a1 : x &&& 511 < 4294967296 := Nat.lt_of_le_of_lt Nat.and_le_right (by omega)
  have a2 : (x &&& 511) &&& (4294967295 - (if (!dir) = true then 73 else 0)) < 4294967296 := Nat.lt_of_le_of_lt Nat.and_le_left a1
  have a3 : x ^^^ P < 2 ^ 32 := Nat.xor_lt_two_pow (by omega) (by omega)
  have l1 := made_law1 (P := P) (d := !dir) hM1
  have l2 := made_law2 (M := M) (d := !dir) hP
  have l3 := made_law3 (P := P) (M := M) (d := !dir)
  have l5 := made_law5 (P := P) (d := !dir) hM2
  rw [hx] at l1 l2 l3 l5
  refine ⟨⟨by omega, by omega⟩, ?_, ?_, ?_, ?_, ?_⟩
  · have er : (if dir then (0 : Int) else 73) = (((if (!dir) = true then 73 else 0 : Nat)) : Int) := by cases dir <;> rfl
    have hr : (if (!dir) = true then 73 else 0) < 4294967296 := by split <;> omega
    rw [er, show (511 : Int) = ((511 : Nat) : Int) from rfl, u32_and_nat x 511 hx1 (by omega), u32_andNot_nat _ _ a1 hr, u32_andNot_nat _ M a2 hM1, l1]
    rfl
  · rw [u32_andNot_nat x P hx1 hP, l2]
    rfl
  · rw [show (511 : Int) = ((511 : Nat) : Int) from rfl, u32_xor_nat x P hx1 hP, u32_andNot_nat _ 511 (by omega) (by omega), l3]
    rfl
  · intro hf
    subst hf
    have l4 := made_law4 (P := P) (M := M)
    rw [show madeX P M true = x from hx] at l4
    rw [show (73 : Int) = ((73 : Nat) : Int) from rfl, u32_and_nat x 73 hx1 (by omega), u32_and_nat P 73 hP (by omega), l4]
    simp
  · rw [show (448 : Int) = ((448 : Nat) : Int) from rfl, u32_and_nat x 448 hx1 (by omega), u32_and_nat P 448 hP (by omega), l5]
    simp

/-- What is asked of a making in such a directory. -/
def askD (name : ByteArray) (perm m : Int) : Int :=
  if (checkS name != 0) = true then checkS name else if (permS perm != 0) = true then permS perm else if ((wantsP m).2 != 0) = true then (wantsP m).2 else if ((bits .and .u32 perm 2147483648 != 0) = true ∧ (m != 0) = true) then 92 else 0
theorem create_dir (text : ByteArray) {n : Nd} {user name : ByteArray} {perm m : Int} (hn : n.ok) :
    createS (dirN n user) (rights (decide (user = (dirN n user).uid)) (isMember (tableL text) user (dirN n user).gid) (dirN n user).mode) user name perm m false false = if (askD name perm m != 0) = true then (Nd.none, askD name perm m) else (madeN (dirN n user) user name perm, 0) := by
  have h : decide (user = (dirN n user).uid) = true := decide_eq_true rfl
  unfold createS
  rw [h, ask_dir (dirN_dir hn) (dirN_may _ hn)]
  rfl
/-- The five ways of a making. -/
def Ways (n : Nd) (user name : ByteArray) (perm m : Int) (rn : Nd) (re k e2 : Int) : Prop :=
  ((k == 0) = false ∧ (re == 0) = false ∧ rn = Nd.none) ∨
  ((k == 0) = true ∧ (permS perm == 0) = false ∧ (re == 0) = false ∧ rn = Nd.none) ∨
  ((k == 0) = true ∧ (permS perm == 0) = true ∧ (e2 == 0) = false ∧ (re == 0) = false ∧ rn = Nd.none) ∨
  ((k == 0) = true ∧ (permS perm == 0) = true ∧ (e2 == 0) = true ∧ (bits .and .u32 perm 2147483648 != 0) = true ∧ (m == 0) = false ∧ (re == 0) = false ∧ rn = Nd.none) ∨
  ((k == 0) = true ∧ (permS perm == 0) = true ∧ (e2 == 0) = true ∧ (bits .and .u32 perm 2147483648 != 0) = true ∧ (m == 0) = true ∧ (re == 0) = true ∧ rn = madeN (dirN n user) user name perm) ∨
  ((k == 0) = true ∧ (permS perm == 0) = true ∧ (e2 == 0) = true ∧ (bits .and .u32 perm 2147483648 != 0) = false ∧ (re == 0) = true ∧ rn = madeN (dirN n user) user name perm)
theorem ways (text : ByteArray) {n : Nd} {user name : ByteArray} {perm m : Int} {rn : Nd} {re : Int} (hn : n.ok)
    (h : createS (dirN n user) (rights (decide (user = (dirN n user).uid)) (isMember (tableL text) user (dirN n user).gid) (dirN n user).mode) user name perm m false false = (rn, re)) : Ways n user name perm m rn re (checkS name) (wantsP m).2 := by
  rw [create_dir text hn] at h
  unfold Ways
  have hne : ∀ x : Int, (x != 0) = !(x == 0) := fun x => rfl
  cases h1 : (checkS name == 0) with
  | false =>
    have ha : askD name perm m = checkS name := by simp [askD, hne, h1]
    rw [ha, if_pos (by rw [hne, h1]; rfl)] at h
    injection h with h2 h3
    subst h2
    subst h3
    exact .inl ⟨rfl, h1, rfl⟩
  | true =>
    cases h2 : (permS perm == 0) with
    | false =>
      have ha : askD name perm m = permS perm := by simp [askD, hne, h1, h2]
      rw [ha, if_pos (by rw [hne, h2]; rfl)] at h
      injection h with h3 h4
      subst h3
      subst h4
      exact .inr (.inl ⟨rfl, rfl, h2, rfl⟩)
    | true =>
      cases h3 : ((wantsP m).2 == 0) with
      | false =>
        have ha : askD name perm m = (wantsP m).2 := by simp [askD, hne, h1, h2, h3]
        rw [ha, if_pos (by rw [hne, h3]; rfl)] at h
        injection h with h4 h5
        subst h4
        subst h5
        exact .inr (.inr (.inl ⟨rfl, rfl, rfl, h3, rfl⟩))
      | true =>
        cases h4 : (bits .and .u32 perm 2147483648 != 0) with
        | false =>
          have ha : askD name perm m = 0 := by unfold askD; rw [if_neg (by rw [hne, h1]; decide), if_neg (by rw [hne, h2]; decide), if_neg (by rw [hne, h3]; decide), if_neg (by rw [h4]; rintro ⟨h, _⟩; cases h)]
          rw [ha, if_neg (by decide)] at h
          injection h with h5 h6
          subst h5
          subst h6
          exact .inr (.inr (.inr (.inr (.inr ⟨rfl, rfl, rfl, rfl, rfl, rfl⟩))))
        | true =>
          cases h5 : (m == 0) with
          | false =>
            have ha : askD name perm m = 92 := by unfold askD; rw [if_neg (by rw [hne, h1]; decide), if_neg (by rw [hne, h2]; decide), if_neg (by rw [hne, h3]; decide), if_pos ⟨h4, by rw [hne, h5]; rfl⟩]
            rw [ha, if_pos (by decide)] at h
            injection h with h6 h7
            subst h6
            subst h7
            exact .inr (.inr (.inr (.inl ⟨rfl, rfl, rfl, rfl, rfl, rfl, rfl⟩)))
          | true =>
            have ha : askD name perm m = 0 := by unfold askD; rw [if_neg (by rw [hne, h1]; decide), if_neg (by rw [hne, h2]; decide), if_neg (by rw [hne, h3]; decide), if_neg (by rintro ⟨_, h⟩; rw [hne, h5] at h; cases h)]
            rw [ha, if_neg (by decide)] at h
            injection h with h6 h7
            subst h6
            subst h7
            exact .inr (.inr (.inr (.inr (.inl ⟨rfl, rfl, rfl, rfl, rfl, rfl, rfl⟩))))

theorem LAt.far {w0 w : World} {cs : Array Value} {q i : Nat} {v : Value} (h : LAt w0 cs w) (hr : Ready w0) (hq : w0.heap.size < q) : LAt w0 cs (w.setCell ⟨q, i, none⟩ v) :=
  ⟨hr.below (h.low.setCell (Nat.le_of_lt hq) v) (Nat.le_refl _), h.low.setCell (Nat.le_of_lt hq) v, Blk.far h.cb (Nat.ne_of_lt hq) v⟩
theorem PTab.setN {w : World} {g q i : Nat} {L : List Acct} {n : Nd} {v : Value} (h : PTab w g L) (hk : NBlk w q n) : PTab (w.setCell ⟨q, i, none⟩ v) g L :=
  h.other hk (by decide) (setCell_other w q i v)
theorem LAt.lt {w0 w : World} {cs : Array Value} (h : LAt w0 cs w) : w0.heap.size < w.heap.size := Blk.lt h.cb

set_option maxRecDepth 100000 in
set_option maxHeartbeats 6400000 in
theorem lawMade_calls (text user : ByteArray) (n p : Nd) (taken full : Bool) (name : ByteArray) (perm mode : Int) (w : World) (hr : Ready w)
    (h1 : text.size ≤ reachBytes) (h2 : user.size ≤ reachBytes) (h3 : n.came) (h4 : p.came) (h5 : name.size ≤ reachBytes) (hpm : 0 ≤ perm ∧ perm < 4294967296) :
    Calls Tryd.prog 6 #[caseV text user n p taken full name perm mode] w fun e w' => e = .returned (.bool true) ∧ Below w.heap.size w w' := by
  have HM := Lib.hid (fun (w : World) => much_calls text user n p taken full name perm mode w h1 h2 h3 h4 h5)
  have HT := Lib.hid (LAt.start hr (caseL text user n p taken full name perm mode).toArray)
  by_cases hbig : 8388608 < muchN text user n p name
  · clear h1 h2 h3 h4 h5 hpm hr
    go_enter Tryd.func6, Tryd.ntmps6
    go_upto_region 1 with (fail)
    generalize w.alloc (Obj.cells _ _) = w1 at HT ⊢
    go_wp2_with (first
      | (refine wc HT.out.cb rfl _ rfl rfl ?_)
      | (go_at_call 19; refine (HM.out _).mono ?_; rintro e w' ⟨rfl, hb⟩; replace HT := Lib.hid (HT.out.next hb); clear hb))
    go_ret
    exact ⟨rfl, HT.out.low⟩
  · have hle : ¬ (8388608 : Int) < (muchN text user n p name : Int) := by omega
    have hmn : muchN text user n p name ≤ 8388608 := by omega
    unfold muchN at hmn
    have HN := Lib.hid (came_ok h3 (by omega) (by omega) (by omega) (by omega))
    have HP := Lib.hid (came_ok h4 (by omega) (by omega) (by omega) (by omega))
    have HU := Lib.hid (show user.size ≤ 16777216 by omega)
    have HDN := Lib.hid (dirN_ok (user := user) HN.out HU.out)
    have HRY := Lib.hid hr
    have HPM := Lib.hid hpm
    obtain ⟨d, hd⟩ : ∃ d, dirN n user = d := ⟨_, rfl⟩
    obtain ⟨k, hk⟩ : ∃ k, checkS name = k := ⟨_, rfl⟩
    obtain ⟨e2, he2⟩ : ∃ e2, (wantsP mode).2 = e2 := ⟨_, rfl⟩
    obtain ⟨rn, re, hre⟩ : ∃ rn re, createS (dirN n user) (rights (decide (user = (dirN n user).uid)) (isMember (tableL text) user (dirN n user).gid) (dirN n user).mode) user name perm mode false false = (rn, re) := ⟨_, _, rfl⟩
    have HWY := Lib.hid (ways text HN.out hre)
    rw [hk, he2] at HWY
    rw [hd] at hre HDN
    have HD0 := Lib.hid hd
    have HK := Lib.hid hk
    have HE2 := Lib.hid he2
    have HQ := Lib.hid hre
    clear h1 h2 h3 h4 h5 hpm hr hmn hbig hd hk he2 hre
    go_enter Tryd.func6, Tryd.ntmps6
    go_upto_region 1 with (fail)
    generalize w.alloc (Obj.cells _ _) = w1 at HT ⊢
    go_upto_region 7 with (first
      | (refine wc HT.out.cb rfl _ rfl rfl ?_)
      | (go_at_call 19; refine (HM.out _).mono ?_; rintro e w' ⟨rfl, hb⟩; replace HT := Lib.hid (HT.out.next hb); clear hb)
      | (go_at_call 13; refine (exKnown_calls _ HT.out.ready).mono ?_; rintro e w' ⟨rfl, hb⟩; replace HT := Lib.hid (HT.out.next hb); clear hb; have c0 := HT.out.c0)
      | (go_at_call 23; refine (table_calls text _ HT.out.ready).mono ?_; rintro e w' ⟨⟨g, rfl, hpt⟩, hb⟩; replace HT := Lib.hid (HT.out.next hb); have HPT := Lib.hid hpt; clear hb hpt c0))
    clear HM
    have hq5 := HT.out.lt
    go_upto_region 8 with (first
      | (refine wnC HT.out.cb rfl _ rfl rfl ?_)
      | (refine wl_store (NBlk.zero _) n rfl _ _ rfl rfl rfl ?_; intro ws hs ho hz hbl; have hb := hbl _ _ ((Below.refl _ _).alloc (Nat.le_refl _) _) (Nat.le_refl _); have HD := Lib.hid hs; replace HT := Lib.hid (HT.out.next hb); replace HPT := Lib.hid (HPT.out.below hb); clear hs ho hz hbl hb))
    generalize w'.heap.size = q5 at HD hq5 ⊢
    have c3 : ws.cell? ⟨q5, 3, none⟩ = some (.int .u32 n.mode) := Blk.cell HD.out 3
    have z3 := Blk.frozen HD.out 3
    go_upto_region 9 with (fail)
    replace HT := Lib.hid (HT.out.far (i := 3) (v := .int .u32 (bits .or .u32 n.mode 2147484096)) HRY.out hq5)
    replace HPT := Lib.hid (HPT.out.setN (i := 3) (v := .int .u32 (bits .or .u32 n.mode 2147484096)) HD.out)
    replace HD := Lib.hid (show NBlk (ws.setCell ⟨q5, 3, none⟩ (.int .u32 (bits .or .u32 n.mode 2147484096))) q5 { n with mode := bits .or .u32 n.mode 2147484096 } from Blk.set_ HD.out 3 _)
    clear c3 z3
    change Code.wp _ _ _ _ (ws.setCell ⟨q5, 3, none⟩ (.int .u32 (bits .or .u32 n.mode 2147484096)))
    generalize ws.setCell ⟨q5, 3, none⟩ (.int .u32 (bits .or .u32 n.mode 2147484096)) = w3 at HD HT HPT ⊢
    have c1 := HT.out.c1
    have c4 : w3.cell? ⟨q5, 4, none⟩ = some (.string n.uid) := Blk.cell HD.out 4
    have z4 := Blk.frozen HD.out 4
    go_upto_region 10 with (fail)
    replace HT := Lib.hid (HT.out.far (i := 4) (v := .string user) HRY.out hq5)
    replace HPT := Lib.hid (HPT.out.setN (i := 4) (v := .string user) HD.out)
    replace HD := Lib.hid (show NBlk (w3.setCell ⟨q5, 4, none⟩ (.string user)) q5 (dirN n user) from Blk.set_ HD.out 4 _)
    rw [HD0.out] at HD
    clear c1 c4 z4
    change Code.wp _ _ _ _ (w3.setCell ⟨q5, 4, none⟩ (.string user))
    generalize w3.setCell ⟨q5, 4, none⟩ (.string user) = w4 at HD HT HPT ⊢
    go_upto_region 11 with (first
      | (refine wnN HD.out rfl _ rfl rfl ?_)
      | (refine wst_caseK HT.out.cb d rfl _ _ rfl rfl rfl ?_; intro w5 hcb hoth hbl; have hb5 := hbl _ _ HT.out.low (Nat.le_refl _)
         replace HPT := Lib.hid (HPT.out.other HT.out.cb (by decide) hoth)
         replace HD := Lib.hid (show NBlk w5 q5 d from (hoth q5 (Nat.ne_of_gt hq5)).trans HD.out)
         replace HT := Lib.hid (show LAt w (caseL text user d p taken full name perm mode).toArray w5 from ⟨HRY.out.below hb5 (Nat.le_refl _), hb5, hcb⟩)
         clear hcb hoth hbl hb5))
    have d28 := HT.out.c28
    have d29 := HT.out.c29
    have z28 := HT.out.f 28
    have z29 := HT.out.f 29
    go_upto_region 13 with (fail)
    have hcb : Blk ((w5.setCell ⟨w.heap.size, 28, none⟩ (.bool false)).setCell ⟨w.heap.size, 29, none⟩ (.bool false)) w.heap.size 38 (caseL text user d p false false name perm mode).toArray := Blk.set_ (Blk.set_ HT.out.cb 28 _) 29 _
    have hoth : ∀ i, i ≠ w.heap.size → ((w5.setCell ⟨w.heap.size, 28, none⟩ (.bool false)).setCell ⟨w.heap.size, 29, none⟩ (.bool false)).heap[i]? = w5.heap[i]? := fun i hi => (setCell_other _ _ 29 _ i hi).trans (setCell_other _ _ 28 _ i hi)
    have hb5 : Below w.heap.size w ((w5.setCell ⟨w.heap.size, 28, none⟩ (.bool false)).setCell ⟨w.heap.size, 29, none⟩ (.bool false)) := (HT.out.low.setCell (Nat.le_refl _) _).setCell (Nat.le_refl _) _
    replace HPT := Lib.hid (HPT.out.other HT.out.cb (by decide) hoth)
    replace HD := Lib.hid (show NBlk ((w5.setCell ⟨w.heap.size, 28, none⟩ (.bool false)).setCell ⟨w.heap.size, 29, none⟩ (.bool false)) q5 d from (hoth q5 (Nat.ne_of_gt hq5)).trans HD.out)
    replace HT := Lib.hid (show LAt w (caseL text user d p false false name perm mode).toArray ((w5.setCell ⟨w.heap.size, 28, none⟩ (.bool false)).setCell ⟨w.heap.size, 29, none⟩ (.bool false)) from ⟨HRY.out.below hb5 (Nat.le_refl _), hb5, hcb⟩)
    clear hcb hoth hb5 d28 d29 z28 z29
    change Code.wp _ _ _ _ ((w5.setCell ⟨w.heap.size, 28, none⟩ (.bool false)).setCell ⟨w.heap.size, 29, none⟩ (.bool false))
    generalize ((w5.setCell ⟨w.heap.size, 28, none⟩ (.bool false)).setCell ⟨w.heap.size, 29, none⟩ (.bool false)) = w6 at HD HT HPT ⊢
    have c1 := HT.out.c1
    have c30 := HT.out.c30
    have c31 := HT.out.c31
    have c32 := HT.out.c32
    go_upto_region 14 with (first
      | (refine wfC HT.out.cb rfl _ rfl rfl ?_)
      | (go_at_call 21; (with_reducible refine (create_calls _ _ user d p false false name perm mode _ HPT.out HDN.out HT.out.ready HU.out).mono ?_); rw [HQ.out]; rintro e w7 ⟨rfl, hb⟩; have h56 := Nat.lt_of_lt_of_le (Blk.lt HD.out) hb.size; have hq6 := Nat.lt_trans hq5 h56; replace HT := Lib.hid (HT.out.next hb); replace HPT := Lib.hid (HPT.out.below hb); replace HD := Lib.hid (NBlk.below HD.out hb); clear hb)
      | (refine wl_store (NBlk.zero _) rn rfl _ _ rfl rfl rfl ?_; intro w8 hs ho hz hbl; have hb := hbl _ _ ((Below.refl _ _).alloc (Nat.le_refl _) _) (Nat.le_refl _); have HA := Lib.hid hs; clear hs ho hz hbl; replace HT := Lib.hid (HT.out.next hb); replace HPT := Lib.hid (HPT.out.below hb); replace HD := Lib.hid (NBlk.below HD.out hb); clear hb))
    generalize w7.heap.size = q6 at HA h56 hq6 ⊢
    clear HPT
    replace c32 := HT.out.c32
    go_upto_region 15 with (first
      | (go_at_call 14; (with_reducible refine (wants_calls mode _).mono ?_); rw [HE2.out]; rintro e wq ⟨rfl, rfl⟩))
    replace c30 := HT.out.c30
    replace c31 := HT.out.c31
    go_upto_region 17 with (first
      | (go_at_call 24; (with_reducible refine (check_calls name _ HT.out.ready).mono ?_); rw [HK.out]; rintro e w9 ⟨rfl, hb⟩; replace HT := Lib.hid (HT.out.next hb); replace HA := Lib.hid (NBlk.below HA.out hb); replace HD := Lib.hid (NBlk.below HD.out hb); clear hb))
    replace c1 := HT.out.c1
    replace c30 := HT.out.c30
    replace c31 := HT.out.c31
    replace c32 := HT.out.c32
    have a3 : w9.cell? ⟨q6, 3, none⟩ = some (.int .u32 rn.mode) := Blk.cell HA.out 3
    have d3 : w9.cell? ⟨q5, 3, none⟩ = some (.int .u32 d.mode) := Blk.cell HD.out 3
    have z3 := Blk.frozen HA.out 3
    have hwy := HWY.out
    unfold Ways at hwy
    clear HWY
    rcases hwy with ⟨f1, f2, f3⟩ | ⟨f1, f2, f3, f4⟩ | ⟨f1, f2, f3, f4, f5⟩ | ⟨f1, f2, f3, f4, f5, f6, f7⟩ | ⟨f1, f2, f3, f4, f5, f6, f7⟩ | ⟨f1, f2, f3, f4, f5, f6⟩
    · have HRN := Lib.hid f3; clear f3
      go_wp2_with (first
        | (go_at_call 16; (with_reducible refine (perm_calls perm _).mono ?_); rintro e wq ⟨rfl, rfl⟩)
        | (refine wnN HA.out rfl _ rfl rfl ?_)
        | (refine weqN rn Nd.none rfl _ _ rfl rfl rfl ?_; rw [show ndEqB rn Nd.none = true from ndEqB_iff.2 HRN.out]))
      go_ret
      exact ⟨rfl, HT.out.low⟩
    · have HRN := Lib.hid f4; clear f4
      go_wp2_with (first
        | (go_at_call 16; (with_reducible refine (perm_calls perm _).mono ?_); rintro e wq ⟨rfl, rfl⟩)
        | (refine wnN HA.out rfl _ rfl rfl ?_)
        | (refine weqN rn Nd.none rfl _ _ rfl rfl rfl ?_; rw [show ndEqB rn Nd.none = true from ndEqB_iff.2 HRN.out]))
      go_ret
      exact ⟨rfl, HT.out.low⟩
    · have HRN := Lib.hid f5; clear f5
      go_wp2_with (first
        | (go_at_call 16; (with_reducible refine (perm_calls perm _).mono ?_); rintro e wq ⟨rfl, rfl⟩)
        | (refine wnN HA.out rfl _ rfl rfl ?_)
        | (refine weqN rn Nd.none rfl _ _ rfl rfl rfl ?_; rw [show ndEqB rn Nd.none = true from ndEqB_iff.2 HRN.out]))
      go_ret
      exact ⟨rfl, HT.out.low⟩
    · have HRN := Lib.hid f7; clear f7
      go_wp2_with (first
        | (go_at_call 16; (with_reducible refine (perm_calls perm _).mono ?_); rintro e wq ⟨rfl, rfl⟩)
        | (refine wnN HA.out rfl _ rfl rfl ?_)
        | (refine weqN rn Nd.none rfl _ _ rfl rfl rfl ?_; rw [show ndEqB rn Nd.none = true from ndEqB_iff.2 HRN.out]))
      go_ret
      exact ⟨rfl, HT.out.low⟩
    · have HRN := Lib.hid f7; clear f7
      have hmf := made_facts (n := n) (user := user) HN.out HPM.out.1 HPM.out.2 true f4
      rw [HD0.out, show madeS perm d.mode = rn.mode from by rw [HRN.out, HD0.out]; rfl] at hmf
      obtain ⟨⟨m0, m1⟩, g1, g2, g3, g4, g5⟩ := hmf
      clear g4
      rw [if_pos rfl] at g1
      go_upto_region 30 with (first
        | (go_at_call 16; (with_reducible refine (perm_calls perm _).mono ?_); rintro e wq ⟨rfl, rfl⟩))
      replace HT := Lib.hid (HT.out.far (i := 3) (v := .int .u32 0) HRY.out hq6)
      replace HD := Lib.hid (show NBlk (w9.setCell ⟨q6, 3, none⟩ (.int .u32 0)) q5 d from Blk.far HD.out (Nat.ne_of_lt h56) _)
      replace HA := Lib.hid (show NBlk (w9.setCell ⟨q6, 3, none⟩ (.int .u32 0)) q6 { rn with mode := 0 } from Blk.set_ HA.out 3 _)
      clear c1 c30 c31 c32 a3 d3 z3
      change Code.wp _ _ _ _ (w9.setCell ⟨q6, 3, none⟩ (.int .u32 0))
      generalize w9.setCell ⟨q6, 3, none⟩ (.int .u32 0) = w10 at HT HD HA ⊢
      have c1 := HT.out.c1
      have c30 := HT.out.c30
      have d0 : w10.cell? ⟨q5, 0, none⟩ = some (.int .u64 d.path) := Blk.cell HD.out 0
      have d5 : w10.cell? ⟨q5, 5, none⟩ = some (.string d.gid) := Blk.cell HD.out 5
      go_wp2_with (first
        | (refine wnN HA.out rfl _ rfl rfl ?_)
        | (refine weqN { rn with mode := 0 } ⟨0, d.path, name, 0, user, d.gid, user, 0, 0, 0, 0, 0, 0⟩ rfl _ _ rfl rfl rfl ?_; rw [show ndEqB { rn with mode := 0 } ⟨0, d.path, name, 0, user, d.gid, user, 0, 0, 0, 0, 0, 0⟩ = true from ndEqB_iff.2 (by rw [HRN.out, HD0.out]; rfl)]))
      go_ret
      exact ⟨rfl, HT.out.low⟩
    · have HRN := Lib.hid f6; clear f6
      have hmf := made_facts (n := n) (user := user) HN.out HPM.out.1 HPM.out.2 false f4
      rw [HD0.out, show madeS perm d.mode = rn.mode from by rw [HRN.out, HD0.out]; rfl] at hmf
      obtain ⟨⟨m0, m1⟩, g1, g2, g3, g4, g5⟩ := hmf
      replace g4 := g4 rfl
      rw [if_neg (by decide)] at g1
      go_upto_region 30 with (first
        | (go_at_call 16; (with_reducible refine (perm_calls perm _).mono ?_); rintro e wq ⟨rfl, rfl⟩))
      replace HT := Lib.hid (HT.out.far (i := 3) (v := .int .u32 0) HRY.out hq6)
      replace HD := Lib.hid (show NBlk (w9.setCell ⟨q6, 3, none⟩ (.int .u32 0)) q5 d from Blk.far HD.out (Nat.ne_of_lt h56) _)
      replace HA := Lib.hid (show NBlk (w9.setCell ⟨q6, 3, none⟩ (.int .u32 0)) q6 { rn with mode := 0 } from Blk.set_ HA.out 3 _)
      clear c1 c30 c31 c32 a3 d3 z3
      change Code.wp _ _ _ _ (w9.setCell ⟨q6, 3, none⟩ (.int .u32 0))
      generalize w9.setCell ⟨q6, 3, none⟩ (.int .u32 0) = w10 at HT HD HA ⊢
      have c1 := HT.out.c1
      have c30 := HT.out.c30
      have d0 : w10.cell? ⟨q5, 0, none⟩ = some (.int .u64 d.path) := Blk.cell HD.out 0
      have d5 : w10.cell? ⟨q5, 5, none⟩ = some (.string d.gid) := Blk.cell HD.out 5
      go_wp2_with (first
        | (refine wnN HA.out rfl _ rfl rfl ?_)
        | (refine weqN { rn with mode := 0 } ⟨0, d.path, name, 0, user, d.gid, user, 0, 0, 0, 0, 0, 0⟩ rfl _ _ rfl rfl rfl ?_; rw [show ndEqB { rn with mode := 0 } ⟨0, d.path, name, 0, user, d.gid, user, 0, 0, 0, 0, 0, 0⟩ = true from ndEqB_iff.2 (by rw [HRN.out, HD0.out]; rfl)]))
      go_ret
      exact ⟨rfl, HT.out.low⟩
end Go.Proofs.YtlenlldiimohjaaDoor
