
/-
  The document's Wants and Perm; pick.
  The document's rules: Rights, may, Step.
  The document's rules: Step, Open, Remove, Closes.
  The document's Closes; vergerlaw09: tables.
  The document's asks.
  The mode of what is made: bit by bit, as the document has it. No program in sight.
  The document's Create.
  Of a table that was read the two tellings of membership are one. No program in sight.
-/
import Derived.Test.YtlenlldiimohjaaGreatDoorV1
import Derived.Test.YtlenlldiimohjaaGreatDoorG1
import Derived.Test.YtlenlldiimohjaaGreatDoorV2
import Derived.Test.YtlenlldiimohjaaGreatDoorV0
import Derived.LoopTactic
namespace Go.Proofs.YtlenlldiimohjaaGreatDoor
open Go.ChangeShapes Go.WideShapes Go.ChangeAt Go.RowKit

theorem refPerm_calls (m : Int) (w : World) :
    Calls Tryz.prog 109 #[.int .u32 m] w fun e w' => e = .returned (.int .i64 (permS m)) ∧ w = w' := by
  go_enter Tryz.func109, Tryz.ntmps109
  go_wp2
  all_goals
    go_ret
    refine ⟨ret_int ?_, rfl⟩
    go_light
    simp_all [permS]
end Go.Proofs.YtlenlldiimohjaaGreatDoor

namespace Go.Proofs.YtlenlldiimohjaaGreatDoor
open Go.ChangeShapes Go.WideShapes Go.ChangeAt Go.RowKit

theorem small_or (a b : Nat) (ha : a < 8) (hb : b < 8) : bits .or .u32 (a : Int) (b : Int) = ((a ||| b : Nat) : Int) := u32_or_nat a b (by omega) (by omega)
theorem refR_11 (m : Nat) : bits .or .u32 (bits .or .u32 ((m : Int) % 8) ((m : Int) / 64 % 8)) ((m : Int) / 8 % 8) % 256 = (rightsN true true m : Nat) := by
  have e1 : ((m : Int) % 8) = ((m % 8 : Nat) : Int) := rfl
  have e2 : ((m : Int) / 64 % 8) = ((m / 64 % 8 : Nat) : Int) := rfl
  have e3 : ((m : Int) / 8 % 8) = ((m / 8 % 8 : Nat) : Int) := rfl
  have hl : (m % 8 ||| m / 64 % 8) < 8 := Nat.or_lt_two_pow (n := 3) (by omega) (by omega)
  have hl2 : (m % 8 ||| m / 64 % 8) ||| m / 8 % 8 < 8 := Nat.or_lt_two_pow (n := 3) hl (by omega)
  rw [e1, e2, e3, small_or _ _ (by omega) (by omega), small_or _ _ hl (by omega), refRights_eq]
  simp only [if_true]
  omega
theorem refR_10 (m : Nat) : bits .or .u32 ((m : Int) % 8) ((m : Int) / 64 % 8) % 256 = (rightsN true false m : Nat) := by
  have e1 : ((m : Int) % 8) = ((m % 8 : Nat) : Int) := rfl
  have e2 : ((m : Int) / 64 % 8) = ((m / 64 % 8 : Nat) : Int) := rfl
  have hl : (m % 8 ||| m / 64 % 8) < 8 := Nat.or_lt_two_pow (n := 3) (by omega) (by omega)
  rw [e1, e2, small_or _ _ (by omega) (by omega), refRights_eq]
  simp only [if_true, Bool.false_eq_true, if_false]
  omega
theorem refR_01 (m : Nat) : bits .or .u32 ((m : Int) % 8) ((m : Int) / 8 % 8) % 256 = (rightsN false true m : Nat) := by
  have e1 : ((m : Int) % 8) = ((m % 8 : Nat) : Int) := rfl
  have e2 : ((m : Int) / 8 % 8) = ((m / 8 % 8 : Nat) : Int) := rfl
  have hl : (m % 8 ||| m / 8 % 8) < 8 := Nat.or_lt_two_pow (n := 3) (by omega) (by omega)
  rw [e1, e2, small_or _ _ (by omega) (by omega), refRights_eq]
  simp only [if_true, Bool.false_eq_true, if_false]
  omega
theorem refR_00 (m : Nat) : ((m : Int) % 8) = (rightsN false false m : Nat) := by
  rw [refRights_eq]
  simp only [Bool.false_eq_true, if_false]
  rfl
set_option maxRecDepth 100000 in
theorem refRights_calls (g : Nat) (L : List Acct) (u : ByteArray) (n : Nd) (w : World) (h : RTab w g L) (hn : n.ok) :
    Calls Tryz.prog 134 #[.pointer (some ⟨g, 0, none⟩), .string u, nodeV n] w fun e w' => e = .returned (.int .u8 (rights (decide (u = n.uid)) (member L u n.gid) n.mode)) ∧ Below w.heap.size w w' := by
  obtain ⟨m, hm⟩ := Int.eq_ofNat_of_zero_le hn.1
  obtain ⟨a0, a1, a2, md, a4, a5, a6, a7, a8, a9, a10, a11, a12⟩ := n
  dsimp only at hm
  subst hm
  have HT := Lib.hid (h.below ((Below.refl w.heap.size w).alloc (Nat.le_refl _) (Obj.cells #[.int .u64 a0, .int .u64 a1, .string a2, .int .u32 (m : Int), .string a4, .string a5, .string a6, .int .u32 a7, .int .u32 a8, .int .u32 a9, .int .u64 a10, .int .i64 a11, .int .i64 a12] 25))); clear h
  go_enter Tryz.func134, Tryz.ntmps134
  go_wp2_with (first
    | (go_at_call 110; refine (refMember_calls _ _ u a5 _ HT.out).mono ?_; rintro e w' ⟨rfl, rfl⟩))
  all_goals
    go_ret
    refine ⟨ret_int ?_, (Below.refl _ _).alloc (Nat.le_refl _) _⟩
    rename_i h1 h2
    rw [beq_str] at h1
    unfold rights
    rw [h1, h2, Int.toNat_natCast]
    first | exact refR_11 m | exact refR_10 m | exact refR_01 m | exact refR_00 m

theorem refMay_calls (g : Nat) (L : List Acct) (u : ByteArray) (n : Nd) (r : Int) (w : World) (h : RTab w g L) (hn : n.ok) :
    Calls Tryz.prog 111 #[.pointer (some ⟨g, 0, none⟩), .string u, nodeV n, .int .u8 r] w fun e w' => e = .returned (.bool (mayB (rights (decide (u = n.uid)) (member L u n.gid) n.mode) r)) ∧ Below w.heap.size w w' := by
  have hpre : Below w.heap.size w (w.alloc (Obj.cells #[.int .u64 n.path, .int .u64 n.parent, .string n.name, .int .u32 n.mode, .string n.uid, .string n.gid, .string n.muid, .int .u32 n.atime, .int .u32 n.mtime, .int .u32 n.vers, .int .u64 n.length, .int .i64 n.opens, .int .i64 n.kids] 25)) := (Below.refl _ _).alloc (Nat.le_refl _) _
  have HT := Lib.hid (h.below hpre); clear h
  have HB := Lib.hid hpre; clear hpre
  unfold nodeV
  go_enter Tryz.func111, Tryz.ntmps111
  go_wp2_with fail
  refine (refRights_calls g L u n _ HT.out hn).mono ?_
  rintro e w1 ⟨rfl, hb1⟩
  have HB1 := Lib.hid (HB.out.trans (hb1.mono HB.out.size)); clear hb1
  go_wp2_with fail
  go_ret
  exact ⟨rfl, HB1.out⟩
end Go.Proofs.YtlenlldiimohjaaGreatDoor

namespace Go.Proofs.YtlenlldiimohjaaGreatDoor
open Go.ChangeShapes Go.WideShapes Go.ChangeAt Go.RowKit

def QAt (w0 : World) (g : Nat) (L : List Acct) (w : World) : Prop := RTab w g L ∧ Below w0.heap.size w0 w ∧ w0.heap.size < w.heap.size
theorem QAt.next {w0 w w' : World} {g : Nat} {L : List Acct} (h : QAt w0 g L w) (hb : Below w.heap.size w w') : QAt w0 g L w' := ⟨h.1.below hb, h.2.1.trans (hb.mono h.2.1.size), Nat.lt_of_lt_of_le h.2.2 hb.size⟩
theorem QAt.box {w0 : World} {g : Nat} {L : List Acct} (h : RTab w0 g L) (o : Obj) : QAt w0 g L (w0.alloc o) := ⟨h.below ((Below.refl _ _).alloc (Nat.le_refl _) o), (Below.refl _ _).alloc (Nat.le_refl _) o, by simp⟩

theorem QAt.tab {w0 w : World} {g : Nat} {L : List Acct} (h : QAt w0 g L w) : RTab w g L := h.1
theorem QAt.low {w0 w : World} {g : Nat} {L : List Acct} (h : QAt w0 g L w) : Below w0.heap.size w0 w := h.2.1
theorem QAt.lt {w0 w : World} {g : Nat} {L : List Acct} (h : QAt w0 g L w) : w0.heap.size < w.heap.size := h.2.2

end Go.Proofs.YtlenlldiimohjaaGreatDoor

namespace Go.Proofs.YtlenlldiimohjaaGreatDoor
open Go.ChangeShapes Go.WideShapes Go.ChangeAt Go.RowKit

set_option maxRecDepth 100000 in
theorem tables_calls (text : ByteArray) (w : World) (hr : Ready w) :
    Calls Tryz.prog 10 #[.string text] w fun e w' => (∃ g h, e = .returned (.tuple #[.pointer (some ⟨g, 0, none⟩), .pointer (some ⟨h, 0, none⟩), .bool true]) ∧ PTab w' g (tableL text) ∧ RTab w' h (tableL text)) ∧ Below w.heap.size w w' := by
  have HR := Lib.hid hr; clear hr
  cases hp : parse text with
  | ok L =>
    have HP := Lib.hid hp; clear hp
    go_enter Tryz.func10, Tryz.ntmps10
    go_wp2_with (first
      | (go_at_call 27; refine (parse_calls text _ HR.out).mono ?_; rintro e w1 ⟨hb, hm⟩; rw [HP.out] at hm; obtain ⟨g, hg, rfl, hpt⟩ := hm; have HT := Lib.hid hpt; have HB := Lib.hid hb; clear hg hpt hb)
      | (go_at_call 25; refine (refParse_calls text _).mono ?_; rintro e w2 ⟨hb, hm⟩; rw [HP.out] at hm; obtain ⟨h, hh, rfl, hrt⟩ := hm; replace HT := Lib.hid (HT.out.below hb); have HT2 := Lib.hid hrt; replace HB := Lib.hid (HB.out.trans (hb.mono HB.out.size)); clear hh hrt hb))
    go_ret3
    exact ⟨⟨g, h, rfl, by rw [tableL_ok HP.out]; exact HT.out, by rw [tableL_ok HP.out]; exact HT2.out⟩, HB.out⟩
  | error x =>
    obtain ⟨er, ln⟩ := x
    have HP := Lib.hid hp; clear hp
    go_enter Tryz.func10, Tryz.ntmps10
    go_wp2_with (first
      | (go_at_call_of 27 text; refine (parse_calls text _ HR.out).mono ?_; rintro e w1 ⟨hb, hm⟩; rw [HP.out] at hm; obtain rfl := hm; have HB := Lib.hid hb; clear hb)
      | (go_at_call_of 25 text; refine (refParse_calls text _).mono ?_; rintro e w2 ⟨hb, hm⟩; rw [HP.out] at hm; obtain rfl := hm; replace HB := Lib.hid (HB.out.trans (hb.mono HB.out.size)); clear hb)
      | (go_at_call 27; refine (parse_calls peopleS _ (HR.out.below HB.out (Nat.le_refl _))).mono ?_; rintro e w3 ⟨hb, hm⟩; rw [people_parse] at hm; obtain ⟨g, hg, rfl, hpt⟩ := hm; have HT := Lib.hid hpt; replace HB := Lib.hid (HB.out.trans (hb.mono HB.out.size)); clear hg hpt hb)
      | (go_at_call 25; refine (refParse_calls peopleS _).mono ?_; rintro e w4 ⟨hb, hm⟩; rw [people_parse] at hm; obtain ⟨h, hh, rfl, hrt⟩ := hm; replace HT := Lib.hid (HT.out.below hb); have HT2 := Lib.hid hrt; replace HB := Lib.hid (HB.out.trans (hb.mono HB.out.size)); clear hh hrt hb))
    go_ret3
    exact ⟨⟨g, h, rfl, by rw [tableL_er HP.out]; exact HT.out, by rw [tableL_er HP.out]; exact HT2.out⟩, HB.out⟩
end Go.Proofs.YtlenlldiimohjaaGreatDoor

namespace Go.Proofs.YtlenlldiimohjaaGreatDoor
open Go.ChangeShapes Go.WideShapes Go.ChangeAt Go.RowKit

theorem checkS_two (s : ByteArray) : checkS s = 0 ∨ checkS s = 50 := by
  unfold checkS
  split <;> simp

end Go.Proofs.YtlenlldiimohjaaGreatDoor

namespace Go.Proofs.YtlenlldiimohjaaGreatDoor

def condB (P M : Nat) (d : Bool) (i : Nat) : Bool := P.testBit i && (M.testBit i || ((i == 0 || i == 3 || i == 6) && d))
def sumB (f : Nat → Bool) : Nat → Nat
  | 0 => 0
  | k + 1 => sumB f k + if f k then 2 ^ k else 0
theorem sumB_lt (f : Nat → Bool) : ∀ k, sumB f k < 2 ^ k
  | 0 => by simp [sumB]
  | k + 1 => by
    have := sumB_lt f k
    rw [sumB, Nat.pow_succ]
    split <;> omega
theorem sumB_congr {f g : Nat → Bool} : ∀ k, (∀ i, i < k → f i = g i) → sumB f k = sumB g k
  | 0, _ => rfl
  | k + 1, h => by rw [sumB, sumB, sumB_congr k (fun i hi => h i (by omega)), h k (by omega)]
theorem sumB_self : ∀ x : Fin 512, sumB (fun i => x.val.testBit i) 9 = x.val := by decide +kernel
theorem bits_511 : ∀ i : Fin 9, (511 : Nat).testBit i.val = true ∧ (73 : Nat).testBit i.val = (i.val == 0 || i.val == 3 || i.val == 6) := by decide +kernel
def keepN (M : Nat) (d : Bool) : Nat := if d then (M &&& 511) ||| 73 else M &&& 511
theorem low_made (P M : Nat) (d : Bool) : sumB (condB P M d) 9 = (P &&& 511) &&& keepN M d := by
  have hx : (P &&& 511) &&& keepN M d < 512 := Nat.lt_of_le_of_lt (Nat.le_trans Nat.and_le_left Nat.and_le_right) (by omega)
  refine Eq.trans ?_ (sumB_self ⟨_, hx⟩)
  refine sumB_congr 9 fun i hi => ?_
  obtain ⟨h1, h2⟩ := bits_511 ⟨i, hi⟩
  dsimp only at h1 h2
  unfold condB keepN
  cases d
  · simp [Nat.testBit_and, h1]
  · simp [Nat.testBit_and, Nat.testBit_or, h1, h2]
theorem not_low : ∀ K : Fin 512, 511 &&& (4294967295 - K.val) = 511 - K.val := by decide +kernel
theorem made_nat (P K : Nat) (hP : P < 4294967296) (hK : K < 512) : P &&& (4294967295 - (511 &&& (4294967295 - K))) = P - (P &&& 511) + ((P &&& 511) &&& K) := by
  have h5 : P &&& 511 = P % 512 := Nat.and_two_pow_sub_one_eq_mod P 9
  rw [show 511 &&& (4294967295 - K) = 511 - K from not_low ⟨K, hK⟩, h5]
  have hN : ∃ N, N = 4294967295 - (511 - K) := ⟨_, rfl⟩
  obtain ⟨N, hN⟩ := hN
  rw [← hN]
  have h1 : (P &&& N) % 2 ^ 9 = (P % 2 ^ 9) &&& (N % 2 ^ 9) := Nat.and_mod_two_pow
  have h2 : (P &&& N) / 2 ^ 9 = (P / 2 ^ 9) &&& (N / 2 ^ 9) := Nat.and_div_two_pow
  rw [show N % 2 ^ 9 = K by omega] at h1
  rw [show N / 2 ^ 9 = 2 ^ 23 - 1 by omega, Nat.and_two_pow_sub_one_eq_mod] at h2
  have h3 := Nat.div_add_mod (P &&& N) (2 ^ 9)
  rw [h1, h2, Nat.mod_eq_of_lt (by omega)] at h3
  simp only [Nat.reducePow] at h3
  omega
theorem madeS_nat (P M : Nat) (hP : P < 4294967296) (hM : M < 4294967296) : madeS P M = ((P - (P &&& 511) + sumB (condB P M (bits .and .u32 (P : Int) 2147483648 == 0)) 9 : Nat) : Int) := by
  have e511 : (511 : Int) = ((511 : Nat) : Int) := rfl
  have hm : bits .and .u32 (M : Int) 511 = ((M &&& 511 : Nat) : Int) := u32_and_nat M 511 hM (by omega)
  have hl : M &&& 511 < 512 := Nat.lt_of_le_of_lt Nat.and_le_right (by omega)
  have hk : ∀ d, keepN M d < 512 := by
    intro d
    unfold keepN
    split
    · exact Nat.or_lt_two_pow (n := 9) hl (by omega)
    · exact hl
  have key : ∀ d : Bool, bits .andNot .u32 (P : Int) (bits .andNot .u32 511 ((keepN M d : Nat) : Int)) = ((P - (P &&& 511) + sumB (condB P M d) 9 : Nat) : Int) := by
    intro d
    have h1 := hk d
    rw [e511, u32_andNot_nat 511 _ (by omega) (by omega), u32_andNot_nat P _ hP (Nat.lt_of_le_of_lt Nat.and_le_left (by omega)), made_nat P _ hP h1, low_made]
  unfold madeS
  rw [hm]
  cases hd : (bits .and .u32 (P : Int) 2147483648 == 0) with
  | true =>
    rw [if_pos rfl, ← key true, show (73 : Int) = ((73 : Nat) : Int) from rfl, u32_or_nat _ 73 (by omega) (by omega)]
    rfl
  | false =>
    rw [if_neg (by decide), ← key false]
    rfl
end Go.Proofs.YtlenlldiimohjaaGreatDoor

namespace Go.Proofs.YtlenlldiimohjaaGreatDoor
open Go.ChangeShapes Go.WideShapes Go.ChangeAt Go.RowKit

def condI (P M : Int) (i : Nat) : Bool := (bits .and .u32 P (2 ^ i) != 0) && ((bits .and .u32 M (2 ^ i) != 0) || ((i == 0 || i == 3 || i == 6) && (bits .and .u32 P 2147483648 == 0)))
theorem and_pow_nat (P i : Nat) : P &&& 2 ^ i = if P.testBit i then 2 ^ i else 0 := by
  apply Nat.eq_of_testBit_eq
  intro j
  by_cases h : i = j
  · subst h
    cases hb : P.testBit i <;> simp [Nat.testBit_and, Nat.testBit_two_pow_self, hb]
  · cases hb : P.testBit i <;> simp [Nat.testBit_and, h]
theorem and_pow (P i : Nat) (hP : P < 4294967296) (hi : i < 9) : (bits .and .u32 (P : Int) (2 ^ i) != 0) = P.testBit i := by
  have h2 : 2 ^ i < 512 := Nat.pow_lt_pow_right (by omega) (show i < 9 from hi)
  rw [show ((2 : Int) ^ i) = ((2 ^ i : Nat) : Int) by simp, u32_and_nat P _ hP (by omega), and_pow_nat]
  have hp : 0 < 2 ^ i := Nat.two_pow_pos i
  cases P.testBit i
  · rfl
  · simp only [if_true]
    rw [bne_iff_ne]
    omega
theorem condI_eq (P M i : Nat) (hP : P < 4294967296) (hM : M < 4294967296) (hi : i < 9) : condI P M i = condB P M (bits .and .u32 (P : Int) 2147483648 == 0) i := by
  unfold condI condB
  rw [and_pow P i hP hi, and_pow M i hM hi]
theorem sumI_eq (P M : Nat) (hP : P < 4294967296) (hM : M < 4294967296) : sumB (condI P M) 9 = sumB (condB P M (bits .and .u32 (P : Int) 2147483648 == 0)) 9 := sumB_congr 9 fun i hi => condI_eq P M i hP hM hi
theorem made_val (perm : Nat) (md : Int) (hp : perm < 4294967296) (h0 : 0 ≤ md) (h1 : md < 4294967296) : ((perm : Int) - bits .and .u32 (perm : Int) 511 + ((sumB (condI perm md) 9 : Nat) : Int)) % 4294967296 = madeS perm md := by
  obtain ⟨M, rfl⟩ := Int.eq_ofNat_of_zero_le h0
  have h5 : perm &&& 511 = perm % 512 := Nat.and_two_pow_sub_one_eq_mod perm 9
  rw [madeS_nat perm M hp (by omega), ← sumI_eq perm M hp (by omega), show (511 : Int) = ((511 : Nat) : Int) from rfl, u32_and_nat perm 511 hp (by omega), h5]
  have hs := sumB_lt (condI perm M) 9
  simp only [Nat.reducePow] at hs
  omega
/-- Where it stands. -/
def DAt (w0 : World) (g : Nat) (L : List Acct) (n p : Nd) (taken full : Bool) (w : World) : Prop :=
  RTab w g L ∧ FBlk w w0.heap.size n p taken full ∧ NBlk w (w0.heap.size + 1) Nd.none ∧ Below w0.heap.size w0 w
section
variable {w0 w w' : World} {g : Nat} {L : List Acct} {n p : Nd} {taken full : Bool}
theorem DAt.next (h : DAt w0 g L n p taken full w) (hb : Below w.heap.size w w') : DAt w0 g L n p taken full w' := by
  obtain ⟨h1, h2, h3, h4⟩ := h
  exact ⟨h1.below hb, h2.below hb, h3.below hb, h4.trans (hb.mono h4.size)⟩
theorem DAt.tab (h : DAt w0 g L n p taken full w) : RTab w g L := h.1
theorem DAt.fb (h : DAt w0 g L n p taken full w) : FBlk w w0.heap.size n p taken full := h.2.1
theorem DAt.rb (h : DAt w0 g L n p taken full w) : NBlk w (w0.heap.size + 1) Nd.none := h.2.2.1
theorem DAt.low (h : DAt w0 g L n p taken full w) : Below w0.heap.size w0 w := h.2.2.2
theorem DAt.start (h : RTab w0 g L) (n p : Nd) (taken full : Bool) : DAt w0 g L n p taken full ((w0.alloc (Obj.cells #[.int .u64 n.path, .int .u64 n.parent, .string n.name, .int .u32 n.mode, .string n.uid, .string n.gid, .string n.muid, .int .u32 n.atime, .int .u32 n.mtime, .int .u32 n.vers, .int .u64 n.length, .int .i64 n.opens, .int .i64 n.kids, .int .u64 p.path, .int .u64 p.parent, .string p.name, .int .u32 p.mode, .string p.uid, .string p.gid, .string p.muid, .int .u32 p.atime, .int .u32 p.mtime, .int .u32 p.vers, .int .u64 p.length, .int .i64 p.opens, .int .i64 p.kids, .bool taken, .bool full] 27)).alloc (Obj.cells #[.int .u64 0, .int .u64 0, .string ⟨#[]⟩, .int .u32 0, .string ⟨#[]⟩, .string ⟨#[]⟩, .string ⟨#[]⟩, .int .u32 0, .int .u32 0, .int .u32 0, .int .u64 0, .int .i64 0, .int .i64 0] 25)) := by
  have up : ∀ (W : World) (o : Obj), Below W.heap.size W (W.alloc o) := fun W o => (Below.refl _ _).alloc (Nat.le_refl _) o
  have h1 := NBlk.new (w0.alloc (Obj.cells (factsL n p taken full).toArray 27)) Nd.none
  simp only [World.size_alloc] at h1
  exact ⟨(h.below (up _ _)).below (up _ _), (FBlk.new w0 n p taken full).below (up _ _), h1, ((Below.refl _ _).alloc (Nat.le_refl _) _).alloc (by simp) _⟩
end

end Go.Proofs.YtlenlldiimohjaaGreatDoor

namespace Go.Proofs.YtlenlldiimohjaaGreatDoor

def Uniq (L : List Acct) : Prop := L.Pairwise (fun a b => a.name ≠ b.name)
theorem readLines_uniq : ∀ (l : List ByteArray) (i : Nat) (L : List Acct) (P : List Nat) (L' : List Acct) (P' : List Nat), readLines l i L P = .ok (L', P') → Uniq L → L.length = P.length → Uniq L' ∧ L'.length = P'.length
  | [], i, L, P, L', P', h, hu, hl => by
    simp only [readLines] at h
    injection h with h
    injection h with h1 h2
    subst h1
    subst h2
    exact ⟨hu, hl⟩
  | l :: rest, i, L, P, L', P', h, hu, hl => by
    rw [readLines] at h
    split at h
    · exact readLines_uniq rest _ _ _ _ _ h hu hl
    · split at h
      · cases h
      · rename_i a ha
        split at h
        · cases h
        · rename_i hk
          refine readLines_uniq rest _ _ _ _ _ h ?_ (by simp [hl])
          unfold Uniq
          rw [List.pairwise_append]
          refine ⟨hu, List.pairwise_singleton _ _, fun x hx y hy => ?_⟩
          simp only [List.mem_singleton] at hy
          subst hy
          intro he
          refine hk (.inl ?_)
          unfold known
          rw [List.any_eq_true]
          exact ⟨x, hx, by simpa using he⟩
theorem checkNames_all (all : List Acct) : ∀ (L : List Acct) (P : List Nat), L.length = P.length → checkNames all L P = none → ∀ a ∈ L, knows all a = true
  | [], _, _, _, a, ha => by simp at ha
  | a :: L, [], hl, _, _, _ => by simp at hl
  | a :: L, p :: P, hl, h, b, hb => by
    rw [checkNames] at h
    split at h
    · rename_i hk
      rcases List.mem_cons.1 hb with rfl | hb
      · exact hk
      · exact checkNames_all all L P (by simpa using hl) h b hb
    · cases h
theorem parse_good {s : ByteArray} {L : List Acct} (h : parse s = .ok L) : Uniq L ∧ ∀ a ∈ L, knows L a = true := by
  unfold parse at h
  split at h
  · cases h
  · split at h
    · cases h
    · rename_i L' P hr
      obtain ⟨hu, hl⟩ := readLines_uniq _ _ _ _ _ _ hr List.Pairwise.nil rfl
      split at h
      · cases h
      · rename_i hc
        split at h
        · cases h
        · injection h with h
          subst h
          exact ⟨hu, checkNames_all _ _ _ hl hc⟩
theorem uniq_eq {L : List Acct} (hu : Uniq L) {a b : Acct} (ha : a ∈ L) (hb : b ∈ L) (h : a.name = b.name) : a = b := by
  obtain ⟨i, hi, rfl⟩ := List.mem_iff_getElem.1 ha
  obtain ⟨j, hj, rfl⟩ := List.mem_iff_getElem.1 hb
  unfold Uniq at hu
  rw [List.pairwise_iff_getElem] at hu
  rcases Nat.lt_trichotomy i j with hij | rfl | hij
  · exact absurd h (hu i j hi hj hij)
  · rfl
  · exact absurd h.symm (hu j i hj hi hij)
theorem member_eq {L : List Acct} (hu : Uniq L) (hk : ∀ a ∈ L, knows L a = true) (u g : ByteArray) : member L u g = isMember L u g := by
  unfold member isMember
  cases hf : L.find? (fun a => decide (a.name = g)) with
  | none =>
    rw [List.find?_eq_none] at hf
    symm
    rw [List.any_eq_false]
    intro x hx
    have := hf x hx
    simp_all
  | some a =>
    have hm := List.mem_of_find?_eq_some hf
    have hn : a.name = g := by simpa using List.find?_some hf
    show (known L u && (decide (u = g) || has a.members u)) = _
    rw [Bool.eq_iff_iff, List.any_eq_true]
    constructor
    · intro h
      simp only [Bool.and_eq_true] at h
      exact ⟨a, hm, by simp only [Bool.and_eq_true]; exact ⟨by simpa using hn, h.2⟩⟩
    · rintro ⟨b, hb, h⟩
      simp only [Bool.and_eq_true] at h
      have hb2 : b.name = g := by simpa using h.1
      obtain rfl := uniq_eq hu hm hb (hn.trans hb2.symm)
      simp only [Bool.and_eq_true]
      refine ⟨?_, h.2⟩
      rcases Bool.or_eq_true_iff.1 h.2 with h1 | h1
      · have : u = g := by simpa using h1
        unfold known
        rw [List.any_eq_true]
        exact ⟨a, hm, by simpa [this] using hn⟩
      · have hq := hk a hm
        unfold knows at hq
        simp only [Bool.and_eq_true] at hq
        unfold has at h1
        rw [List.any_eq_true] at h1
        obtain ⟨y, hy, h1⟩ := h1
        have : y = u := by simpa using h1
        subst this
        exact (List.all_eq_true.1 hq.2) y hy
theorem table_member (text u g : ByteArray) : member (tableL text) u g = isMember (tableL text) u g := by
  cases hp : parse text with
  | ok L =>
    rw [tableL_ok hp]
    exact member_eq (parse_good hp).1 (parse_good hp).2 u g
  | error e =>
    rw [tableL_er hp]
    exact member_eq (parse_good people_parse).1 (parse_good people_parse).2 u g
end Go.Proofs.YtlenlldiimohjaaGreatDoor
