
/-
  The lines of layer 7: the program's hello, shown, the document's Hello, Line, Proof. Condition: math/bits' table (TZ).
-/
import Derived.Test.YtlenlldiimohjaaGreatDoorAFmt
import Derived.Test.YtlenlldiimohjaaGreatDoorASum
namespace Go.Proofs.YtlenlldiimohjaaGreatDoor
open Go.RowKit SumLaw

/-- The sum by which one side shows that it has the key. -/
def shN (key user tree : ByteArray) (side ours theirs : Int) : Nat := (sumZ key.data.toList [side, ours, theirs, sumZ user.data.toList [], sumZ tree.data.toList []]).toNat
theorem shN_eq (key user tree : ByteArray) (side ours theirs : Int) : sumZ key.data.toList [side, ours, theirs, sumZ user.data.toList [], sumZ tree.data.toList []] = ((shN key user tree side ours theirs : Nat) : Int) := by
  have h := (sumZ_U key.data.toList [side, ours, theirs, sumZ user.data.toList [], sumZ tree.data.toList []]).1
  unfold shN
  omega
theorem shN_lt (key user tree : ByteArray) (side ours theirs : Int) : shN key user tree side ours theirs < 18446744073709551616 := by
  have h := sumZ_U key.data.toList [side, ours, theirs, sumZ user.data.toList [], sumZ tree.data.toList []]
  unfold shN
  have := h.1
  have := h.2
  omega
def helloS (ours : Nat) : ByteArray := ofL ([118, 101, 114, 103, 101, 114, 49, 32] ++ hexN 16 ours ++ [10])
def shownS (n : Nat) : ByteArray := ofL (hexN 16 n ++ [10])
def lineS (key user tree : ByteArray) (ours : Int) (theirs : Nat) : ByteArray := ofL (hexN 16 theirs ++ hexN 16 (shN key user tree 1 ours theirs) ++ [10])
theorem cells5 (w : World) (a b c d e : Int) (t : TypeId) : ∀ j, j < [a, b, c, d, e].length → (w.alloc (Obj.cells #[.int .u64 a, .int .u64 b, .int .u64 c, .int .u64 d, .int .u64 e] t)).cell? ⟨w.heap.size, 0 + j, none⟩ = some (.int .u64 ([a, b, c, d, e].getD j 0)) := by
  intro j hj
  refine cells_new w [.int .u64 a, .int .u64 b, .int .u64 c, .int .u64 d, .int .u64 e] t j _ ?_
  match j, hj with
  | 0, _ => rfl
  | 1, _ => rfl
  | 2, _ => rfl
  | 3, _ => rfl
  | 4, _ => rfl

theorem sum5_calls (key : ByteArray) (a b c d e : Int) (w : World) (t : TypeId) (hk : key.size ≤ maxLen) :
    Calls Tryz.prog 115 #[.string key, .slice (some ⟨w.heap.size, 0, none⟩) 5 5] (w.alloc (Obj.cells #[.int .u64 a, .int .u64 b, .int .u64 c, .int .u64 d, .int .u64 e] t)) fun r w' => r = .returned (.int .u64 (sumZ key.data.toList [a, b, c, d, e])) ∧ w.alloc (Obj.cells #[.int .u64 a, .int .u64 b, .int .u64 c, .int .u64 d, .int .u64 e] t) = w' :=
  sum_calls key w.heap.size 0 5 [a, b, c, d, e] _ hk (by simp [maxLen]) (cells5 _ _ _ _ _ _ _)
theorem ref_sum5_calls (key : ByteArray) (a b c d e : Int) (w : World) (t : TypeId) (hk : key.size ≤ maxLen) :
    Calls Tryz.prog 113 #[.string key, .slice (some ⟨w.heap.size, 0, none⟩) 5 5] (w.alloc (Obj.cells #[.int .u64 a, .int .u64 b, .int .u64 c, .int .u64 d, .int .u64 e] t)) fun r w' => r = .returned (.int .u64 (sumZ key.data.toList [a, b, c, d, e])) ∧ w.alloc (Obj.cells #[.int .u64 a, .int .u64 b, .int .u64 c, .int .u64 d, .int .u64 e] t) = w' :=
  ref_sum_calls key w.heap.size 0 5 [a, b, c, d, e] _ hk (by simp [maxLen]) (cells5 _ _ _ _ _ _ _)
set_option maxHeartbeats 1600000 in
theorem hello_calls (n : Nat) (hn : n < 18446744073709551616) (w : World) (h : TZ w) :
    Calls Tryz.prog 58 #[.int .u64 (n : Int)] w fun e w' => e = .returned (.string (helloS n)) ∧ Below w.heap.size w w' := by
  have HT := Lib.hid h
  clear h
  obtain ⟨t, ht⟩ : ∃ t, hex16 n = t := ⟨_, rfl⟩
  have hts : t.size = 16 := by rw [← ht]; exact hex16_size n
  have HE := Lib.hid (show ⟨#[118, 101, 114, 103, 101, 114, 49, 32]⟩ ++ t ++ ⟨#[10]⟩ = helloS n from by
    rw [← ht]
    show ofL [118, 101, 114, 103, 101, 114, 49, 32] ++ ofL (hexN 16 n) ++ ofL [10] = _
    rw [bytes_app, bytes_app]
    rfl)
  have HTT := Lib.hid ht
  clear ht
  go_enter Tryz.func58, Tryz.ntmps58
  go_wp2_with (go_at_call 114; (with_reducible refine (digits_calls n hn _ HT.out).mono ?_); rw [HTT.out]; rintro e w' ⟨rfl, hb⟩; have HB := Lib.hid hb; clear hb)
  go_ret
  exact ⟨by rw [HE.out]; rfl, HB.out⟩
set_option maxHeartbeats 1600000 in
theorem refHello_calls (n : Nat) (hn : n < 18446744073709551616) (w : World) :
    Calls Tryz.prog 127 #[.int .u64 (n : Int)] w fun e w' => e = .returned (.string (helloS n)) ∧ Below w.heap.size w w' := by
  obtain ⟨t, ht⟩ : ∃ t, hex16 n = t := ⟨_, rfl⟩
  have hts : t.size = 16 := by rw [← ht]; exact hex16_size n
  have HE := Lib.hid (show ⟨#[118, 101, 114, 103, 101, 114, 49, 32]⟩ ++ t ++ ⟨#[10]⟩ = helloS n from by
    rw [← ht]
    show ofL [118, 101, 114, 103, 101, 114, 49, 32] ++ ofL (hexN 16 n) ++ ofL [10] = _
    rw [bytes_app, bytes_app]
    rfl)
  have HTT := Lib.hid ht
  clear ht
  go_enter Tryz.func127, Tryz.ntmps127
  go_wp2_with (go_at_call 55; (with_reducible refine (refDigits_calls n hn _).mono ?_); rw [HTT.out]; rintro e w' ⟨rfl, hb⟩; have HB := Lib.hid hb; clear hb)
  go_ret
  exact ⟨by rw [HE.out]; rfl, HB.out⟩
theorem shown_eq (n : Nat) : hex16 n ++ ⟨#[10]⟩ = shownS n := by
  show ofL (hexN 16 n) ++ ofL [10] = _
  rw [bytes_app]
  rfl
set_option maxHeartbeats 1600000 in
theorem shown_calls (key user tree : ByteArray) (side ours theirs : Int) (w : World) (h : TZ w) (hk : key.size ≤ maxLen) (hu : user.size ≤ maxLen) (ht : tree.size ≤ maxLen) :
    Calls Tryz.prog 59 #[.string key, .int .u64 side, .int .u64 ours, .int .u64 theirs, .string user, .string tree] w fun e w' => e = .returned (.string (shownS (shN key user tree side ours theirs))) ∧ Below w.heap.size w w' := by
  have HT := Lib.hid h
  clear h
  have HK := Lib.hid hk
  have HU := Lib.hid hu
  have HTR := Lib.hid ht
  clear hk hu ht
  obtain ⟨n, hn⟩ : ∃ n, shN key user tree side ours theirs = n := ⟨_, rfl⟩
  have HS := Lib.hid (show sumZ key.data.toList [side, ours, theirs, sumZ user.data.toList [], sumZ tree.data.toList []] = (n : Int) from by rw [← hn]; exact shN_eq key user tree side ours theirs)
  have HN := Lib.hid (show n < 18446744073709551616 from by rw [← hn]; exact shN_lt key user tree side ours theirs)
  have HNN := Lib.hid hn
  clear hn
  obtain ⟨t, htt⟩ : ∃ t, hex16 n = t := ⟨_, rfl⟩
  have hts : t.size = 16 := by rw [← htt]; exact hex16_size n
  have HE := Lib.hid (show t ++ ⟨#[10]⟩ = shownS n from htt ▸ shown_eq n)
  have HTT := Lib.hid htt
  clear htt
  go_enter Tryz.func59, Tryz.ntmps59
  go_wp2_with (first
    | (go_at_call 115; (with_reducible refine (sum_nil user _ HU.out).mono ?_); rintro e w' ⟨rfl, rfl⟩)
    | (go_at_call 115; (with_reducible refine (sum_nil tree _ HTR.out).mono ?_); rintro e w' ⟨rfl, rfl⟩)
    | (go_at_call 115; (with_reducible refine (sum5_calls key side ours theirs _ _ _ _ HK.out).mono ?_); rw [HS.out]; rintro e w' ⟨rfl, rfl⟩)
    | (go_at_call 114; (with_reducible refine (digits_calls n HN.out _ (HT.out.below ((Below.refl _ _).alloc (Nat.le_refl _) _) (Nat.le_refl _))).mono ?_); rw [HTT.out]; rintro e w' ⟨rfl, hb⟩; have HB := Lib.hid (((Below.refl w.heap.size w).alloc (Nat.le_refl _) _).trans (hb.mono (by simp))); clear hb))
  go_ret
  exact ⟨by rw [HE.out, HNN.out]; rfl, HB.out⟩
set_option maxHeartbeats 1600000 in
theorem refSum_calls (key user tree : ByteArray) (side ours theirs : Int) (w : World) (hk : key.size ≤ maxLen) (hu : user.size ≤ maxLen) (ht : tree.size ≤ maxLen) :
    Calls Tryz.prog 56 #[.string key, .string user, .string tree, .int .u64 side, .int .u64 ours, .int .u64 theirs] w fun e w' => e = .returned (.int .u64 ((shN key user tree side ours theirs : Nat) : Int)) ∧ Below w.heap.size w w' := by
  have HK := Lib.hid hk
  have HU := Lib.hid hu
  have HTR := Lib.hid ht
  clear hk hu ht
  have HS := Lib.hid (shN_eq key user tree side ours theirs)
  go_enter Tryz.func56, Tryz.ntmps56
  go_wp2_with (first
    | (go_at_call 113; (with_reducible refine (ref_sum_nil user _ HU.out).mono ?_); rintro e w' ⟨rfl, rfl⟩)
    | (go_at_call 113; (with_reducible refine (ref_sum_nil tree _ HTR.out).mono ?_); rintro e w' ⟨rfl, rfl⟩)
    | (go_at_call 113; (with_reducible refine (ref_sum5_calls key side ours theirs _ _ _ _ HK.out).mono ?_); rw [HS.out]; rintro e w' ⟨rfl, rfl⟩))
  go_ret
  exact ⟨rfl, (Below.refl _ _).alloc (Nat.le_refl _) _⟩
theorem line_eq (key user tree : ByteArray) (ours : Int) (theirs : Nat) : hex16 theirs ++ hex16 (shN key user tree 1 ours theirs) ++ ⟨#[10]⟩ = lineS key user tree ours theirs := by
  show ofL (hexN 16 theirs) ++ ofL (hexN 16 _) ++ ofL [10] = _
  rw [bytes_app, bytes_app]
  rfl
set_option maxHeartbeats 1600000 in
theorem authLine_calls (key user tree : ByteArray) (ours : Int) (theirs : Nat) (h64 : theirs < 18446744073709551616) (w : World) (hk : key.size ≤ maxLen) (hu : user.size ≤ maxLen) (ht : tree.size ≤ maxLen) :
    Calls Tryz.prog 15 #[.string key, .string user, .string tree, .int .u64 ours, .int .u64 (theirs : Int)] w fun e w' => e = .returned (.string (lineS key user tree ours theirs)) ∧ Below w.heap.size w w' := by
  have HK := Lib.hid hk
  have HU := Lib.hid hu
  have HTR := Lib.hid ht
  have H64 := Lib.hid h64
  clear hk hu ht
  have HLE := Lib.hid (line_eq key user tree ours theirs)
  have HN := Lib.hid (shN_lt key user tree 1 ours theirs)
  obtain ⟨n, hn⟩ : ∃ n, shN key user tree 1 ours theirs = n := ⟨_, rfl⟩
  rw [hn] at HN HLE
  have HNN := Lib.hid hn
  clear hn
  obtain ⟨t, htt⟩ : ∃ t, hex16 n = t := ⟨_, rfl⟩
  have hts : t.size = 16 := by rw [← htt]; exact hex16_size n
  obtain ⟨u, huu⟩ : ∃ t, hex16 theirs = t := ⟨_, rfl⟩
  have hus : u.size = 16 := by rw [← huu]; exact hex16_size theirs
  rw [htt, huu] at HLE
  have HTT := Lib.hid htt
  have HUU := Lib.hid huu
  have HB := Lib.hid (Below.refl w.heap.size w)
  clear htt huu
  go_enter Tryz.func15, Tryz.ntmps15
  go_wp2_with (first
    | (go_at_call 55; (with_reducible refine (refDigits_calls theirs H64.out _).mono ?_); rw [HUU.out]; rintro e w1 ⟨rfl, hb⟩; replace HB := Lib.hid (HB.out.trans (hb.mono HB.out.size)); clear hb)
    | (go_at_call 56; (with_reducible refine (refSum_calls key user tree 1 ours theirs _ HK.out HU.out HTR.out).mono ?_); rw [HNN.out]; rintro e w2 ⟨rfl, hb⟩; replace HB := Lib.hid (HB.out.trans (hb.mono HB.out.size)); clear hb)
    | (go_at_call 55; (with_reducible refine (refDigits_calls n HN.out _).mono ?_); rw [HTT.out]; rintro e w3 ⟨rfl, hb⟩; replace HB := Lib.hid (HB.out.trans (hb.mono HB.out.size)); clear hb))
  go_ret
  exact ⟨by rw [HLE.out]; rfl, HB.out⟩
set_option maxHeartbeats 1600000 in
theorem refProof_calls (key user tree : ByteArray) (ours theirs : Int) (w : World) (hk : key.size ≤ maxLen) (hu : user.size ≤ maxLen) (ht : tree.size ≤ maxLen) :
    Calls Tryz.prog 128 #[.string key, .string user, .string tree, .int .u64 ours, .int .u64 theirs] w fun e w' => e = .returned (.string (shownS (shN key user tree 2 ours theirs))) ∧ Below w.heap.size w w' := by
  have HK := Lib.hid hk
  have HU := Lib.hid hu
  have HTR := Lib.hid ht
  clear hk hu ht
  have HN := Lib.hid (shN_lt key user tree 2 ours theirs)
  obtain ⟨n, hn⟩ : ∃ n, shN key user tree 2 ours theirs = n := ⟨_, rfl⟩
  rw [hn] at HN
  have HNN := Lib.hid hn
  have HE := Lib.hid (shown_eq n)
  clear hn
  obtain ⟨t, htt⟩ : ∃ t, hex16 n = t := ⟨_, rfl⟩
  have hts : t.size = 16 := by rw [← htt]; exact hex16_size n
  rw [htt] at HE
  have HTT := Lib.hid htt
  have HB := Lib.hid (Below.refl w.heap.size w)
  clear htt
  go_enter Tryz.func128, Tryz.ntmps128
  go_wp2_with (first
    | (go_at_call 56; (with_reducible refine (refSum_calls key user tree 2 ours theirs _ HK.out HU.out HTR.out).mono ?_); rw [HNN.out]; rintro e w2 ⟨rfl, hb⟩; replace HB := Lib.hid (HB.out.trans (hb.mono HB.out.size)); clear hb)
    | (go_at_call 55; (with_reducible refine (refDigits_calls n HN.out _).mono ?_); rw [HTT.out]; rintro e w3 ⟨rfl, hb⟩; replace HB := Lib.hid (HB.out.trans (hb.mono HB.out.size)); clear hb))
  go_ret
  exact ⟨by rw [HE.out, HNN.out]; rfl, HB.out⟩
end Go.Proofs.YtlenlldiimohjaaGreatDoor
