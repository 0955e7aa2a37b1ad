/-
  The walks of auth.step, auth.Sum, auth.Ours: they compute stepZ and sumZ. Conditions: the slice's numbers lie in its cells.
-/
import Derived.Test.YtbomphggifdlaaaRows
import Derived.Test.YtbomphggifdlaaaSumLaw
import Derived.WalkKit
import Derived.ProofKit
import Derived.OpenShut
import Derived.Lib.Hide
namespace Go.Proofs.Ytbomphggifdlaaa
open Go.ChangeShapes Go.WideShapes Go.ChangeAt Go.RowKit SumLaw

theorem ret_int {k : IntKind} {a b : Int} (h : a = b) : Ending.returned (.int k a) = .returned (.int k b) := by rw [h]

theorem wrapU (x : Int) : IntKind.u64.wrap x = ((BitVec.ofInt 64 x).toNat : Int) := by
  rw [IntKind.wrap_u64, BitVec.toNat_ofInt]
  have := Int.emod_nonneg x (b := 18446744073709551616) (by decide)
  simp only [Nat.reducePow, Int.cast_ofNat_Int]
  omega

theorem bits_xor_ofInt (x y : Int) : bits .xor .u64 x y = ((BitVec.ofInt 64 x ^^^ BitVec.ofInt 64 y).toNat : Int) := by
  show IntKind.u64.wrap ((BitVec.ofInt 64 x ^^^ BitVec.ofInt 64 y).toNat : Int) = _
  rw [wrapU, BitVec.ofInt_natCast, BitVec.ofNat_toNat, BitVec.setWidth_eq]

theorem se2 (z : BitVec 64) : IntKind.u64.wrap ((z.toNat : Int) * 11800147728694460525) = ((z * 11800147728694460525#64).toNat : Int) := by
  rw [wrapU, BitVec.ofInt_mul, BitVec.ofInt_natCast, BitVec.ofNat_toNat, BitVec.setWidth_eq]
  have : BitVec.ofInt 64 11800147728694460525 = 11800147728694460525#64 := by decide
  rw [this]
theorem se3 (y : BitVec 64) : (y.toNat : Int) / (536870912 : Int) = ((y >>> 29).toNat : Int) := by
  rw [BitVec.toNat_ushiftRight, Nat.shiftRight_eq_div_pow]
  have : (2 : Nat) ^ 29 = 536870912 := by decide
  rw [this]
  omega
theorem xorNat (x y : BitVec 64) : bits .xor .u64 (x.toNat : Int) (y.toNat : Int) = ((x ^^^ y).toNat : Int) := by
  rw [bits_xor_ofInt, BitVec.ofInt_natCast, BitVec.ofInt_natCast, BitVec.ofNat_toNat, BitVec.ofNat_toNat, BitVec.setWidth_eq, BitVec.setWidth_eq]
theorem step_eq (h n : Int) :
    bits BinOp.xor IntKind.u64 (IntKind.u64.wrap (bits BinOp.xor IntKind.u64 h n * 11800147728694460525))
      (IntKind.u64.wrap (bits BinOp.xor IntKind.u64 h n * 11800147728694460525) / 536870912) = stepZ h n := by
  rw [bits_xor_ofInt h n]
  unfold stepZ stepU mixU
  generalize BitVec.ofInt 64 h ^^^ BitVec.ofInt 64 n = z
  rw [se2]
  generalize z * 11800147728694460525#64 = y
  rw [se3, xorNat]

theorem step_calls (h n : Int) (w : World) : Calls Try.prog 12 #[.int .u64 h, .int .u64 n] w fun e w' => e = .returned (.int .u64 (stepZ h n)) ∧ w = w' := by
  go_enter Try.func12, Try.ntmps12
  go_wp2
  go_ret
  exact ⟨ret_int (step_eq h n), rfl⟩

theorem stepZ_wrap (h n : Int) : stepZ h (IntKind.u64.wrap n) = stepZ h n := by
  unfold stepZ
  rw [wrapU, BitVec.ofInt_natCast, BitVec.ofNat_toNat, BitVec.setWidth_eq]

theorem stepZ_byte (h : Int) (c : UInt8) : stepZ h (IntKind.u64.wrap (IntKind.u64.wrap (c.toNat : Int) + 1)) = stepZ h ((c.toNat : Int) + 1) := by
  rw [stepZ_wrap]
  have : IntKind.u64.wrap (c.toNat : Int) = (c.toNat : Int) := by
    rw [wrapU, BitVec.ofInt_natCast, BitVec.toNat_ofNat, Nat.mod_eq_of_lt]
    have := c.toNat_lt
    omega
  rw [this]

theorem take_snoc (s : ByteArray) (k : Nat) (h : k < s.size) : s.data.toList.take (k + 1) = s.data.toList.take k ++ [s[k]] := by
  rw [List.take_succ_eq_append_getElem (by simpa using h)]; rfl

theorem runZ_key (s : ByteArray) (k : Nat) (h : k < s.size) :
    stepZ (runZ seedZ (keyNums (s.data.toList.take k))) (IntKind.u64.wrap (IntKind.u64.wrap (s[k].toNat : Int) + 1)) = runZ seedZ (keyNums (s.data.toList.take (k + 1))) := by
  rw [stepZ_byte, take_snoc s k h]
  simp only [keyNums, runZ, List.map_append, List.foldl_append, List.map_cons, List.map_nil, List.foldl_cons, List.foldl_nil]

theorem runZ_snoc (h : Int) (l : List Int) (k : Nat) (hk : k < l.length) : stepZ (runZ h (l.take k)) (l.getD k 0) = runZ h (l.take (k + 1)) := by
  rw [List.take_succ_eq_append_getElem hk]
  simp only [runZ, List.foldl_append, List.foldl_cons, List.foldl_nil]
  rw [List.getD_eq_getElem?_getD, List.getElem?_eq_getElem hk]
  rfl

theorem sum_end (key : ByteArray) (l : List Int) (k j : Nat) (hk : k = key.size) (hj : l.length ≤ j) :
    stepZ (runZ (stepZ (runZ seedZ (keyNums (key.data.toList.take k))) (key.size : Int)) (l.take j)) (l.length : Int) = sumZ key.data.toList l := by
  have e1 : key.data.toList.take k = key.data.toList := List.take_of_length_le (by subst hk; simp)
  have e2 : l.take j = l := List.take_of_length_le hj
  rw [e1, e2]
  unfold sumZ
  rfl

theorem sum_calls (key : ByteArray) (b off cap : Nat) (l : List Int) (w : World) (hk : key.size ≤ maxLen) (hl : l.length ≤ maxLen)
    (hc : ∀ j, j < l.length → w.cell? ⟨b, off + j, none⟩ = some (.int .u64 (l.getD j 0))) :
    Calls Try.prog 9 #[.string key, .slice (some ⟨b, off, none⟩) l.length cap] w fun e w' => e = .returned (.int .u64 (sumZ key.data.toList l)) ∧ w = w' := by
  unfold maxLen at hk hl
  have HC := Lib.hid hc; clear hc
  go_enter Try.func9, Try.ntmps9
  go_wp2
  go_loop [5, 11] (fun h i => ∃ k : Nat, k ≤ key.size ∧ i = .int .i64 k ∧ h = .int .u64 (runZ seedZ (keyNums (key.data.toList.take k)))) (fun _ i => key.size - (intOf i).toNat)
  case atStart => exact ⟨0, Nat.zero_le _, rfl, rfl⟩
  case round =>
    obtain ⟨k, hk1, rfl, rfl⟩ := hrel
    by_cases hlt : k < key.size
    · go_wp2_with (go_at_call 12; refine (step_calls _ _ _).mono ?_; rintro e w' ⟨rfl, rfl⟩)
      go_round
      case rel => exact ⟨k + 1, by omega, by go_num, by rw [runZ_key key k hlt]⟩
      case measure => simp [intOf]; omega
    · have hkk : k = key.size := by omega
      have HK := Lib.hid hkk; clear hkk
      go_wp2_with (go_at_call 12; refine (step_calls _ _ _).mono ?_; rintro e w' ⟨rfl, rfl⟩)
      go_loop [5, 29] (fun h i => ∃ j : Nat, j ≤ l.length ∧ i = .int .i64 j ∧ h = .int .u64 (runZ (stepZ (runZ seedZ (keyNums (key.data.toList.take k))) key.size) (l.take j))) (fun _ i => l.length - (intOf i).toNat)
      case atStart => exact ⟨0, Nat.zero_le _, rfl, rfl⟩
      case round =>
        obtain ⟨j, hj1, rfl, rfl⟩ := hrel
        by_cases hlj : j < l.length
        · have hcj := HC.out j hlj
          have hrz := runZ_snoc (stepZ (runZ seedZ (keyNums (key.data.toList.take k))) key.size) l j hlj
          generalize l.getD j 0 = x at hcj hrz
          have HR := Lib.hid hrz; clear hrz
          go_wp2_with (go_at_call 12; refine (step_calls _ _ _).mono ?_; rintro e w' ⟨rfl, rfl⟩)
          go_round
          case rel => exact ⟨j + 1, by omega, by go_num, by rw [← HR.out]⟩
          case measure => simp [intOf]; omega
        · go_wp2_with (go_at_call 12; refine (step_calls _ _ _).mono ?_; rintro e w' ⟨rfl, rfl⟩)
          go_ret
          refine ⟨ret_int ?_, rfl⟩
          exact sum_end key l k j HK.out (by omega)

theorem sum_nil (key : ByteArray) (w : World) (hk : key.size ≤ maxLen) :
    Calls Try.prog 9 #[.string key, .slice none 0 0] w fun e w' => e = .returned (.int .u64 (sumZ key.data.toList [])) ∧ w = w' := by
  unfold maxLen at hk
  go_enter Try.func9, Try.ntmps9
  go_wp2
  go_loop [5, 11] (fun h i => ∃ k : Nat, k ≤ key.size ∧ i = .int .i64 k ∧ h = .int .u64 (runZ seedZ (keyNums (key.data.toList.take k)))) (fun _ i => key.size - (intOf i).toNat)
  case atStart => exact ⟨0, Nat.zero_le _, rfl, rfl⟩
  case round =>
    obtain ⟨k, hk1, rfl, rfl⟩ := hrel
    by_cases hlt : k < key.size
    · go_wp2_with (go_at_call 12; refine (step_calls _ _ _).mono ?_; rintro e w' ⟨rfl, rfl⟩)
      go_round
      case rel => exact ⟨k + 1, by omega, by go_num, by rw [runZ_key key k hlt]⟩
      case measure => simp [intOf]; omega
    · have hkk : k = key.size := by omega
      have HK := Lib.hid hkk; clear hkk
      go_wp2_with (go_at_call 12; refine (step_calls _ _ _).mono ?_; rintro e w' ⟨rfl, rfl⟩)
      go_loop [5, 29] (fun h i => h = .int .u64 (stepZ (runZ seedZ (keyNums (key.data.toList.take k))) key.size) ∧ i = .int .i64 0) (fun _ _ => 0)
      case atStart => exact ⟨rfl, rfl⟩
      case round =>
        obtain ⟨rfl, rfl⟩ := hrel
        go_wp2_with (go_at_call 12; refine (step_calls _ _ _).mono ?_; rintro e w' ⟨rfl, rfl⟩)
        go_ret
        refine ⟨ret_int ?_, rfl⟩
        exact sum_end key [] k 0 HK.out (by simp)

theorem cells_new (w : World) (c : List Value) (t : TypeId) (j : Nat) (v : Value) (h : c[j]? = some v) :
    (w.alloc (.cells c.toArray t)).cell? ⟨w.heap.size, 0 + j, none⟩ = some v := by
  rw [World.cell?_alloc_new]
  simpa using h

theorem sumZ_wrap (key : List UInt8) (l : List Int) : sumZ key (l.map IntKind.u64.wrap) = sumZ key l := by
  unfold sumZ
  rw [List.length_map]
  congr 1
  generalize stepZ (runZ seedZ (keyNums key)) key.length = h
  induction l generalizing h with
  | nil => rfl
  | cons x l ih => simp only [List.map_cons, runZ_cons, stepZ_wrap]; exact ih _

theorem ours_calls (n a c : Int) (w : World) (hn : IntKind.u64.wrap n = n) :
    Calls Try.prog 10 #[.int .u64 n, .int .i64 a, .int .i64 c] w fun e w' => e = .returned (.int .u64 (sumZ [] [n, a, c])) ∧ Below w.heap.size w w' := by
  have h1 : sumZ [] [n, IntKind.u64.wrap a, IntKind.u64.wrap c] = sumZ [] [n, a, c] := by
    have := sumZ_wrap [] [n, a, c]
    simpa [hn] using this
  have H1 := Lib.hid h1; clear h1 hn
  have hs := fun key b off cap l w hk hl => sum_calls key b off cap l w hk hl
  go_enter Try.func10, Try.ntmps10
  go_wp2_with fail
  have hc : ∀ j, j < [n, IntKind.u64.wrap a, IntKind.u64.wrap c].length → (w.alloc (Obj.cells #[Value.int IntKind.u64 n, Value.int IntKind.u64 (IntKind.u64.wrap a), Value.int IntKind.u64 (IntKind.u64.wrap c)] 24)).cell? ⟨w.heap.size, 0 + j, none⟩ = some (.int .u64 ([n, IntKind.u64.wrap a, IntKind.u64.wrap c].getD j 0)) := by
    intro j hj
    refine cells_new w [Value.int IntKind.u64 n, Value.int IntKind.u64 (IntKind.u64.wrap a), Value.int IntKind.u64 (IntKind.u64.wrap c)] 24 j _ ?_
    match j, hj with
    | 0, _ => rfl
    | 1, _ => rfl
    | 2, _ => rfl
  refine (sum_calls (ByteArray.mk #[]) w.heap.size 0 3 _ _ (by decide) (by simp [maxLen]) hc).mono ?_
  rintro e w' ⟨rfl, rfl⟩
  clear hc
  go_wp2
  go_ret
  exact ⟨ret_int H1.out, (Below.refl _ _).alloc (Nat.le_refl _) _⟩

end Go.Proofs.Ytbomphggifdlaaa
