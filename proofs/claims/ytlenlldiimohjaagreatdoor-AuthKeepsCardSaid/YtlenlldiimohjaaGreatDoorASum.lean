
/-
  The mixing sum of layer 7, the program's and the document's: they compute sumZ. Conditions: the slice's numbers lie in its cells.
-/
import Derived.Test.YtlenlldiimohjaaGreatDoorProg
import Derived.Test.YtlenlldiimohjaaGreatDoorB0
import Derived.WalkKit
import Derived.ProofKit
import Derived.OpenShut
import Derived.Lib.Hide
namespace Go.Proofs.YtlenlldiimohjaaGreatDoor.SumLaw

def mixU (h : BitVec 64) : BitVec 64 := h * 11800147728694460525#64 ^^^ (h * 11800147728694460525#64) >>> 29
def stepU (h n : BitVec 64) : BitVec 64 := mixU (h ^^^ n)

theorem xs_inj (x y : BitVec 64) (h : x ^^^ x >>> 29 = y ^^^ y >>> 29) : x = y := by
  have back (x : BitVec 64) : (x ^^^ x >>> 29) ^^^ (x ^^^ x >>> 29) >>> 29 ^^^ (x ^^^ x >>> 29) >>> 58 = x := by
    have z : x >>> 87 = 0#64 := by
      apply BitVec.eq_of_toNat_eq
      rw [BitVec.toNat_ushiftRight, Nat.shiftRight_eq_div_pow]
      have := x.isLt
      simp
      omega
    have e1 : x >>> 29 >>> 29 = x >>> 58 := (BitVec.shiftRight_add x 29 29).symm
    have e2 : x >>> 29 >>> 58 = x >>> 87 := (BitVec.shiftRight_add x 29 58).symm
    rw [BitVec.ushiftRight_xor_distrib, BitVec.ushiftRight_xor_distrib, e1, e2, z]
    have c1 : x ^^^ x >>> 29 ^^^ (x >>> 29 ^^^ x >>> 58) = x ^^^ x >>> 58 := by
      rw [BitVec.xor_assoc, ← BitVec.xor_assoc (x >>> 29), BitVec.xor_self, BitVec.zero_xor]
    rw [c1, BitVec.xor_zero, BitVec.xor_assoc, BitVec.xor_self, BitVec.xor_zero]
  rw [← back x, ← back y, h]

theorem mul_inj (x y : BitVec 64) (h : x * 11800147728694460525#64 = y * 11800147728694460525#64) : x = y := by
  have inv : 11800147728694460525#64 * 13132758862238501221#64 = 1#64 := by decide
  have := congrArg (· * 13132758862238501221#64) h
  simpa only [BitVec.mul_assoc, inv, BitVec.mul_one] using this

theorem mix_inj {x y : BitVec 64} (h : mixU x = mixU y) : x = y := mul_inj _ _ (xs_inj _ _ h)

theorem xor_inj_left {h n m : BitVec 64} (e : h ^^^ n = h ^^^ m) : n = m := by
  have := congrArg (h ^^^ ·) e
  simpa only [← BitVec.xor_assoc, BitVec.xor_self, BitVec.zero_xor] using this

theorem step_inj_n {h n m : BitVec 64} (e : stepU h n = stepU h m) : n = m := xor_inj_left (mix_inj e)
theorem step_inj_h {h g n : BitVec 64} (e : stepU h n = stepU g n) : h = g := by
  have := mix_inj e
  rw [BitVec.xor_comm h, BitVec.xor_comm g] at this
  exact xor_inj_left this

/-! ### over whole numbers -/
def stepZ (h n : Int) : Int := ((stepU (BitVec.ofInt 64 h) (BitVec.ofInt 64 n)).toNat : Int)

def U (x : Int) : Prop := 0 ≤ x ∧ x < 18446744073709551616

theorem stepZ_U (h n : Int) : U (stepZ h n) := by
  have := (stepU (BitVec.ofInt 64 h) (BitVec.ofInt 64 n)).isLt
  constructor <;> unfold stepZ <;> omega

theorem ofInt_inj {a b : Int} (ha : U a) (hb : U b) (h : BitVec.ofInt 64 a = BitVec.ofInt 64 b) : a = b := by
  have := congrArg BitVec.toNat h
  rw [BitVec.toNat_ofInt, BitVec.toNat_ofInt] at this
  have e (x : Int) (hx : U x) : x % ((2 : Nat) ^ 64 : Nat) = x := Int.emod_eq_of_lt hx.1 (by have := hx.2; omega)
  rw [e a ha, e b hb] at this
  have := ha.1; have := hb.1; omega

theorem stepZ_eq {h n g m : Int} (e : stepZ h n = stepZ g m) : stepU (BitVec.ofInt 64 h) (BitVec.ofInt 64 n) = stepU (BitVec.ofInt 64 g) (BitVec.ofInt 64 m) := by
  apply BitVec.eq_of_toNat_eq
  unfold stepZ at e
  omega

theorem stepZ_inj_n {h n m : Int} (hn : U n) (hm : U m) (e : stepZ h n = stepZ h m) : n = m := ofInt_inj hn hm (step_inj_n (stepZ_eq e))
theorem stepZ_inj_h {h g n : Int} (hh : U h) (hg : U g) (e : stepZ h n = stepZ g n) : h = g := ofInt_inj hh hg (step_inj_h (stepZ_eq e))

def runZ (h : Int) (l : List Int) : Int := l.foldl stepZ h

theorem runZ_U {h : Int} (hh : U h) : ∀ l, U (runZ h l)
  | [] => hh
  | x :: l => runZ_U (h := stepZ h x) (stepZ_U h x) l

theorem runZ_inj_h : ∀ (l : List Int) {h g : Int}, U h → U g → runZ h l = runZ g l → h = g
  | [], _, _, _, _, e => e
  | x :: l, h, g, hh, hg, e => stepZ_inj_h hh hg (runZ_inj_h l (stepZ_U h x) (stepZ_U g x) e)

theorem runZ_cons (h x : Int) (l : List Int) : runZ h (x :: l) = runZ (stepZ h x) l := rfl

/-- One place changed: the runs part just if the numbers do. -/
theorem runZ_set (l : List Int) : ∀ (i : Nat) (n : Int) {h : Int}, U h → (∀ x ∈ l, U x) → U n → (hi : i < l.length) → runZ h l = runZ h (l.set i n) → l[i] = n := by
  induction l with
  | nil => intro i n h _ _ _ hi; exact absurd hi (Nat.not_lt_zero _)
  | cons x l ih =>
    intro i n h hh hl hn hi e
    cases i with
    | zero =>
      rw [List.set_cons_zero, runZ_cons, runZ_cons] at e
      have e2 := runZ_inj_h l (stepZ_U h x) (stepZ_U h n) e
      rw [List.getElem_cons_zero]
      exact stepZ_inj_n (hl x List.mem_cons_self) hn e2
    | succ i =>
      rw [List.set_cons_succ, runZ_cons, runZ_cons] at e
      rw [List.getElem_cons_succ]
      exact ih i n (stepZ_U h x) (fun y hy => hl y (List.mem_cons_of_mem _ hy)) hn (Nat.lt_of_succ_lt_succ hi) e

def seedZ : Int := 7880330927811272263
theorem seedZ_U : U seedZ := by unfold seedZ U; omega

def keyNums (key : List UInt8) : List Int := key.map fun c => (c.toNat : Int) + 1

def sumZ (key : List UInt8) (l : List Int) : Int :=
  stepZ (runZ (stepZ (runZ seedZ (keyNums key)) key.length) l) l.length

theorem sumZ_U (key : List UInt8) (l : List Int) : U (sumZ key l) := stepZ_U _ _

theorem keyNums_U (key : List UInt8) : ∀ x ∈ keyNums key, U x := by
  intro x hx
  simp only [keyNums, List.mem_map] at hx
  obtain ⟨c, -, rfl⟩ := hx
  have := c.toNat_lt
  unfold U; omega

theorem sumZ_set (key : List UInt8) (l : List Int) (i : Nat) (n : Int) (hl : ∀ x ∈ l, U x) (hn : U n) (hi : i < l.length) :
    sumZ key l = sumZ key (l.set i n) ↔ l[i] = n := by
  constructor
  · intro e
    unfold sumZ at e
    rw [List.length_set] at e
    have e' := stepZ_inj_h (runZ_U (stepZ_U _ _) _) (runZ_U (stepZ_U _ _) _) e
    exact runZ_set l i n (stepZ_U _ _) hl hn hi e'
  · intro e
    subst e
    rw [List.set_getElem_self]

theorem sumZ_key (key : List UInt8) (l : List Int) (j : Nat) (k : UInt8) (hj : j < key.length) :
    sumZ key l = sumZ (key.set j k) l ↔ key[j] = k := by
  constructor
  · intro e
    unfold sumZ at e
    rw [List.length_set] at e
    have e1 := stepZ_inj_h (runZ_U (stepZ_U _ _) _) (runZ_U (stepZ_U _ _) _) e
    have e2 := runZ_inj_h l (stepZ_U _ _) (stepZ_U _ _) e1
    have e3 := stepZ_inj_h (runZ_U seedZ_U _) (runZ_U seedZ_U _) e2
    have hset : keyNums (key.set j k) = (keyNums key).set j ((k.toNat : Int) + 1) := by
      unfold keyNums; rw [List.map_set]
    rw [hset] at e3
    have hj' : j < (keyNums key).length := by simpa [keyNums] using hj
    have := runZ_set (keyNums key) j _ seedZ_U (keyNums_U key) (by have := k.toNat_lt; unfold U; omega) hj' e3
    simp only [keyNums, List.getElem_map] at this
    apply UInt8.toNat_inj.1
    omega
  · intro e
    subst e
    rw [List.set_getElem_self]

theorem sumZ_two (key : List UInt8) (l : List Int) (i : Nat) (n m : Int) (hl : ∀ x ∈ l, U x) (hn : U n) (hm : U m) (hi : i < l.length) (hne : n ≠ m) :
    sumZ key (l.set i n) ≠ sumZ key (l.set i m) := by
  intro e
  have hl' : ∀ x ∈ l.set i n, U x := fun x hx => by
    rcases List.mem_or_eq_of_mem_set hx with h | h
    · exact hl x h
    · exact h ▸ hn
  have := (sumZ_set key (l.set i n) i m hl' hm (by simpa using hi)).1 (by rw [List.set_set]; exact e)
  simp at this
  exact hne this

end Go.Proofs.YtlenlldiimohjaaGreatDoor.SumLaw
namespace Go.Proofs.YtlenlldiimohjaaGreatDoor
open Go.ChangeShapes Go.WideShapes Go.ChangeAt Go.RowKit SumLaw

theorem wrapU (x : Int) : IntKind.u64.wrap x = ((BitVec.ofInt 64 x).toNat : Int) := by
  rw [IntKind.wrap_u64, BitVec.toNat_ofInt]
  have := Int.emod_nonneg x (b := 18446744073709551616) (by decide)
  simp only [Nat.reducePow, Int.cast_ofNat_Int]
  omega

theorem bits_xor_ofInt (x y : Int) : bits .xor .u64 x y = ((BitVec.ofInt 64 x ^^^ BitVec.ofInt 64 y).toNat : Int) := by
  show IntKind.u64.wrap ((BitVec.ofInt 64 x ^^^ BitVec.ofInt 64 y).toNat : Int) = _
  rw [wrapU, BitVec.ofInt_natCast, BitVec.ofNat_toNat, BitVec.setWidth_eq]

theorem se2 (z : BitVec 64) : IntKind.u64.wrap ((z.toNat : Int) * 11800147728694460525) = ((z * 11800147728694460525#64).toNat : Int) := by
  rw [wrapU, BitVec.ofInt_mul, BitVec.ofInt_natCast, BitVec.ofNat_toNat, BitVec.setWidth_eq]
  have : BitVec.ofInt 64 11800147728694460525 = 11800147728694460525#64 := by decide
  rw [this]
theorem se3 (y : BitVec 64) : (y.toNat : Int) / (536870912 : Int) = ((y >>> 29).toNat : Int) := by
  rw [BitVec.toNat_ushiftRight, Nat.shiftRight_eq_div_pow]
  have : (2 : Nat) ^ 29 = 536870912 := by decide
  rw [this]
  omega
theorem xorNat (x y : BitVec 64) : bits .xor .u64 (x.toNat : Int) (y.toNat : Int) = ((x ^^^ y).toNat : Int) := by
  rw [bits_xor_ofInt, BitVec.ofInt_natCast, BitVec.ofInt_natCast, BitVec.ofNat_toNat, BitVec.ofNat_toNat, BitVec.setWidth_eq, BitVec.setWidth_eq]
theorem step_eq (h n : Int) :
    bits BinOp.xor IntKind.u64 (IntKind.u64.wrap (bits BinOp.xor IntKind.u64 h n * 11800147728694460525))
      (IntKind.u64.wrap (bits BinOp.xor IntKind.u64 h n * 11800147728694460525) / 536870912) = stepZ h n := by
  rw [bits_xor_ofInt h n]
  unfold stepZ stepU mixU
  generalize BitVec.ofInt 64 h ^^^ BitVec.ofInt 64 n = z
  rw [se2]
  generalize z * 11800147728694460525#64 = y
  rw [se3, xorNat]

theorem step_calls (h n : Int) (w : World) : Calls Tryz.prog 139 #[.int .u64 h, .int .u64 n] w fun e w' => e = .returned (.int .u64 (stepZ h n)) ∧ w = w' := by
  go_enter Tryz.func139, Tryz.ntmps139
  go_wp2
  go_ret
  exact ⟨ret_int (step_eq h n), rfl⟩

theorem stepZ_wrap (h n : Int) : stepZ h (IntKind.u64.wrap n) = stepZ h n := by
  unfold stepZ
  rw [wrapU, BitVec.ofInt_natCast, BitVec.ofNat_toNat, BitVec.setWidth_eq]

theorem stepZ_byte (h : Int) (c : UInt8) : stepZ h (IntKind.u64.wrap (IntKind.u64.wrap (c.toNat : Int) + 1)) = stepZ h ((c.toNat : Int) + 1) := by
  rw [stepZ_wrap]
  have : IntKind.u64.wrap (c.toNat : Int) = (c.toNat : Int) := by
    rw [wrapU, BitVec.ofInt_natCast, BitVec.toNat_ofNat, Nat.mod_eq_of_lt]
    have := c.toNat_lt
    omega
  rw [this]

theorem take_snoc (s : ByteArray) (k : Nat) (h : k < s.size) : s.data.toList.take (k + 1) = s.data.toList.take k ++ [s[k]] := by
  rw [List.take_succ_eq_append_getElem (by simpa using h)]; rfl

theorem runZ_key (s : ByteArray) (k : Nat) (h : k < s.size) :
    stepZ (runZ seedZ (keyNums (s.data.toList.take k))) (IntKind.u64.wrap (IntKind.u64.wrap (s[k].toNat : Int) + 1)) = runZ seedZ (keyNums (s.data.toList.take (k + 1))) := by
  rw [stepZ_byte, take_snoc s k h]
  simp only [keyNums, runZ, List.map_append, List.foldl_append, List.map_cons, List.map_nil, List.foldl_cons, List.foldl_nil]

theorem runZ_snoc (h : Int) (l : List Int) (k : Nat) (hk : k < l.length) : stepZ (runZ h (l.take k)) (l.getD k 0) = runZ h (l.take (k + 1)) := by
  rw [List.take_succ_eq_append_getElem hk]
  simp only [runZ, List.foldl_append, List.foldl_cons, List.foldl_nil]
  rw [List.getD_eq_getElem?_getD, List.getElem?_eq_getElem hk]
  rfl

theorem sum_end (key : ByteArray) (l : List Int) (k j : Nat) (hk : k = key.size) (hj : l.length ≤ j) :
    stepZ (runZ (stepZ (runZ seedZ (keyNums (key.data.toList.take k))) (key.size : Int)) (l.take j)) (l.length : Int) = sumZ key.data.toList l := by
  have e1 : key.data.toList.take k = key.data.toList := List.take_of_length_le (by subst hk; simp)
  have e2 : l.take j = l := List.take_of_length_le hj
  rw [e1, e2]
  unfold sumZ
  rfl

theorem sum_calls (key : ByteArray) (b off cap : Nat) (l : List Int) (w : World) (hk : key.size ≤ maxLen) (hl : l.length ≤ maxLen)
    (hc : ∀ j, j < l.length → w.cell? ⟨b, off + j, none⟩ = some (.int .u64 (l.getD j 0))) :
    Calls Tryz.prog 115 #[.string key, .slice (some ⟨b, off, none⟩) l.length cap] w fun e w' => e = .returned (.int .u64 (sumZ key.data.toList l)) ∧ w = w' := by
  unfold maxLen at hk hl
  have HC := Lib.hid hc; clear hc
  go_enter Tryz.func115, Tryz.ntmps115
  go_wp2
  go_loop [5, 11] (fun h i => ∃ k : Nat, k ≤ key.size ∧ i = .int .i64 k ∧ h = .int .u64 (runZ seedZ (keyNums (key.data.toList.take k)))) (fun _ i => key.size - (intOf i).toNat)
  case atStart => exact ⟨0, Nat.zero_le _, rfl, rfl⟩
  case round =>
    obtain ⟨k, hk1, rfl, rfl⟩ := hrel
    by_cases hlt : k < key.size
    · go_wp2_with (go_at_call 139; refine (step_calls _ _ _).mono ?_; rintro e w' ⟨rfl, rfl⟩)
      go_round
      case rel => exact ⟨k + 1, by omega, by go_num, by rw [runZ_key key k hlt]⟩
      case measure => simp [intOf]; omega
    · have hkk : k = key.size := by omega
      have HK := Lib.hid hkk; clear hkk
      go_wp2_with (go_at_call 139; refine (step_calls _ _ _).mono ?_; rintro e w' ⟨rfl, rfl⟩)
      go_loop [5, 29] (fun h i => ∃ j : Nat, j ≤ l.length ∧ i = .int .i64 j ∧ h = .int .u64 (runZ (stepZ (runZ seedZ (keyNums (key.data.toList.take k))) key.size) (l.take j))) (fun _ i => l.length - (intOf i).toNat)
      case atStart => exact ⟨0, Nat.zero_le _, rfl, rfl⟩
      case round =>
        obtain ⟨j, hj1, rfl, rfl⟩ := hrel
        by_cases hlj : j < l.length
        · have hcj := HC.out j hlj
          have hrz := runZ_snoc (stepZ (runZ seedZ (keyNums (key.data.toList.take k))) key.size) l j hlj
          generalize l.getD j 0 = x at hcj hrz
          have HR := Lib.hid hrz; clear hrz
          go_wp2_with (go_at_call 139; refine (step_calls _ _ _).mono ?_; rintro e w' ⟨rfl, rfl⟩)
          go_round
          case rel => exact ⟨j + 1, by omega, by go_num, by rw [← HR.out]⟩
          case measure => simp [intOf]; omega
        · go_wp2_with (go_at_call 139; refine (step_calls _ _ _).mono ?_; rintro e w' ⟨rfl, rfl⟩)
          go_ret
          refine ⟨ret_int ?_, rfl⟩
          exact sum_end key l k j HK.out (by omega)

theorem sum_nil (key : ByteArray) (w : World) (hk : key.size ≤ maxLen) :
    Calls Tryz.prog 115 #[.string key, .slice none 0 0] w fun e w' => e = .returned (.int .u64 (sumZ key.data.toList [])) ∧ w = w' := by
  unfold maxLen at hk
  go_enter Tryz.func115, Tryz.ntmps115
  go_wp2
  go_loop [5, 11] (fun h i => ∃ k : Nat, k ≤ key.size ∧ i = .int .i64 k ∧ h = .int .u64 (runZ seedZ (keyNums (key.data.toList.take k)))) (fun _ i => key.size - (intOf i).toNat)
  case atStart => exact ⟨0, Nat.zero_le _, rfl, rfl⟩
  case round =>
    obtain ⟨k, hk1, rfl, rfl⟩ := hrel
    by_cases hlt : k < key.size
    · go_wp2_with (go_at_call 139; refine (step_calls _ _ _).mono ?_; rintro e w' ⟨rfl, rfl⟩)
      go_round
      case rel => exact ⟨k + 1, by omega, by go_num, by rw [runZ_key key k hlt]⟩
      case measure => simp [intOf]; omega
    · have hkk : k = key.size := by omega
      have HK := Lib.hid hkk; clear hkk
      go_wp2_with (go_at_call 139; refine (step_calls _ _ _).mono ?_; rintro e w' ⟨rfl, rfl⟩)
      go_loop [5, 29] (fun h i => h = .int .u64 (stepZ (runZ seedZ (keyNums (key.data.toList.take k))) key.size) ∧ i = .int .i64 0) (fun _ _ => 0)
      case atStart => exact ⟨rfl, rfl⟩
      case round =>
        obtain ⟨rfl, rfl⟩ := hrel
        go_wp2_with (go_at_call 139; refine (step_calls _ _ _).mono ?_; rintro e w' ⟨rfl, rfl⟩)
        go_ret
        refine ⟨ret_int ?_, rfl⟩
        exact sum_end key [] k 0 HK.out (by simp)

theorem cells_new (w : World) (c : List Value) (t : TypeId) (j : Nat) (v : Value) (h : c[j]? = some v) :
    (w.alloc (.cells c.toArray t)).cell? ⟨w.heap.size, 0 + j, none⟩ = some v := by
  rw [World.cell?_alloc_new]
  simpa using h

theorem sumZ_wrap (key : List UInt8) (l : List Int) : sumZ key (l.map IntKind.u64.wrap) = sumZ key l := by
  unfold sumZ
  rw [List.length_map]
  congr 1
  generalize stepZ (runZ seedZ (keyNums key)) key.length = h
  induction l generalizing h with
  | nil => rfl
  | cons x l ih => simp only [List.map_cons, runZ_cons, stepZ_wrap]; exact ih _

theorem ours_calls (n a c : Int) (w : World) (hn : IntKind.u64.wrap n = n) :
    Calls Tryz.prog 83 #[.int .u64 n, .int .i64 a, .int .i64 c] w fun e w' => e = .returned (.int .u64 (sumZ [] [n, a, c])) ∧ Below w.heap.size w w' := by
  have h1 : sumZ [] [n, IntKind.u64.wrap a, IntKind.u64.wrap c] = sumZ [] [n, a, c] := by
    have := sumZ_wrap [] [n, a, c]
    simpa [hn] using this
  have H1 := Lib.hid h1; clear h1 hn
  have hs := fun key b off cap l w hk hl => sum_calls key b off cap l w hk hl
  go_enter Tryz.func83, Tryz.ntmps83
  go_wp2_with fail
  have hc : ∀ j, j < [n, IntKind.u64.wrap a, IntKind.u64.wrap c].length → (w.alloc (Obj.cells #[Value.int IntKind.u64 n, Value.int IntKind.u64 (IntKind.u64.wrap a), Value.int IntKind.u64 (IntKind.u64.wrap c)] 22)).cell? ⟨w.heap.size, 0 + j, none⟩ = some (.int .u64 ([n, IntKind.u64.wrap a, IntKind.u64.wrap c].getD j 0)) := by
    intro j hj
    refine cells_new w [Value.int IntKind.u64 n, Value.int IntKind.u64 (IntKind.u64.wrap a), Value.int IntKind.u64 (IntKind.u64.wrap c)] 22 j _ ?_
    match j, hj with
    | 0, _ => rfl
    | 1, _ => rfl
    | 2, _ => rfl
  refine (sum_calls (ByteArray.mk #[]) w.heap.size 0 3 _ _ (by decide) (by simp [maxLen]) hc).mono ?_
  rintro e w' ⟨rfl, rfl⟩
  clear hc
  go_wp2
  go_ret
  exact ⟨ret_int H1.out, (Below.refl _ _).alloc (Nat.le_refl _) _⟩

theorem ref_step_calls (h n : Int) (w : World) : Calls Tryz.prog 136 #[.int .u64 h, .int .u64 n] w fun e w' => e = .returned (.int .u64 (stepZ h n)) ∧ w = w' := by
  go_enter Tryz.func136, Tryz.ntmps136
  go_wp2
  go_ret
  exact ⟨ret_int (step_eq h n), rfl⟩

theorem ref_sum_calls (key : ByteArray) (b off cap : Nat) (l : List Int) (w : World) (hk : key.size ≤ maxLen) (hl : l.length ≤ maxLen)
    (hc : ∀ j, j < l.length → w.cell? ⟨b, off + j, none⟩ = some (.int .u64 (l.getD j 0))) :
    Calls Tryz.prog 113 #[.string key, .slice (some ⟨b, off, none⟩) l.length cap] w fun e w' => e = .returned (.int .u64 (sumZ key.data.toList l)) ∧ w = w' := by
  unfold maxLen at hk hl
  have HC := Lib.hid hc; clear hc
  go_enter Tryz.func113, Tryz.ntmps113
  go_wp2
  go_loop [5, 6] (fun h i => ∃ k : Nat, k ≤ key.size ∧ i = .int .i64 k ∧ h = .int .u64 (runZ seedZ (keyNums (key.data.toList.take k)))) (fun _ i => key.size - (intOf i).toNat)
  case atStart => exact ⟨0, Nat.zero_le _, rfl, rfl⟩
  case round =>
    obtain ⟨k, hk1, rfl, rfl⟩ := hrel
    by_cases hlt : k < key.size
    · go_wp2_with (go_at_call 136; refine (ref_step_calls _ _ _).mono ?_; rintro e w' ⟨rfl, rfl⟩)
      go_round
      case rel => exact ⟨k + 1, by omega, by go_num, by rw [runZ_key key k hlt]⟩
      case measure => simp [intOf]; omega
    · have hkk : k = key.size := by omega
      have HK := Lib.hid hkk; clear hkk
      go_wp2_with (go_at_call 136; refine (ref_step_calls _ _ _).mono ?_; rintro e w' ⟨rfl, rfl⟩)
      go_loop [5, 7] (fun h i => ∃ j : Nat, j ≤ l.length ∧ i = .int .i64 j ∧ h = .int .u64 (runZ (stepZ (runZ seedZ (keyNums (key.data.toList.take k))) key.size) (l.take j))) (fun _ i => l.length - (intOf i).toNat)
      case atStart => exact ⟨0, Nat.zero_le _, rfl, rfl⟩
      case round =>
        obtain ⟨j, hj1, rfl, rfl⟩ := hrel
        by_cases hlj : j < l.length
        · have hcj := HC.out j hlj
          have hrz := runZ_snoc (stepZ (runZ seedZ (keyNums (key.data.toList.take k))) key.size) l j hlj
          generalize l.getD j 0 = x at hcj hrz
          have HR := Lib.hid hrz; clear hrz
          go_wp2_with (go_at_call 136; refine (ref_step_calls _ _ _).mono ?_; rintro e w' ⟨rfl, rfl⟩)
          go_round
          case rel => exact ⟨j + 1, by omega, by go_num, by rw [← HR.out]⟩
          case measure => simp [intOf]; omega
        · go_wp2_with (go_at_call 136; refine (ref_step_calls _ _ _).mono ?_; rintro e w' ⟨rfl, rfl⟩)
          go_ret
          refine ⟨ret_int ?_, rfl⟩
          exact sum_end key l k j HK.out (by omega)

theorem ref_sum_nil (key : ByteArray) (w : World) (hk : key.size ≤ maxLen) :
    Calls Tryz.prog 113 #[.string key, .slice none 0 0] w fun e w' => e = .returned (.int .u64 (sumZ key.data.toList [])) ∧ w = w' := by
  unfold maxLen at hk
  go_enter Tryz.func113, Tryz.ntmps113
  go_wp2
  go_loop [5, 6] (fun h i => ∃ k : Nat, k ≤ key.size ∧ i = .int .i64 k ∧ h = .int .u64 (runZ seedZ (keyNums (key.data.toList.take k)))) (fun _ i => key.size - (intOf i).toNat)
  case atStart => exact ⟨0, Nat.zero_le _, rfl, rfl⟩
  case round =>
    obtain ⟨k, hk1, rfl, rfl⟩ := hrel
    by_cases hlt : k < key.size
    · go_wp2_with (go_at_call 136; refine (ref_step_calls _ _ _).mono ?_; rintro e w' ⟨rfl, rfl⟩)
      go_round
      case rel => exact ⟨k + 1, by omega, by go_num, by rw [runZ_key key k hlt]⟩
      case measure => simp [intOf]; omega
    · have hkk : k = key.size := by omega
      have HK := Lib.hid hkk; clear hkk
      go_wp2_with (go_at_call 136; refine (ref_step_calls _ _ _).mono ?_; rintro e w' ⟨rfl, rfl⟩)
      go_loop [5, 7] (fun h i => h = .int .u64 (stepZ (runZ seedZ (keyNums (key.data.toList.take k))) key.size) ∧ i = .int .i64 0) (fun _ _ => 0)
      case atStart => exact ⟨rfl, rfl⟩
      case round =>
        obtain ⟨rfl, rfl⟩ := hrel
        go_wp2_with (go_at_call 136; refine (ref_step_calls _ _ _).mono ?_; rintro e w' ⟨rfl, rfl⟩)
        go_ret
        refine ⟨ret_int ?_, rfl⟩
        exact sum_end key [] k 0 HK.out (by simp)

end Go.Proofs.YtlenlldiimohjaaGreatDoor
