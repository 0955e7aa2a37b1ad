/-
  The mixing sum of layer 7 as a plain function, and that it tells its inputs apart. No program in sight.
-/
namespace Go.Proofs.Ytbomphggifdlaaa.SumLaw

def mixU (h : BitVec 64) : BitVec 64 := h * 11800147728694460525#64 ^^^ (h * 11800147728694460525#64) >>> 29
def stepU (h n : BitVec 64) : BitVec 64 := mixU (h ^^^ n)

theorem xs_inj (x y : BitVec 64) (h : x ^^^ x >>> 29 = y ^^^ y >>> 29) : x = y := by
  have back (x : BitVec 64) : (x ^^^ x >>> 29) ^^^ (x ^^^ x >>> 29) >>> 29 ^^^ (x ^^^ x >>> 29) >>> 58 = x := by
    have z : x >>> 87 = 0#64 := by
      apply BitVec.eq_of_toNat_eq
      rw [BitVec.toNat_ushiftRight, Nat.shiftRight_eq_div_pow]
      have := x.isLt
      simp
      omega
    have e1 : x >>> 29 >>> 29 = x >>> 58 := (BitVec.shiftRight_add x 29 29).symm
    have e2 : x >>> 29 >>> 58 = x >>> 87 := (BitVec.shiftRight_add x 29 58).symm
    rw [BitVec.ushiftRight_xor_distrib, BitVec.ushiftRight_xor_distrib, e1, e2, z]
    have c1 : x ^^^ x >>> 29 ^^^ (x >>> 29 ^^^ x >>> 58) = x ^^^ x >>> 58 := by
      rw [BitVec.xor_assoc, ← BitVec.xor_assoc (x >>> 29), BitVec.xor_self, BitVec.zero_xor]
    rw [c1, BitVec.xor_zero, BitVec.xor_assoc, BitVec.xor_self, BitVec.xor_zero]
  rw [← back x, ← back y, h]

theorem mul_inj (x y : BitVec 64) (h : x * 11800147728694460525#64 = y * 11800147728694460525#64) : x = y := by
  have inv : 11800147728694460525#64 * 13132758862238501221#64 = 1#64 := by decide
  have := congrArg (· * 13132758862238501221#64) h
  simpa only [BitVec.mul_assoc, inv, BitVec.mul_one] using this

theorem mix_inj {x y : BitVec 64} (h : mixU x = mixU y) : x = y := mul_inj _ _ (xs_inj _ _ h)

theorem xor_inj_left {h n m : BitVec 64} (e : h ^^^ n = h ^^^ m) : n = m := by
  have := congrArg (h ^^^ ·) e
  simpa only [← BitVec.xor_assoc, BitVec.xor_self, BitVec.zero_xor] using this

theorem step_inj_n {h n m : BitVec 64} (e : stepU h n = stepU h m) : n = m := xor_inj_left (mix_inj e)
theorem step_inj_h {h g n : BitVec 64} (e : stepU h n = stepU g n) : h = g := by
  have := mix_inj e
  rw [BitVec.xor_comm h, BitVec.xor_comm g] at this
  exact xor_inj_left this

/-! ### over whole numbers -/
def stepZ (h n : Int) : Int := ((stepU (BitVec.ofInt 64 h) (BitVec.ofInt 64 n)).toNat : Int)

def U (x : Int) : Prop := 0 ≤ x ∧ x < 18446744073709551616

theorem stepZ_U (h n : Int) : U (stepZ h n) := by
  have := (stepU (BitVec.ofInt 64 h) (BitVec.ofInt 64 n)).isLt
  constructor <;> unfold stepZ <;> omega

theorem ofInt_inj {a b : Int} (ha : U a) (hb : U b) (h : BitVec.ofInt 64 a = BitVec.ofInt 64 b) : a = b := by
  have := congrArg BitVec.toNat h
  rw [BitVec.toNat_ofInt, BitVec.toNat_ofInt] at this
  have e (x : Int) (hx : U x) : x % ((2 : Nat) ^ 64 : Nat) = x := Int.emod_eq_of_lt hx.1 (by have := hx.2; omega)
  rw [e a ha, e b hb] at this
  have := ha.1; have := hb.1; omega

theorem stepZ_eq {h n g m : Int} (e : stepZ h n = stepZ g m) : stepU (BitVec.ofInt 64 h) (BitVec.ofInt 64 n) = stepU (BitVec.ofInt 64 g) (BitVec.ofInt 64 m) := by
  apply BitVec.eq_of_toNat_eq
  unfold stepZ at e
  omega

theorem stepZ_inj_n {h n m : Int} (hn : U n) (hm : U m) (e : stepZ h n = stepZ h m) : n = m := ofInt_inj hn hm (step_inj_n (stepZ_eq e))
theorem stepZ_inj_h {h g n : Int} (hh : U h) (hg : U g) (e : stepZ h n = stepZ g n) : h = g := ofInt_inj hh hg (step_inj_h (stepZ_eq e))

def runZ (h : Int) (l : List Int) : Int := l.foldl stepZ h

theorem runZ_U {h : Int} (hh : U h) : ∀ l, U (runZ h l)
  | [] => hh
  | x :: l => runZ_U (h := stepZ h x) (stepZ_U h x) l

theorem runZ_inj_h : ∀ (l : List Int) {h g : Int}, U h → U g → runZ h l = runZ g l → h = g
  | [], _, _, _, _, e => e
  | x :: l, h, g, hh, hg, e => stepZ_inj_h hh hg (runZ_inj_h l (stepZ_U h x) (stepZ_U g x) e)

theorem runZ_cons (h x : Int) (l : List Int) : runZ h (x :: l) = runZ (stepZ h x) l := rfl

/-- One place changed: the runs part just if the numbers do. -/
theorem runZ_set (l : List Int) : ∀ (i : Nat) (n : Int) {h : Int}, U h → (∀ x ∈ l, U x) → U n → (hi : i < l.length) → runZ h l = runZ h (l.set i n) → l[i] = n := by
  induction l with
  | nil => intro i n h _ _ _ hi; exact absurd hi (Nat.not_lt_zero _)
  | cons x l ih =>
    intro i n h hh hl hn hi e
    cases i with
    | zero =>
      rw [List.set_cons_zero, runZ_cons, runZ_cons] at e
      have e2 := runZ_inj_h l (stepZ_U h x) (stepZ_U h n) e
      rw [List.getElem_cons_zero]
      exact stepZ_inj_n (hl x List.mem_cons_self) hn e2
    | succ i =>
      rw [List.set_cons_succ, runZ_cons, runZ_cons] at e
      rw [List.getElem_cons_succ]
      exact ih i n (stepZ_U h x) (fun y hy => hl y (List.mem_cons_of_mem _ hy)) hn (Nat.lt_of_succ_lt_succ hi) e

def seedZ : Int := 7880330927811272263
theorem seedZ_U : U seedZ := by unfold seedZ U; omega

def keyNums (key : List UInt8) : List Int := key.map fun c => (c.toNat : Int) + 1

def sumZ (key : List UInt8) (l : List Int) : Int :=
  stepZ (runZ (stepZ (runZ seedZ (keyNums key)) key.length) l) l.length

theorem sumZ_U (key : List UInt8) (l : List Int) : U (sumZ key l) := stepZ_U _ _

theorem keyNums_U (key : List UInt8) : ∀ x ∈ keyNums key, U x := by
  intro x hx
  simp only [keyNums, List.mem_map] at hx
  obtain ⟨c, -, rfl⟩ := hx
  have := c.toNat_lt
  unfold U; omega

theorem sumZ_set (key : List UInt8) (l : List Int) (i : Nat) (n : Int) (hl : ∀ x ∈ l, U x) (hn : U n) (hi : i < l.length) :
    sumZ key l = sumZ key (l.set i n) ↔ l[i] = n := by
  constructor
  · intro e
    unfold sumZ at e
    rw [List.length_set] at e
    have e' := stepZ_inj_h (runZ_U (stepZ_U _ _) _) (runZ_U (stepZ_U _ _) _) e
    exact runZ_set l i n (stepZ_U _ _) hl hn hi e'
  · intro e
    subst e
    rw [List.set_getElem_self]

theorem sumZ_key (key : List UInt8) (l : List Int) (j : Nat) (k : UInt8) (hj : j < key.length) :
    sumZ key l = sumZ (key.set j k) l ↔ key[j] = k := by
  constructor
  · intro e
    unfold sumZ at e
    rw [List.length_set] at e
    have e1 := stepZ_inj_h (runZ_U (stepZ_U _ _) _) (runZ_U (stepZ_U _ _) _) e
    have e2 := runZ_inj_h l (stepZ_U _ _) (stepZ_U _ _) e1
    have e3 := stepZ_inj_h (runZ_U seedZ_U _) (runZ_U seedZ_U _) e2
    have hset : keyNums (key.set j k) = (keyNums key).set j ((k.toNat : Int) + 1) := by
      unfold keyNums; rw [List.map_set]
    rw [hset] at e3
    have hj' : j < (keyNums key).length := by simpa [keyNums] using hj
    have := runZ_set (keyNums key) j _ seedZ_U (keyNums_U key) (by have := k.toNat_lt; unfold U; omega) hj' e3
    simp only [keyNums, List.getElem_map] at this
    apply UInt8.toNat_inj.1
    omega
  · intro e
    subst e
    rw [List.set_getElem_self]

theorem sumZ_two (key : List UInt8) (l : List Int) (i : Nat) (n m : Int) (hl : ∀ x ∈ l, U x) (hn : U n) (hm : U m) (hi : i < l.length) (hne : n ≠ m) :
    sumZ key (l.set i n) ≠ sumZ key (l.set i m) := by
  intro e
  have hl' : ∀ x ∈ l.set i n, U x := fun x hx => by
    rcases List.mem_or_eq_of_mem_set hx with h | h
    · exact hl x h
    · exact h ▸ hn
  have := (sumZ_set key (l.set i n) i m hl' hm (by simpa using hi)).1 (by rw [List.set_set]; exact e)
  simp at this
  exact hne this

end Go.Proofs.Ytbomphggifdlaaa.SumLaw
