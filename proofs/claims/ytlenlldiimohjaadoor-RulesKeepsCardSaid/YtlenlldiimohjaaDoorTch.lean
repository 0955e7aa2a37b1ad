/-
  Package stat: Keep, asks, Touched; the bits of what is touched.
-/
import Derived.Test.YtlenlldiimohjaaDoorRec
import Derived.Test.YtlenlldiimohjaaDoorU33
import Derived.Laws.BitsAllLaws
import Derived.LoopTactic
import Derived.Deep.DeepCutAuto
namespace Go.Proofs.YtlenlldiimohjaaDoor
open Go.ChangeShapes Go.WideShapes Go.ChangeAt Go.RowKit

def keepS : St := ⟨65535, 4294967295, 255, 4294967295, 18446744073709551615, 4294967295, 4294967295, 4294967295, 18446744073709551615, ⟨#[]⟩, ⟨#[]⟩, ⟨#[]⟩, ⟨#[]⟩⟩
def askI (a b c : Int) : Bool := (a != b) && (a != c)
def askT (a b c : ByteArray) : Bool := (!(a.toList == b.toList)) && (!(a.toList == c.toList))
/-- Which fields of h the wish s touches, by number. -/
def touchB (s h : St) : Nat → Bool
  | 0 => askI s.typ keepS.typ h.typ
  | 1 => askI s.dev keepS.dev h.dev
  | 2 => askI s.kind keepS.kind h.kind
  | 3 => askI s.vers keepS.vers h.vers
  | 4 => askI s.path keepS.path h.path
  | 5 => askI s.mode keepS.mode h.mode
  | 6 => askI s.atime keepS.atime h.atime
  | 7 => askI s.mtime keepS.mtime h.mtime
  | 8 => askI s.length keepS.length h.length
  | 9 => askT s.name keepS.name h.name
  | 10 => askT s.uid keepS.uid h.uid
  | 11 => askT s.gid keepS.gid h.gid
  | 12 => askT s.muid keepS.muid h.muid
  | _ => false
/-- The first k fields' bits. -/
def orN (b : Nat → Bool) : Nat → Nat
  | 0 => 0
  | k + 1 => if b k then orN b k ||| 2 ^ k else orN b k
theorem orN_lt (b : Nat → Bool) : ∀ k, orN b k < 2 ^ k
  | 0 => by simp [orN]
  | k + 1 => by
    have := orN_lt b k
    have h2 : 2 ^ k < 2 ^ (k + 1) := by rw [Nat.pow_succ]; have := Nat.two_pow_pos k; omega
    rw [orN]
    split
    · exact Nat.or_lt_two_pow (by omega) h2
    · omega
theorem orN_bit (b : Nat → Bool) (i : Nat) : ∀ k, (orN b k).testBit i = (decide (i < k) && b i)
  | 0 => by simp [orN]
  | k + 1 => by
    have ih := orN_bit b i k
    rw [orN]
    by_cases h : i = k
    · subst h
      cases hb : b i with
      | false => simp [hb, ih]
      | true => simp [Nat.testBit_or, Nat.testBit_two_pow_self]
    · have h2 : decide (i < k + 1) = decide (i < k) := by rw [decide_eq_decide]; omega
      rw [h2, ← ih]
      split
      · rw [Nat.testBit_or, Nat.testBit_two_pow_of_ne (fun e => h e.symm), Bool.or_false]
      · rfl
theorem or_16 (b : Nat → Bool) (k : Nat) (hk : k < 13) (h : b k = true) : bits .or .u16 ((orN b k : Nat) : Int) ((2 ^ k : Nat) : Int) = ((orN b (k + 1) : Nat) : Int) := by
  have h1 := orN_lt b k
  have h2 : 2 ^ k ≤ 2 ^ 12 := Nat.pow_le_pow_right (by omega) (by omega)
  rw [u16_or_nat _ _ (by omega) (by omega), orN, if_pos h]
theorem and_16 (b : Nat → Bool) (i : Nat) (hi : i < 13) : (bits .and .u16 ((orN b 13 : Nat) : Int) ((2 ^ i : Nat) : Int) == 0) = !b i := by
  have h1 := orN_lt b 13
  have h2 : 2 ^ i ≤ 2 ^ 12 := Nat.pow_le_pow_right (by omega) (by omega)
  rw [u16_and_nat _ _ (by omega) (by omega), and_pow_nat, orN_bit, decide_eq_true (by omega : i < 13), Bool.true_and]
  have hp : 0 < 2 ^ i := Nat.two_pow_pos i
  cases b i
  · rfl
  · simp only [if_true, Bool.not_true]
    rw [beq_eq_false_iff_ne]
    omega

theorem asks_u16 (a b c : Int) (w : World) : Calls Tryd.prog 77 #[.int .u16 a, .int .u16 b, .int .u16 c] w fun e w' => e = .returned (.bool (askI a b c)) ∧ w = w' := by
  cases h : (a != b)
  all_goals
    have HX := Lib.hid (show askI a b c = ((a != b) && (a != c)) from rfl)
    rw [h] at HX
    go_enter Tryd.func77, Tryd.ntmps77
    go_wp2_with fail
    go_ret
    exact ⟨by rw [HX.out]; simp, rfl⟩
theorem asks_u32 (a b c : Int) (w : World) : Calls Tryd.prog 78 #[.int .u32 a, .int .u32 b, .int .u32 c] w fun e w' => e = .returned (.bool (askI a b c)) ∧ w = w' := by
  cases h : (a != b)
  all_goals
    have HX := Lib.hid (show askI a b c = ((a != b) && (a != c)) from rfl)
    rw [h] at HX
    go_enter Tryd.func78, Tryd.ntmps78
    go_wp2_with fail
    go_ret
    exact ⟨by rw [HX.out]; simp, rfl⟩
theorem asks_u8 (a b c : Int) (w : World) : Calls Tryd.prog 79 #[.int .u8 a, .int .u8 b, .int .u8 c] w fun e w' => e = .returned (.bool (askI a b c)) ∧ w = w' := by
  cases h : (a != b)
  all_goals
    have HX := Lib.hid (show askI a b c = ((a != b) && (a != c)) from rfl)
    rw [h] at HX
    go_enter Tryd.func79, Tryd.ntmps79
    go_wp2_with fail
    go_ret
    exact ⟨by rw [HX.out]; simp, rfl⟩
theorem asks_u64 (a b c : Int) (w : World) : Calls Tryd.prog 80 #[.int .u64 a, .int .u64 b, .int .u64 c] w fun e w' => e = .returned (.bool (askI a b c)) ∧ w = w' := by
  cases h : (a != b)
  all_goals
    have HX := Lib.hid (show askI a b c = ((a != b) && (a != c)) from rfl)
    rw [h] at HX
    go_enter Tryd.func80, Tryd.ntmps80
    go_wp2_with fail
    go_ret
    exact ⟨by rw [HX.out]; simp, rfl⟩
theorem asks_string (a b c : ByteArray) (w : World) : Calls Tryd.prog 81 #[.string a, .string b, .string c] w fun e w' => e = .returned (.bool (askT a b c)) ∧ w = w' := by
  cases h : (a.toList == b.toList)
  all_goals
    have HX := Lib.hid (show askT a b c = ((!(a.toList == b.toList)) && (!(a.toList == c.toList))) from rfl)
    rw [h] at HX
    go_enter Tryd.func81, Tryd.ntmps81
    go_wp2_with fail
    go_ret
    exact ⟨by rw [HX.out]; simp, rfl⟩
theorem results_keep {tmps : Array Value} {w : World} {q : Nat} {s : St} (h2 : tmps.getD 0 undef = .pointer (some ⟨q, 0, none⟩)) (hk : SBlk w q s) :
    (results Tryd.f39 tmps).run Tryd.prog w = .ok (statV s) w := by
  have h2' : tmps[0]?.getD undef = .pointer (some ⟨q, 0, none⟩) := by simpa using h2
  simp [results, Tryd.results39, h2', asAddr, loadVar_stat hk]
theorem keep_calls (w : World) : Calls Tryd.prog 39 #[] w fun e w' => e = .returned (statV keepS) ∧ Below w.heap.size w w' := by
  go_enter Tryd.func39, Tryd.ntmps39
  go_wp2_with (refine wstS (SBlk.zero _) keepS rfl _ _ rfl rfl rfl ?_; intro w2 hs ho hbl; have HL := Lib.hid (hbl _ _ ((Below.refl _ _).alloc (Nat.le_refl _) _) (Nat.le_refl _)); have HX := Lib.hid hs; clear hs ho hbl)
  exact bodyPost_ret (results_keep rfl HX.out) rfl ⟨rfl, HL.out⟩

/-- Where Touched stands. -/
def TA (w0 : World) (s h : St) (w : World) : Prop := SBlk w w0.heap.size s ∧ SBlk w (w0.heap.size + 1) h ∧ Below w0.heap.size w0 w
theorem TA.next {w0 w w' : World} {s h : St} (x : TA w0 s h w) (hb : Below w.heap.size w w') : TA w0 s h w' := ⟨x.1.below hb, x.2.1.below hb, x.2.2.trans (hb.mono x.2.2.size)⟩
theorem TA.start (w : World) (s h : St) : TA w s h ((w.alloc (Obj.cells #[.int .u16 s.typ, .int .u32 s.dev, .int .u8 s.kind, .int .u32 s.vers, .int .u64 s.path, .int .u32 s.mode, .int .u32 s.atime, .int .u32 s.mtime, .int .u64 s.length, .string s.name, .string s.uid, .string s.gid, .string s.muid] 66)).alloc (Obj.cells #[.int .u16 h.typ, .int .u32 h.dev, .int .u8 h.kind, .int .u32 h.vers, .int .u64 h.path, .int .u32 h.mode, .int .u32 h.atime, .int .u32 h.mtime, .int .u64 h.length, .string h.name, .string h.uid, .string h.gid, .string h.muid] 66)) := by
  have h1 : SBlk (w.alloc (Obj.cells (statL s).toArray 66)) w.heap.size s := Blk.new _ _ _
  have h2 : SBlk ((w.alloc (Obj.cells (statL s).toArray 66)).alloc (Obj.cells (statL h).toArray 66)) (w.alloc (Obj.cells (statL s).toArray 66)).heap.size h := Blk.new _ _ _
  simp only [World.size_alloc] at h2
  exact ⟨h1.below ((Below.refl _ _).alloc (Nat.le_refl _) _), h2, ((Below.refl _ _).alloc (Nat.le_refl _) _).alloc (by simp) _⟩
/-- And with what touches nothing, at q. -/
def TS (w0 : World) (q : Nat) (s h : St) (w : World) : Prop := TA w0 s h w ∧ SBlk w q keepS
section
variable {w0 w w' : World} {q : Nat} {s h : St}
theorem TS.next (x : TS w0 q s h w) (hb : Below w.heap.size w w') : TS w0 q s h w' := ⟨x.1.next hb, x.2.below hb⟩
theorem TS.low (x : TS w0 q s h w) : Below w0.heap.size w0 w := x.1.2.2
theorem TS.s0 (x : TS w0 q s h w) : w.cell? ⟨w0.heap.size, 0, none⟩ = some (.int .u16 s.typ) := Blk.cell x.1.1 0
theorem TS.h0 (x : TS w0 q s h w) : w.cell? ⟨w0.heap.size + 1, 0, none⟩ = some (.int .u16 h.typ) := Blk.cell x.1.2.1 0
theorem TS.k0 (x : TS w0 q s h w) : w.cell? ⟨q, 0, none⟩ = some (.int .u16 keepS.typ) := Blk.cell x.2 0
theorem TS.s1 (x : TS w0 q s h w) : w.cell? ⟨w0.heap.size, 1, none⟩ = some (.int .u32 s.dev) := Blk.cell x.1.1 1
theorem TS.h1 (x : TS w0 q s h w) : w.cell? ⟨w0.heap.size + 1, 1, none⟩ = some (.int .u32 h.dev) := Blk.cell x.1.2.1 1
theorem TS.k1 (x : TS w0 q s h w) : w.cell? ⟨q, 1, none⟩ = some (.int .u32 keepS.dev) := Blk.cell x.2 1
theorem TS.s2 (x : TS w0 q s h w) : w.cell? ⟨w0.heap.size, 2, none⟩ = some (.int .u8 s.kind) := Blk.cell x.1.1 2
theorem TS.h2 (x : TS w0 q s h w) : w.cell? ⟨w0.heap.size + 1, 2, none⟩ = some (.int .u8 h.kind) := Blk.cell x.1.2.1 2
theorem TS.k2 (x : TS w0 q s h w) : w.cell? ⟨q, 2, none⟩ = some (.int .u8 keepS.kind) := Blk.cell x.2 2
theorem TS.s3 (x : TS w0 q s h w) : w.cell? ⟨w0.heap.size, 3, none⟩ = some (.int .u32 s.vers) := Blk.cell x.1.1 3
theorem TS.h3 (x : TS w0 q s h w) : w.cell? ⟨w0.heap.size + 1, 3, none⟩ = some (.int .u32 h.vers) := Blk.cell x.1.2.1 3
theorem TS.k3 (x : TS w0 q s h w) : w.cell? ⟨q, 3, none⟩ = some (.int .u32 keepS.vers) := Blk.cell x.2 3
theorem TS.s4 (x : TS w0 q s h w) : w.cell? ⟨w0.heap.size, 4, none⟩ = some (.int .u64 s.path) := Blk.cell x.1.1 4
theorem TS.h4 (x : TS w0 q s h w) : w.cell? ⟨w0.heap.size + 1, 4, none⟩ = some (.int .u64 h.path) := Blk.cell x.1.2.1 4
theorem TS.k4 (x : TS w0 q s h w) : w.cell? ⟨q, 4, none⟩ = some (.int .u64 keepS.path) := Blk.cell x.2 4
theorem TS.s5 (x : TS w0 q s h w) : w.cell? ⟨w0.heap.size, 5, none⟩ = some (.int .u32 s.mode) := Blk.cell x.1.1 5
theorem TS.h5 (x : TS w0 q s h w) : w.cell? ⟨w0.heap.size + 1, 5, none⟩ = some (.int .u32 h.mode) := Blk.cell x.1.2.1 5
theorem TS.k5 (x : TS w0 q s h w) : w.cell? ⟨q, 5, none⟩ = some (.int .u32 keepS.mode) := Blk.cell x.2 5
theorem TS.s6 (x : TS w0 q s h w) : w.cell? ⟨w0.heap.size, 6, none⟩ = some (.int .u32 s.atime) := Blk.cell x.1.1 6
theorem TS.h6 (x : TS w0 q s h w) : w.cell? ⟨w0.heap.size + 1, 6, none⟩ = some (.int .u32 h.atime) := Blk.cell x.1.2.1 6
theorem TS.k6 (x : TS w0 q s h w) : w.cell? ⟨q, 6, none⟩ = some (.int .u32 keepS.atime) := Blk.cell x.2 6
theorem TS.s7 (x : TS w0 q s h w) : w.cell? ⟨w0.heap.size, 7, none⟩ = some (.int .u32 s.mtime) := Blk.cell x.1.1 7
theorem TS.h7 (x : TS w0 q s h w) : w.cell? ⟨w0.heap.size + 1, 7, none⟩ = some (.int .u32 h.mtime) := Blk.cell x.1.2.1 7
theorem TS.k7 (x : TS w0 q s h w) : w.cell? ⟨q, 7, none⟩ = some (.int .u32 keepS.mtime) := Blk.cell x.2 7
theorem TS.s8 (x : TS w0 q s h w) : w.cell? ⟨w0.heap.size, 8, none⟩ = some (.int .u64 s.length) := Blk.cell x.1.1 8
theorem TS.h8 (x : TS w0 q s h w) : w.cell? ⟨w0.heap.size + 1, 8, none⟩ = some (.int .u64 h.length) := Blk.cell x.1.2.1 8
theorem TS.k8 (x : TS w0 q s h w) : w.cell? ⟨q, 8, none⟩ = some (.int .u64 keepS.length) := Blk.cell x.2 8
theorem TS.s9 (x : TS w0 q s h w) : w.cell? ⟨w0.heap.size, 9, none⟩ = some (.string s.name) := Blk.cell x.1.1 9
theorem TS.h9 (x : TS w0 q s h w) : w.cell? ⟨w0.heap.size + 1, 9, none⟩ = some (.string h.name) := Blk.cell x.1.2.1 9
theorem TS.k9 (x : TS w0 q s h w) : w.cell? ⟨q, 9, none⟩ = some (.string keepS.name) := Blk.cell x.2 9
theorem TS.s10 (x : TS w0 q s h w) : w.cell? ⟨w0.heap.size, 10, none⟩ = some (.string s.uid) := Blk.cell x.1.1 10
theorem TS.h10 (x : TS w0 q s h w) : w.cell? ⟨w0.heap.size + 1, 10, none⟩ = some (.string h.uid) := Blk.cell x.1.2.1 10
theorem TS.k10 (x : TS w0 q s h w) : w.cell? ⟨q, 10, none⟩ = some (.string keepS.uid) := Blk.cell x.2 10
theorem TS.s11 (x : TS w0 q s h w) : w.cell? ⟨w0.heap.size, 11, none⟩ = some (.string s.gid) := Blk.cell x.1.1 11
theorem TS.h11 (x : TS w0 q s h w) : w.cell? ⟨w0.heap.size + 1, 11, none⟩ = some (.string h.gid) := Blk.cell x.1.2.1 11
theorem TS.k11 (x : TS w0 q s h w) : w.cell? ⟨q, 11, none⟩ = some (.string keepS.gid) := Blk.cell x.2 11
theorem TS.s12 (x : TS w0 q s h w) : w.cell? ⟨w0.heap.size, 12, none⟩ = some (.string s.muid) := Blk.cell x.1.1 12
theorem TS.h12 (x : TS w0 q s h w) : w.cell? ⟨w0.heap.size + 1, 12, none⟩ = some (.string h.muid) := Blk.cell x.1.2.1 12
theorem TS.k12 (x : TS w0 q s h w) : w.cell? ⟨q, 12, none⟩ = some (.string keepS.muid) := Blk.cell x.2 12
end

set_option maxRecDepth 100000 in
set_option maxHeartbeats 30000000 in
theorem touched_calls (s h : St) (w : World) :
    Calls Tryd.prog 51 #[statV s, statV h] w fun e w' => e = .returned (.int .u16 (orN (touchB s h) 13 : Nat)) ∧ Below w.heap.size w w' := by
  have HT := Lib.hid (TA.start w s h)
  go_enter Tryd.func51, Tryd.ntmps51
  go_upto_region 1 with (fail)
  generalize (w.alloc (Obj.cells #[.int .u16 s.typ, .int .u32 s.dev, .int .u8 s.kind, .int .u32 s.vers, .int .u64 s.path, .int .u32 s.mode, .int .u32 s.atime, .int .u32 s.mtime, .int .u64 s.length, .string s.name, .string s.uid, .string s.gid, .string s.muid] 66)).alloc (Obj.cells #[.int .u16 h.typ, .int .u32 h.dev, .int .u8 h.kind, .int .u32 h.vers, .int .u64 h.path, .int .u32 h.mode, .int .u32 h.atime, .int .u32 h.mtime, .int .u64 h.length, .string h.name, .string h.uid, .string h.gid, .string h.muid] 66) = w1 at HT ⊢
  go_upto_region 2 with (first
    | (go_at_call 39; (with_reducible refine (keep_calls _).mono ?_); rintro e w2 ⟨rfl, hb⟩; replace HT := Lib.hid (HT.out.next hb); clear hb)
    | (refine wstS (SBlk.zero _) keepS rfl _ _ rfl rfl rfl ?_; intro w4 hs ho hbl; have hb := hbl _ _ ((Below.refl _ _).alloc (Nat.le_refl _) _) (Nat.le_refl _); have HQ := Lib.hid (show TS w _ s h w4 from ⟨HT.out.next hb, hs⟩); clear hs ho hbl hb))
  generalize w2.heap.size = q at HQ ⊢
  simp only [Act.put]
  go_cut [6] (fun v wx => ∃ qs : Nat, v = .slice (some ⟨qs, 0, none⟩) 13 13 ∧ Blk wx qs 4 #[.bool (askI s.typ keepS.typ h.typ), .bool (askI s.dev keepS.dev h.dev), .bool (askI s.kind keepS.kind h.kind), .bool (askI s.vers keepS.vers h.vers), .bool (askI s.path keepS.path h.path), .bool (askI s.mode keepS.mode h.mode), .bool (askI s.atime keepS.atime h.atime), .bool (askI s.mtime keepS.mtime h.mtime), .bool (askI s.length keepS.length h.length), .bool (askT s.name keepS.name h.name), .bool (askT s.uid keepS.uid h.uid), .bool (askT s.gid keepS.gid h.gid), .bool (askT s.muid keepS.muid h.muid)] ∧ Below w.heap.size w wx)
  case first =>
    refine wp_region_held_drew (S := TS w q s h) (by kernel_rfl) (HQ.out.next (below_drew _)) (fun hHeld => ?_)
    refine wpAnyH_takeD 11 (i := 0) (v := .pointer (some ⟨w.heap.size, 0, none⟩)) rfl rfl (by as_aux_lemma => kernel_rfl) (by as_aux_lemma => kernel_rfl) (by as_aux_lemma => kernel_rfl) (fun _ _ _ h => h) (Or.inl ⟨by rfl, fun wq hSw => by go_simp⟩) (by assumption) ?_
    simp only [Act.put, List.setIfInBounds_toArray, List.set_cons_zero, List.set_cons_succ]
    refine wpAnyH_takeD 12 (i := 1) (v := .int .u16 s.typ) rfl rfl (by as_aux_lemma => kernel_rfl) (by as_aux_lemma => kernel_rfl) (by as_aux_lemma => kernel_rfl) (fun _ _ _ h => h) (Or.inl ⟨by rfl, fun wq hSw => by have k := hSw.s0; go_simp⟩) (by assumption) ?_
    simp only [Act.put, List.setIfInBounds_toArray, List.set_cons_zero, List.set_cons_succ]
    refine wpAnyH_takeD 13 (i := 2) (v := .pointer (some ⟨q, 0, none⟩)) rfl rfl (by as_aux_lemma => kernel_rfl) (by as_aux_lemma => kernel_rfl) (by as_aux_lemma => kernel_rfl) (fun _ _ _ h => h) (Or.inl ⟨by rfl, fun wq hSw => by go_simp⟩) (by assumption) ?_
    simp only [Act.put, List.setIfInBounds_toArray, List.set_cons_zero, List.set_cons_succ]
    refine wpAnyH_takeD 14 (i := 3) (v := .int .u16 keepS.typ) rfl rfl (by as_aux_lemma => kernel_rfl) (by as_aux_lemma => kernel_rfl) (by as_aux_lemma => kernel_rfl) (fun _ _ _ h => h) (Or.inl ⟨by rfl, fun wq hSw => by have k := hSw.k0; go_simp⟩) (by assumption) ?_
    simp only [Act.put, List.setIfInBounds_toArray, List.set_cons_zero, List.set_cons_succ]
    refine wpAnyH_takeD 15 (i := 4) (v := .pointer (some ⟨w.heap.size + 1, 0, none⟩)) rfl rfl (by as_aux_lemma => kernel_rfl) (by as_aux_lemma => kernel_rfl) (by as_aux_lemma => kernel_rfl) (fun _ _ _ h => h) (Or.inl ⟨by rfl, fun wq hSw => by go_simp⟩) (by assumption) ?_
    simp only [Act.put, List.setIfInBounds_toArray, List.set_cons_zero, List.set_cons_succ]
    refine wpAnyH_takeD 16 (i := 5) (v := .int .u16 h.typ) rfl rfl (by as_aux_lemma => kernel_rfl) (by as_aux_lemma => kernel_rfl) (by as_aux_lemma => kernel_rfl) (fun _ _ _ h => h) (Or.inl ⟨by rfl, fun wq hSw => by have k := hSw.h0; go_simp⟩) (by assumption) ?_
    simp only [Act.put, List.setIfInBounds_toArray, List.set_cons_zero, List.set_cons_succ]
    refine wpAnyH_takeD 18 (i := 7) (v := .pointer (some ⟨w.heap.size, 1, none⟩)) rfl rfl (by as_aux_lemma => kernel_rfl) (by as_aux_lemma => kernel_rfl) (by as_aux_lemma => kernel_rfl) (fun _ _ _ h => h) (Or.inl ⟨by rfl, fun wq hSw => by go_simp⟩) (by assumption) ?_
    simp only [Act.put, List.setIfInBounds_toArray, List.set_cons_zero, List.set_cons_succ]
    refine wpAnyH_takeD 19 (i := 8) (v := .int .u32 s.dev) rfl rfl (by as_aux_lemma => kernel_rfl) (by as_aux_lemma => kernel_rfl) (by as_aux_lemma => kernel_rfl) (fun _ _ _ h => h) (Or.inl ⟨by rfl, fun wq hSw => by have k := hSw.s1; go_simp⟩) (by assumption) ?_
    simp only [Act.put, List.setIfInBounds_toArray, List.set_cons_zero, List.set_cons_succ]
    refine wpAnyH_takeD 20 (i := 9) (v := .pointer (some ⟨q, 1, none⟩)) rfl rfl (by as_aux_lemma => kernel_rfl) (by as_aux_lemma => kernel_rfl) (by as_aux_lemma => kernel_rfl) (fun _ _ _ h => h) (Or.inl ⟨by rfl, fun wq hSw => by go_simp⟩) (by assumption) ?_
    simp only [Act.put, List.setIfInBounds_toArray, List.set_cons_zero, List.set_cons_succ]
    refine wpAnyH_takeD 21 (i := 10) (v := .int .u32 keepS.dev) rfl rfl (by as_aux_lemma => kernel_rfl) (by as_aux_lemma => kernel_rfl) (by as_aux_lemma => kernel_rfl) (fun _ _ _ h => h) (Or.inl ⟨by rfl, fun wq hSw => by have k := hSw.k1; go_simp⟩) (by assumption) ?_
    simp only [Act.put, List.setIfInBounds_toArray, List.set_cons_zero, List.set_cons_succ]
    refine wpAnyH_takeD 22 (i := 11) (v := .pointer (some ⟨w.heap.size + 1, 1, none⟩)) rfl rfl (by as_aux_lemma => kernel_rfl) (by as_aux_lemma => kernel_rfl) (by as_aux_lemma => kernel_rfl) (fun _ _ _ h => h) (Or.inl ⟨by rfl, fun wq hSw => by go_simp⟩) (by assumption) ?_
    simp only [Act.put, List.setIfInBounds_toArray, List.set_cons_zero, List.set_cons_succ]
    refine wpAnyH_takeD 23 (i := 12) (v := .int .u32 h.dev) rfl rfl (by as_aux_lemma => kernel_rfl) (by as_aux_lemma => kernel_rfl) (by as_aux_lemma => kernel_rfl) (fun _ _ _ h => h) (Or.inl ⟨by rfl, fun wq hSw => by have k := hSw.h1; go_simp⟩) (by assumption) ?_
    simp only [Act.put, List.setIfInBounds_toArray, List.set_cons_zero, List.set_cons_succ]
    refine wpAnyH_takeD 25 (i := 14) (v := .pointer (some ⟨w.heap.size, 2, none⟩)) rfl rfl (by as_aux_lemma => kernel_rfl) (by as_aux_lemma => kernel_rfl) (by as_aux_lemma => kernel_rfl) (fun _ _ _ h => h) (Or.inl ⟨by rfl, fun wq hSw => by go_simp⟩) (by assumption) ?_
    simp only [Act.put, List.setIfInBounds_toArray, List.set_cons_zero, List.set_cons_succ]
    refine wpAnyH_takeD 26 (i := 15) (v := .pointer (some ⟨w.heap.size, 2, none⟩)) rfl rfl (by as_aux_lemma => kernel_rfl) (by as_aux_lemma => kernel_rfl) (by as_aux_lemma => kernel_rfl) (fun _ _ _ h => h) (Or.inl ⟨by rfl, fun wq hSw => by go_simp⟩) (by assumption) ?_
    simp only [Act.put, List.setIfInBounds_toArray, List.set_cons_zero, List.set_cons_succ]
    refine wpAnyH_takeD 27 (i := 16) (v := .int .u8 s.kind) rfl rfl (by as_aux_lemma => kernel_rfl) (by as_aux_lemma => kernel_rfl) (by as_aux_lemma => kernel_rfl) (fun _ _ _ h => h) (Or.inl ⟨by rfl, fun wq hSw => by have k := hSw.s2; go_simp⟩) (by assumption) ?_
    simp only [Act.put, List.setIfInBounds_toArray, List.set_cons_zero, List.set_cons_succ]
    refine wpAnyH_takeD 28 (i := 17) (v := .pointer (some ⟨q, 2, none⟩)) rfl rfl (by as_aux_lemma => kernel_rfl) (by as_aux_lemma => kernel_rfl) (by as_aux_lemma => kernel_rfl) (fun _ _ _ h => h) (Or.inl ⟨by rfl, fun wq hSw => by go_simp⟩) (by assumption) ?_
    simp only [Act.put, List.setIfInBounds_toArray, List.set_cons_zero, List.set_cons_succ]
    refine wpAnyH_takeD 29 (i := 18) (v := .pointer (some ⟨q, 2, none⟩)) rfl rfl (by as_aux_lemma => kernel_rfl) (by as_aux_lemma => kernel_rfl) (by as_aux_lemma => kernel_rfl) (fun _ _ _ h => h) (Or.inl ⟨by rfl, fun wq hSw => by go_simp⟩) (by assumption) ?_
    simp only [Act.put, List.setIfInBounds_toArray, List.set_cons_zero, List.set_cons_succ]
    refine wpAnyH_takeD 30 (i := 19) (v := .int .u8 keepS.kind) rfl rfl (by as_aux_lemma => kernel_rfl) (by as_aux_lemma => kernel_rfl) (by as_aux_lemma => kernel_rfl) (fun _ _ _ h => h) (Or.inl ⟨by rfl, fun wq hSw => by have k := hSw.k2; go_simp⟩) (by assumption) ?_
    simp only [Act.put, List.setIfInBounds_toArray, List.set_cons_zero, List.set_cons_succ]
    refine wpAnyH_takeD 31 (i := 20) (v := .pointer (some ⟨w.heap.size + 1, 2, none⟩)) rfl rfl (by as_aux_lemma => kernel_rfl) (by as_aux_lemma => kernel_rfl) (by as_aux_lemma => kernel_rfl) (fun _ _ _ h => h) (Or.inl ⟨by rfl, fun wq hSw => by go_simp⟩) (by assumption) ?_
    simp only [Act.put, List.setIfInBounds_toArray, List.set_cons_zero, List.set_cons_succ]
    refine wpAnyH_takeD 32 (i := 21) (v := .pointer (some ⟨w.heap.size + 1, 2, none⟩)) rfl rfl (by as_aux_lemma => kernel_rfl) (by as_aux_lemma => kernel_rfl) (by as_aux_lemma => kernel_rfl) (fun _ _ _ h => h) (Or.inl ⟨by rfl, fun wq hSw => by go_simp⟩) (by assumption) ?_
    simp only [Act.put, List.setIfInBounds_toArray, List.set_cons_zero, List.set_cons_succ]
    refine wpAnyH_takeD 33 (i := 22) (v := .int .u8 h.kind) rfl rfl (by as_aux_lemma => kernel_rfl) (by as_aux_lemma => kernel_rfl) (by as_aux_lemma => kernel_rfl) (fun _ _ _ h => h) (Or.inl ⟨by rfl, fun wq hSw => by have k := hSw.h2; go_simp⟩) (by assumption) ?_
    simp only [Act.put, List.setIfInBounds_toArray, List.set_cons_zero, List.set_cons_succ]
    refine wpAnyH_takeD 35 (i := 24) (v := .pointer (some ⟨w.heap.size, 2, none⟩)) rfl rfl (by as_aux_lemma => kernel_rfl) (by as_aux_lemma => kernel_rfl) (by as_aux_lemma => kernel_rfl) (fun _ _ _ h => h) (Or.inl ⟨by rfl, fun wq hSw => by go_simp⟩) (by assumption) ?_
    simp only [Act.put, List.setIfInBounds_toArray, List.set_cons_zero, List.set_cons_succ]
    refine wpAnyH_takeD 36 (i := 25) (v := .pointer (some ⟨w.heap.size, 3, none⟩)) rfl rfl (by as_aux_lemma => kernel_rfl) (by as_aux_lemma => kernel_rfl) (by as_aux_lemma => kernel_rfl) (fun _ _ _ h => h) (Or.inl ⟨by rfl, fun wq hSw => by go_simp⟩) (by assumption) ?_
    simp only [Act.put, List.setIfInBounds_toArray, List.set_cons_zero, List.set_cons_succ]
    refine wpAnyH_takeD 37 (i := 26) (v := .int .u32 s.vers) rfl rfl (by as_aux_lemma => kernel_rfl) (by as_aux_lemma => kernel_rfl) (by as_aux_lemma => kernel_rfl) (fun _ _ _ h => h) (Or.inl ⟨by rfl, fun wq hSw => by have k := hSw.s3; go_simp⟩) (by assumption) ?_
    simp only [Act.put, List.setIfInBounds_toArray, List.set_cons_zero, List.set_cons_succ]
    refine wpAnyH_takeD 38 (i := 27) (v := .pointer (some ⟨q, 2, none⟩)) rfl rfl (by as_aux_lemma => kernel_rfl) (by as_aux_lemma => kernel_rfl) (by as_aux_lemma => kernel_rfl) (fun _ _ _ h => h) (Or.inl ⟨by rfl, fun wq hSw => by go_simp⟩) (by assumption) ?_
    simp only [Act.put, List.setIfInBounds_toArray, List.set_cons_zero, List.set_cons_succ]
    refine wpAnyH_takeD 39 (i := 28) (v := .pointer (some ⟨q, 3, none⟩)) rfl rfl (by as_aux_lemma => kernel_rfl) (by as_aux_lemma => kernel_rfl) (by as_aux_lemma => kernel_rfl) (fun _ _ _ h => h) (Or.inl ⟨by rfl, fun wq hSw => by go_simp⟩) (by assumption) ?_
    simp only [Act.put, List.setIfInBounds_toArray, List.set_cons_zero, List.set_cons_succ]
    refine wpAnyH_takeD 40 (i := 29) (v := .int .u32 keepS.vers) rfl rfl (by as_aux_lemma => kernel_rfl) (by as_aux_lemma => kernel_rfl) (by as_aux_lemma => kernel_rfl) (fun _ _ _ h => h) (Or.inl ⟨by rfl, fun wq hSw => by have k := hSw.k3; go_simp⟩) (by assumption) ?_
    simp only [Act.put, List.setIfInBounds_toArray, List.set_cons_zero, List.set_cons_succ]
    refine wpAnyH_takeD 41 (i := 30) (v := .pointer (some ⟨w.heap.size + 1, 2, none⟩)) rfl rfl (by as_aux_lemma => kernel_rfl) (by as_aux_lemma => kernel_rfl) (by as_aux_lemma => kernel_rfl) (fun _ _ _ h => h) (Or.inl ⟨by rfl, fun wq hSw => by go_simp⟩) (by assumption) ?_
    simp only [Act.put, List.setIfInBounds_toArray, List.set_cons_zero, List.set_cons_succ]
    refine wpAnyH_takeD 42 (i := 31) (v := .pointer (some ⟨w.heap.size + 1, 3, none⟩)) rfl rfl (by as_aux_lemma => kernel_rfl) (by as_aux_lemma => kernel_rfl) (by as_aux_lemma => kernel_rfl) (fun _ _ _ h => h) (Or.inl ⟨by rfl, fun wq hSw => by go_simp⟩) (by assumption) ?_
    simp only [Act.put, List.setIfInBounds_toArray, List.set_cons_zero, List.set_cons_succ]
    refine wpAnyH_takeD 43 (i := 32) (v := .int .u32 h.vers) rfl rfl (by as_aux_lemma => kernel_rfl) (by as_aux_lemma => kernel_rfl) (by as_aux_lemma => kernel_rfl) (fun _ _ _ h => h) (Or.inl ⟨by rfl, fun wq hSw => by have k := hSw.h3; go_simp⟩) (by assumption) ?_
    simp only [Act.put, List.setIfInBounds_toArray, List.set_cons_zero, List.set_cons_succ]
    refine wpAnyH_takeD 45 (i := 34) (v := .pointer (some ⟨w.heap.size, 2, none⟩)) rfl rfl (by as_aux_lemma => kernel_rfl) (by as_aux_lemma => kernel_rfl) (by as_aux_lemma => kernel_rfl) (fun _ _ _ h => h) (Or.inl ⟨by rfl, fun wq hSw => by go_simp⟩) (by assumption) ?_
    simp only [Act.put, List.setIfInBounds_toArray, List.set_cons_zero, List.set_cons_succ]
    refine wpAnyH_takeD 46 (i := 35) (v := .pointer (some ⟨w.heap.size, 4, none⟩)) rfl rfl (by as_aux_lemma => kernel_rfl) (by as_aux_lemma => kernel_rfl) (by as_aux_lemma => kernel_rfl) (fun _ _ _ h => h) (Or.inl ⟨by rfl, fun wq hSw => by go_simp⟩) (by assumption) ?_
    simp only [Act.put, List.setIfInBounds_toArray, List.set_cons_zero, List.set_cons_succ]
    refine wpAnyH_takeD 47 (i := 36) (v := .int .u64 s.path) rfl rfl (by as_aux_lemma => kernel_rfl) (by as_aux_lemma => kernel_rfl) (by as_aux_lemma => kernel_rfl) (fun _ _ _ h => h) (Or.inl ⟨by rfl, fun wq hSw => by have k := hSw.s4; go_simp⟩) (by assumption) ?_
    simp only [Act.put, List.setIfInBounds_toArray, List.set_cons_zero, List.set_cons_succ]
    refine wpAnyH_takeD 48 (i := 37) (v := .pointer (some ⟨q, 2, none⟩)) rfl rfl (by as_aux_lemma => kernel_rfl) (by as_aux_lemma => kernel_rfl) (by as_aux_lemma => kernel_rfl) (fun _ _ _ h => h) (Or.inl ⟨by rfl, fun wq hSw => by go_simp⟩) (by assumption) ?_
    simp only [Act.put, List.setIfInBounds_toArray, List.set_cons_zero, List.set_cons_succ]
    refine wpAnyH_takeD 49 (i := 38) (v := .pointer (some ⟨q, 4, none⟩)) rfl rfl (by as_aux_lemma => kernel_rfl) (by as_aux_lemma => kernel_rfl) (by as_aux_lemma => kernel_rfl) (fun _ _ _ h => h) (Or.inl ⟨by rfl, fun wq hSw => by go_simp⟩) (by assumption) ?_
    simp only [Act.put, List.setIfInBounds_toArray, List.set_cons_zero, List.set_cons_succ]
    refine wpAnyH_takeD 50 (i := 39) (v := .int .u64 keepS.path) rfl rfl (by as_aux_lemma => kernel_rfl) (by as_aux_lemma => kernel_rfl) (by as_aux_lemma => kernel_rfl) (fun _ _ _ h => h) (Or.inl ⟨by rfl, fun wq hSw => by have k := hSw.k4; go_simp⟩) (by assumption) ?_
    simp only [Act.put, List.setIfInBounds_toArray, List.set_cons_zero, List.set_cons_succ]
    refine wpAnyH_takeD 51 (i := 40) (v := .pointer (some ⟨w.heap.size + 1, 2, none⟩)) rfl rfl (by as_aux_lemma => kernel_rfl) (by as_aux_lemma => kernel_rfl) (by as_aux_lemma => kernel_rfl) (fun _ _ _ h => h) (Or.inl ⟨by rfl, fun wq hSw => by go_simp⟩) (by assumption) ?_
    simp only [Act.put, List.setIfInBounds_toArray, List.set_cons_zero, List.set_cons_succ]
    refine wpAnyH_takeD 52 (i := 41) (v := .pointer (some ⟨w.heap.size + 1, 4, none⟩)) rfl rfl (by as_aux_lemma => kernel_rfl) (by as_aux_lemma => kernel_rfl) (by as_aux_lemma => kernel_rfl) (fun _ _ _ h => h) (Or.inl ⟨by rfl, fun wq hSw => by go_simp⟩) (by assumption) ?_
    simp only [Act.put, List.setIfInBounds_toArray, List.set_cons_zero, List.set_cons_succ]
    refine wpAnyH_takeD 53 (i := 42) (v := .int .u64 h.path) rfl rfl (by as_aux_lemma => kernel_rfl) (by as_aux_lemma => kernel_rfl) (by as_aux_lemma => kernel_rfl) (fun _ _ _ h => h) (Or.inl ⟨by rfl, fun wq hSw => by have k := hSw.h4; go_simp⟩) (by assumption) ?_
    simp only [Act.put, List.setIfInBounds_toArray, List.set_cons_zero, List.set_cons_succ]
    refine wpAnyH_takeD 55 (i := 44) (v := .pointer (some ⟨w.heap.size, 5, none⟩)) rfl rfl (by as_aux_lemma => kernel_rfl) (by as_aux_lemma => kernel_rfl) (by as_aux_lemma => kernel_rfl) (fun _ _ _ h => h) (Or.inl ⟨by rfl, fun wq hSw => by go_simp⟩) (by assumption) ?_
    simp only [Act.put, List.setIfInBounds_toArray, List.set_cons_zero, List.set_cons_succ]
    refine wpAnyH_takeD 56 (i := 45) (v := .int .u32 s.mode) rfl rfl (by as_aux_lemma => kernel_rfl) (by as_aux_lemma => kernel_rfl) (by as_aux_lemma => kernel_rfl) (fun _ _ _ h => h) (Or.inl ⟨by rfl, fun wq hSw => by have k := hSw.s5; go_simp⟩) (by assumption) ?_
    simp only [Act.put, List.setIfInBounds_toArray, List.set_cons_zero, List.set_cons_succ]
    refine wpAnyH_takeD 57 (i := 46) (v := .pointer (some ⟨q, 5, none⟩)) rfl rfl (by as_aux_lemma => kernel_rfl) (by as_aux_lemma => kernel_rfl) (by as_aux_lemma => kernel_rfl) (fun _ _ _ h => h) (Or.inl ⟨by rfl, fun wq hSw => by go_simp⟩) (by assumption) ?_
    simp only [Act.put, List.setIfInBounds_toArray, List.set_cons_zero, List.set_cons_succ]
    refine wpAnyH_takeD 58 (i := 47) (v := .int .u32 keepS.mode) rfl rfl (by as_aux_lemma => kernel_rfl) (by as_aux_lemma => kernel_rfl) (by as_aux_lemma => kernel_rfl) (fun _ _ _ h => h) (Or.inl ⟨by rfl, fun wq hSw => by have k := hSw.k5; go_simp⟩) (by assumption) ?_
    simp only [Act.put, List.setIfInBounds_toArray, List.set_cons_zero, List.set_cons_succ]
    refine wpAnyH_takeD 59 (i := 48) (v := .pointer (some ⟨w.heap.size + 1, 5, none⟩)) rfl rfl (by as_aux_lemma => kernel_rfl) (by as_aux_lemma => kernel_rfl) (by as_aux_lemma => kernel_rfl) (fun _ _ _ h => h) (Or.inl ⟨by rfl, fun wq hSw => by go_simp⟩) (by assumption) ?_
    simp only [Act.put, List.setIfInBounds_toArray, List.set_cons_zero, List.set_cons_succ]
    refine wpAnyH_takeD 60 (i := 49) (v := .int .u32 h.mode) rfl rfl (by as_aux_lemma => kernel_rfl) (by as_aux_lemma => kernel_rfl) (by as_aux_lemma => kernel_rfl) (fun _ _ _ h => h) (Or.inl ⟨by rfl, fun wq hSw => by have k := hSw.h5; go_simp⟩) (by assumption) ?_
    simp only [Act.put, List.setIfInBounds_toArray, List.set_cons_zero, List.set_cons_succ]
    refine wpAnyH_takeD 62 (i := 51) (v := .pointer (some ⟨w.heap.size, 6, none⟩)) rfl rfl (by as_aux_lemma => kernel_rfl) (by as_aux_lemma => kernel_rfl) (by as_aux_lemma => kernel_rfl) (fun _ _ _ h => h) (Or.inl ⟨by rfl, fun wq hSw => by go_simp⟩) (by assumption) ?_
    simp only [Act.put, List.setIfInBounds_toArray, List.set_cons_zero, List.set_cons_succ]
    refine wpAnyH_takeD 63 (i := 52) (v := .int .u32 s.atime) rfl rfl (by as_aux_lemma => kernel_rfl) (by as_aux_lemma => kernel_rfl) (by as_aux_lemma => kernel_rfl) (fun _ _ _ h => h) (Or.inl ⟨by rfl, fun wq hSw => by have k := hSw.s6; go_simp⟩) (by assumption) ?_
    simp only [Act.put, List.setIfInBounds_toArray, List.set_cons_zero, List.set_cons_succ]
    refine wpAnyH_takeD 64 (i := 53) (v := .pointer (some ⟨q, 6, none⟩)) rfl rfl (by as_aux_lemma => kernel_rfl) (by as_aux_lemma => kernel_rfl) (by as_aux_lemma => kernel_rfl) (fun _ _ _ h => h) (Or.inl ⟨by rfl, fun wq hSw => by go_simp⟩) (by assumption) ?_
    simp only [Act.put, List.setIfInBounds_toArray, List.set_cons_zero, List.set_cons_succ]
    refine wpAnyH_takeD 65 (i := 54) (v := .int .u32 keepS.atime) rfl rfl (by as_aux_lemma => kernel_rfl) (by as_aux_lemma => kernel_rfl) (by as_aux_lemma => kernel_rfl) (fun _ _ _ h => h) (Or.inl ⟨by rfl, fun wq hSw => by have k := hSw.k6; go_simp⟩) (by assumption) ?_
    simp only [Act.put, List.setIfInBounds_toArray, List.set_cons_zero, List.set_cons_succ]
    refine wpAnyH_takeD 66 (i := 55) (v := .pointer (some ⟨w.heap.size + 1, 6, none⟩)) rfl rfl (by as_aux_lemma => kernel_rfl) (by as_aux_lemma => kernel_rfl) (by as_aux_lemma => kernel_rfl) (fun _ _ _ h => h) (Or.inl ⟨by rfl, fun wq hSw => by go_simp⟩) (by assumption) ?_
    simp only [Act.put, List.setIfInBounds_toArray, List.set_cons_zero, List.set_cons_succ]
    refine wpAnyH_takeD 67 (i := 56) (v := .int .u32 h.atime) rfl rfl (by as_aux_lemma => kernel_rfl) (by as_aux_lemma => kernel_rfl) (by as_aux_lemma => kernel_rfl) (fun _ _ _ h => h) (Or.inl ⟨by rfl, fun wq hSw => by have k := hSw.h6; go_simp⟩) (by assumption) ?_
    simp only [Act.put, List.setIfInBounds_toArray, List.set_cons_zero, List.set_cons_succ]
    refine wpAnyH_takeD 69 (i := 58) (v := .pointer (some ⟨w.heap.size, 7, none⟩)) rfl rfl (by as_aux_lemma => kernel_rfl) (by as_aux_lemma => kernel_rfl) (by as_aux_lemma => kernel_rfl) (fun _ _ _ h => h) (Or.inl ⟨by rfl, fun wq hSw => by go_simp⟩) (by assumption) ?_
    simp only [Act.put, List.setIfInBounds_toArray, List.set_cons_zero, List.set_cons_succ]
    refine wpAnyH_takeD 70 (i := 59) (v := .int .u32 s.mtime) rfl rfl (by as_aux_lemma => kernel_rfl) (by as_aux_lemma => kernel_rfl) (by as_aux_lemma => kernel_rfl) (fun _ _ _ h => h) (Or.inl ⟨by rfl, fun wq hSw => by have k := hSw.s7; go_simp⟩) (by assumption) ?_
    simp only [Act.put, List.setIfInBounds_toArray, List.set_cons_zero, List.set_cons_succ]
    refine wpAnyH_takeD 71 (i := 60) (v := .pointer (some ⟨q, 7, none⟩)) rfl rfl (by as_aux_lemma => kernel_rfl) (by as_aux_lemma => kernel_rfl) (by as_aux_lemma => kernel_rfl) (fun _ _ _ h => h) (Or.inl ⟨by rfl, fun wq hSw => by go_simp⟩) (by assumption) ?_
    simp only [Act.put, List.setIfInBounds_toArray, List.set_cons_zero, List.set_cons_succ]
    refine wpAnyH_takeD 72 (i := 61) (v := .int .u32 keepS.mtime) rfl rfl (by as_aux_lemma => kernel_rfl) (by as_aux_lemma => kernel_rfl) (by as_aux_lemma => kernel_rfl) (fun _ _ _ h => h) (Or.inl ⟨by rfl, fun wq hSw => by have k := hSw.k7; go_simp⟩) (by assumption) ?_
    simp only [Act.put, List.setIfInBounds_toArray, List.set_cons_zero, List.set_cons_succ]
    refine wpAnyH_takeD 73 (i := 62) (v := .pointer (some ⟨w.heap.size + 1, 7, none⟩)) rfl rfl (by as_aux_lemma => kernel_rfl) (by as_aux_lemma => kernel_rfl) (by as_aux_lemma => kernel_rfl) (fun _ _ _ h => h) (Or.inl ⟨by rfl, fun wq hSw => by go_simp⟩) (by assumption) ?_
    simp only [Act.put, List.setIfInBounds_toArray, List.set_cons_zero, List.set_cons_succ]
    refine wpAnyH_takeD 74 (i := 63) (v := .int .u32 h.mtime) rfl rfl (by as_aux_lemma => kernel_rfl) (by as_aux_lemma => kernel_rfl) (by as_aux_lemma => kernel_rfl) (fun _ _ _ h => h) (Or.inl ⟨by rfl, fun wq hSw => by have k := hSw.h7; go_simp⟩) (by assumption) ?_
    simp only [Act.put, List.setIfInBounds_toArray, List.set_cons_zero, List.set_cons_succ]
    refine wpAnyH_takeD 76 (i := 65) (v := .pointer (some ⟨w.heap.size, 8, none⟩)) rfl rfl (by as_aux_lemma => kernel_rfl) (by as_aux_lemma => kernel_rfl) (by as_aux_lemma => kernel_rfl) (fun _ _ _ h => h) (Or.inl ⟨by rfl, fun wq hSw => by go_simp⟩) (by assumption) ?_
    simp only [Act.put, List.setIfInBounds_toArray, List.set_cons_zero, List.set_cons_succ]
    refine wpAnyH_takeD 77 (i := 66) (v := .int .u64 s.length) rfl rfl (by as_aux_lemma => kernel_rfl) (by as_aux_lemma => kernel_rfl) (by as_aux_lemma => kernel_rfl) (fun _ _ _ h => h) (Or.inl ⟨by rfl, fun wq hSw => by have k := hSw.s8; go_simp⟩) (by assumption) ?_
    simp only [Act.put, List.setIfInBounds_toArray, List.set_cons_zero, List.set_cons_succ]
    refine wpAnyH_takeD 78 (i := 67) (v := .pointer (some ⟨q, 8, none⟩)) rfl rfl (by as_aux_lemma => kernel_rfl) (by as_aux_lemma => kernel_rfl) (by as_aux_lemma => kernel_rfl) (fun _ _ _ h => h) (Or.inl ⟨by rfl, fun wq hSw => by go_simp⟩) (by assumption) ?_
    simp only [Act.put, List.setIfInBounds_toArray, List.set_cons_zero, List.set_cons_succ]
    refine wpAnyH_takeD 79 (i := 68) (v := .int .u64 keepS.length) rfl rfl (by as_aux_lemma => kernel_rfl) (by as_aux_lemma => kernel_rfl) (by as_aux_lemma => kernel_rfl) (fun _ _ _ h => h) (Or.inl ⟨by rfl, fun wq hSw => by have k := hSw.k8; go_simp⟩) (by assumption) ?_
    simp only [Act.put, List.setIfInBounds_toArray, List.set_cons_zero, List.set_cons_succ]
    refine wpAnyH_takeD 80 (i := 69) (v := .pointer (some ⟨w.heap.size + 1, 8, none⟩)) rfl rfl (by as_aux_lemma => kernel_rfl) (by as_aux_lemma => kernel_rfl) (by as_aux_lemma => kernel_rfl) (fun _ _ _ h => h) (Or.inl ⟨by rfl, fun wq hSw => by go_simp⟩) (by assumption) ?_
    simp only [Act.put, List.setIfInBounds_toArray, List.set_cons_zero, List.set_cons_succ]
    refine wpAnyH_takeD 81 (i := 70) (v := .int .u64 h.length) rfl rfl (by as_aux_lemma => kernel_rfl) (by as_aux_lemma => kernel_rfl) (by as_aux_lemma => kernel_rfl) (fun _ _ _ h => h) (Or.inl ⟨by rfl, fun wq hSw => by have k := hSw.h8; go_simp⟩) (by assumption) ?_
    simp only [Act.put, List.setIfInBounds_toArray, List.set_cons_zero, List.set_cons_succ]
    refine wpAnyH_takeD 83 (i := 72) (v := .pointer (some ⟨w.heap.size, 9, none⟩)) rfl rfl (by as_aux_lemma => kernel_rfl) (by as_aux_lemma => kernel_rfl) (by as_aux_lemma => kernel_rfl) (fun _ _ _ h => h) (Or.inl ⟨by rfl, fun wq hSw => by go_simp⟩) (by assumption) ?_
    simp only [Act.put, List.setIfInBounds_toArray, List.set_cons_zero, List.set_cons_succ]
    refine wpAnyH_takeD 84 (i := 73) (v := .string s.name) rfl rfl (by as_aux_lemma => kernel_rfl) (by as_aux_lemma => kernel_rfl) (by as_aux_lemma => kernel_rfl) (fun _ _ _ h => h) (Or.inl ⟨by rfl, fun wq hSw => by have k := hSw.s9; go_simp⟩) (by assumption) ?_
    simp only [Act.put, List.setIfInBounds_toArray, List.set_cons_zero, List.set_cons_succ]
    refine wpAnyH_takeD 85 (i := 74) (v := .pointer (some ⟨q, 9, none⟩)) rfl rfl (by as_aux_lemma => kernel_rfl) (by as_aux_lemma => kernel_rfl) (by as_aux_lemma => kernel_rfl) (fun _ _ _ h => h) (Or.inl ⟨by rfl, fun wq hSw => by go_simp⟩) (by assumption) ?_
    simp only [Act.put, List.setIfInBounds_toArray, List.set_cons_zero, List.set_cons_succ]
    refine wpAnyH_takeD 86 (i := 75) (v := .string keepS.name) rfl rfl (by as_aux_lemma => kernel_rfl) (by as_aux_lemma => kernel_rfl) (by as_aux_lemma => kernel_rfl) (fun _ _ _ h => h) (Or.inl ⟨by rfl, fun wq hSw => by have k := hSw.k9; go_simp⟩) (by assumption) ?_
    simp only [Act.put, List.setIfInBounds_toArray, List.set_cons_zero, List.set_cons_succ]
    refine wpAnyH_takeD 87 (i := 76) (v := .pointer (some ⟨w.heap.size + 1, 9, none⟩)) rfl rfl (by as_aux_lemma => kernel_rfl) (by as_aux_lemma => kernel_rfl) (by as_aux_lemma => kernel_rfl) (fun _ _ _ h => h) (Or.inl ⟨by rfl, fun wq hSw => by go_simp⟩) (by assumption) ?_
    simp only [Act.put, List.setIfInBounds_toArray, List.set_cons_zero, List.set_cons_succ]
    refine wpAnyH_takeD 88 (i := 77) (v := .string h.name) rfl rfl (by as_aux_lemma => kernel_rfl) (by as_aux_lemma => kernel_rfl) (by as_aux_lemma => kernel_rfl) (fun _ _ _ h => h) (Or.inl ⟨by rfl, fun wq hSw => by have k := hSw.h9; go_simp⟩) (by assumption) ?_
    simp only [Act.put, List.setIfInBounds_toArray, List.set_cons_zero, List.set_cons_succ]
    refine wpAnyH_takeD 90 (i := 79) (v := .pointer (some ⟨w.heap.size, 10, none⟩)) rfl rfl (by as_aux_lemma => kernel_rfl) (by as_aux_lemma => kernel_rfl) (by as_aux_lemma => kernel_rfl) (fun _ _ _ h => h) (Or.inl ⟨by rfl, fun wq hSw => by go_simp⟩) (by assumption) ?_
    simp only [Act.put, List.setIfInBounds_toArray, List.set_cons_zero, List.set_cons_succ]
    refine wpAnyH_takeD 91 (i := 80) (v := .string s.uid) rfl rfl (by as_aux_lemma => kernel_rfl) (by as_aux_lemma => kernel_rfl) (by as_aux_lemma => kernel_rfl) (fun _ _ _ h => h) (Or.inl ⟨by rfl, fun wq hSw => by have k := hSw.s10; go_simp⟩) (by assumption) ?_
    simp only [Act.put, List.setIfInBounds_toArray, List.set_cons_zero, List.set_cons_succ]
    refine wpAnyH_takeD 92 (i := 81) (v := .pointer (some ⟨q, 10, none⟩)) rfl rfl (by as_aux_lemma => kernel_rfl) (by as_aux_lemma => kernel_rfl) (by as_aux_lemma => kernel_rfl) (fun _ _ _ h => h) (Or.inl ⟨by rfl, fun wq hSw => by go_simp⟩) (by assumption) ?_
    simp only [Act.put, List.setIfInBounds_toArray, List.set_cons_zero, List.set_cons_succ]
    refine wpAnyH_takeD 93 (i := 82) (v := .string keepS.uid) rfl rfl (by as_aux_lemma => kernel_rfl) (by as_aux_lemma => kernel_rfl) (by as_aux_lemma => kernel_rfl) (fun _ _ _ h => h) (Or.inl ⟨by rfl, fun wq hSw => by have k := hSw.k10; go_simp⟩) (by assumption) ?_
    simp only [Act.put, List.setIfInBounds_toArray, List.set_cons_zero, List.set_cons_succ]
    refine wpAnyH_takeD 94 (i := 83) (v := .pointer (some ⟨w.heap.size + 1, 10, none⟩)) rfl rfl (by as_aux_lemma => kernel_rfl) (by as_aux_lemma => kernel_rfl) (by as_aux_lemma => kernel_rfl) (fun _ _ _ h => h) (Or.inl ⟨by rfl, fun wq hSw => by go_simp⟩) (by assumption) ?_
    simp only [Act.put, List.setIfInBounds_toArray, List.set_cons_zero, List.set_cons_succ]
    refine wpAnyH_takeD 95 (i := 84) (v := .string h.uid) rfl rfl (by as_aux_lemma => kernel_rfl) (by as_aux_lemma => kernel_rfl) (by as_aux_lemma => kernel_rfl) (fun _ _ _ h => h) (Or.inl ⟨by rfl, fun wq hSw => by have k := hSw.h10; go_simp⟩) (by assumption) ?_
    simp only [Act.put, List.setIfInBounds_toArray, List.set_cons_zero, List.set_cons_succ]
    refine wpAnyH_takeD 97 (i := 86) (v := .pointer (some ⟨w.heap.size, 11, none⟩)) rfl rfl (by as_aux_lemma => kernel_rfl) (by as_aux_lemma => kernel_rfl) (by as_aux_lemma => kernel_rfl) (fun _ _ _ h => h) (Or.inl ⟨by rfl, fun wq hSw => by go_simp⟩) (by assumption) ?_
    simp only [Act.put, List.setIfInBounds_toArray, List.set_cons_zero, List.set_cons_succ]
    refine wpAnyH_takeD 98 (i := 87) (v := .string s.gid) rfl rfl (by as_aux_lemma => kernel_rfl) (by as_aux_lemma => kernel_rfl) (by as_aux_lemma => kernel_rfl) (fun _ _ _ h => h) (Or.inl ⟨by rfl, fun wq hSw => by have k := hSw.s11; go_simp⟩) (by assumption) ?_
    simp only [Act.put, List.setIfInBounds_toArray, List.set_cons_zero, List.set_cons_succ]
    refine wpAnyH_takeD 99 (i := 88) (v := .pointer (some ⟨q, 11, none⟩)) rfl rfl (by as_aux_lemma => kernel_rfl) (by as_aux_lemma => kernel_rfl) (by as_aux_lemma => kernel_rfl) (fun _ _ _ h => h) (Or.inl ⟨by rfl, fun wq hSw => by go_simp⟩) (by assumption) ?_
    simp only [Act.put, List.setIfInBounds_toArray, List.set_cons_zero, List.set_cons_succ]
    refine wpAnyH_takeD 100 (i := 89) (v := .string keepS.gid) rfl rfl (by as_aux_lemma => kernel_rfl) (by as_aux_lemma => kernel_rfl) (by as_aux_lemma => kernel_rfl) (fun _ _ _ h => h) (Or.inl ⟨by rfl, fun wq hSw => by have k := hSw.k11; go_simp⟩) (by assumption) ?_
    simp only [Act.put, List.setIfInBounds_toArray, List.set_cons_zero, List.set_cons_succ]
    refine wpAnyH_takeD 101 (i := 90) (v := .pointer (some ⟨w.heap.size + 1, 11, none⟩)) rfl rfl (by as_aux_lemma => kernel_rfl) (by as_aux_lemma => kernel_rfl) (by as_aux_lemma => kernel_rfl) (fun _ _ _ h => h) (Or.inl ⟨by rfl, fun wq hSw => by go_simp⟩) (by assumption) ?_
    simp only [Act.put, List.setIfInBounds_toArray, List.set_cons_zero, List.set_cons_succ]
    refine wpAnyH_takeD 102 (i := 91) (v := .string h.gid) rfl rfl (by as_aux_lemma => kernel_rfl) (by as_aux_lemma => kernel_rfl) (by as_aux_lemma => kernel_rfl) (fun _ _ _ h => h) (Or.inl ⟨by rfl, fun wq hSw => by have k := hSw.h11; go_simp⟩) (by assumption) ?_
    simp only [Act.put, List.setIfInBounds_toArray, List.set_cons_zero, List.set_cons_succ]
    refine wpAnyH_takeD 104 (i := 93) (v := .pointer (some ⟨w.heap.size, 12, none⟩)) rfl rfl (by as_aux_lemma => kernel_rfl) (by as_aux_lemma => kernel_rfl) (by as_aux_lemma => kernel_rfl) (fun _ _ _ h => h) (Or.inl ⟨by rfl, fun wq hSw => by go_simp⟩) (by assumption) ?_
    simp only [Act.put, List.setIfInBounds_toArray, List.set_cons_zero, List.set_cons_succ]
    refine wpAnyH_takeD 105 (i := 94) (v := .string s.muid) rfl rfl (by as_aux_lemma => kernel_rfl) (by as_aux_lemma => kernel_rfl) (by as_aux_lemma => kernel_rfl) (fun _ _ _ h => h) (Or.inl ⟨by rfl, fun wq hSw => by have k := hSw.s12; go_simp⟩) (by assumption) ?_
    simp only [Act.put, List.setIfInBounds_toArray, List.set_cons_zero, List.set_cons_succ]
    refine wpAnyH_takeD 106 (i := 95) (v := .pointer (some ⟨q, 12, none⟩)) rfl rfl (by as_aux_lemma => kernel_rfl) (by as_aux_lemma => kernel_rfl) (by as_aux_lemma => kernel_rfl) (fun _ _ _ h => h) (Or.inl ⟨by rfl, fun wq hSw => by go_simp⟩) (by assumption) ?_
    simp only [Act.put, List.setIfInBounds_toArray, List.set_cons_zero, List.set_cons_succ]
    refine wpAnyH_takeD 107 (i := 96) (v := .string keepS.muid) rfl rfl (by as_aux_lemma => kernel_rfl) (by as_aux_lemma => kernel_rfl) (by as_aux_lemma => kernel_rfl) (fun _ _ _ h => h) (Or.inl ⟨by rfl, fun wq hSw => by have k := hSw.k12; go_simp⟩) (by assumption) ?_
    simp only [Act.put, List.setIfInBounds_toArray, List.set_cons_zero, List.set_cons_succ]
    refine wpAnyH_takeD 108 (i := 97) (v := .pointer (some ⟨w.heap.size + 1, 12, none⟩)) rfl rfl (by as_aux_lemma => kernel_rfl) (by as_aux_lemma => kernel_rfl) (by as_aux_lemma => kernel_rfl) (fun _ _ _ h => h) (Or.inl ⟨by rfl, fun wq hSw => by go_simp⟩) (by assumption) ?_
    simp only [Act.put, List.setIfInBounds_toArray, List.set_cons_zero, List.set_cons_succ]
    refine wpAnyH_takeD 109 (i := 98) (v := .string h.muid) rfl rfl (by as_aux_lemma => kernel_rfl) (by as_aux_lemma => kernel_rfl) (by as_aux_lemma => kernel_rfl) (fun _ _ _ h => h) (Or.inl ⟨by rfl, fun wq hSw => by have k := hSw.h12; go_simp⟩) (by assumption) ?_
    simp only [Act.put, List.setIfInBounds_toArray, List.set_cons_zero, List.set_cons_succ]
    refine wpAnyH_ready (rs := [6]) (by as_aux_lemma => kernel_rfl) (by simp) ?_
    refine AllReadyH.cons rfl (fun K hK => ?_) AllReadyH.nil
    rw [if_pos (by rfl)]
    go_simp
    (with_reducible refine (asks_u16 _ _ _ _).mono ?_)
    rintro e w3 ⟨rfl, rfl⟩
    dsimp only
    refine hK.out _ _ hHeld (fun hHeld => ?_)
    clear hK
    refine wpAnyH_ready (rs := [13]) (by as_aux_lemma => kernel_rfl) (by simp) ?_
    refine AllReadyH.cons rfl (fun K hK => ?_) AllReadyH.nil
    rw [if_pos (by rfl)]
    go_simp
    (with_reducible refine (asks_u32 _ _ _ _).mono ?_)
    rintro e w3 ⟨rfl, rfl⟩
    dsimp only
    refine hK.out _ _ hHeld (fun hHeld => ?_)
    clear hK
    refine wpAnyH_ready (rs := [23]) (by as_aux_lemma => kernel_rfl) (by simp) ?_
    refine AllReadyH.cons rfl (fun K hK => ?_) AllReadyH.nil
    rw [if_pos (by rfl)]
    go_simp
    (with_reducible refine (asks_u8 _ _ _ _).mono ?_)
    rintro e w3 ⟨rfl, rfl⟩
    dsimp only
    refine hK.out _ _ hHeld (fun hHeld => ?_)
    clear hK
    refine wpAnyH_ready (rs := [33]) (by as_aux_lemma => kernel_rfl) (by simp) ?_
    refine AllReadyH.cons rfl (fun K hK => ?_) AllReadyH.nil
    rw [if_pos (by rfl)]
    go_simp
    (with_reducible refine (asks_u32 _ _ _ _).mono ?_)
    rintro e w3 ⟨rfl, rfl⟩
    dsimp only
    refine hK.out _ _ hHeld (fun hHeld => ?_)
    clear hK
    refine wpAnyH_ready (rs := [43]) (by as_aux_lemma => kernel_rfl) (by simp) ?_
    refine AllReadyH.cons rfl (fun K hK => ?_) AllReadyH.nil
    rw [if_pos (by rfl)]
    go_simp
    (with_reducible refine (asks_u64 _ _ _ _).mono ?_)
    rintro e w3 ⟨rfl, rfl⟩
    dsimp only
    refine hK.out _ _ hHeld (fun hHeld => ?_)
    clear hK
    refine wpAnyH_ready (rs := [50]) (by as_aux_lemma => kernel_rfl) (by simp) ?_
    refine AllReadyH.cons rfl (fun K hK => ?_) AllReadyH.nil
    rw [if_pos (by rfl)]
    go_simp
    (with_reducible refine (asks_u32 _ _ _ _).mono ?_)
    rintro e w3 ⟨rfl, rfl⟩
    dsimp only
    refine hK.out _ _ hHeld (fun hHeld => ?_)
    clear hK
    refine wpAnyH_ready (rs := [57]) (by as_aux_lemma => kernel_rfl) (by simp) ?_
    refine AllReadyH.cons rfl (fun K hK => ?_) AllReadyH.nil
    rw [if_pos (by rfl)]
    go_simp
    (with_reducible refine (asks_u32 _ _ _ _).mono ?_)
    rintro e w3 ⟨rfl, rfl⟩
    dsimp only
    refine hK.out _ _ hHeld (fun hHeld => ?_)
    clear hK
    refine wpAnyH_ready (rs := [64]) (by as_aux_lemma => kernel_rfl) (by simp) ?_
    refine AllReadyH.cons rfl (fun K hK => ?_) AllReadyH.nil
    rw [if_pos (by rfl)]
    go_simp
    (with_reducible refine (asks_u32 _ _ _ _).mono ?_)
    rintro e w3 ⟨rfl, rfl⟩
    dsimp only
    refine hK.out _ _ hHeld (fun hHeld => ?_)
    clear hK
    refine wpAnyH_ready (rs := [71]) (by as_aux_lemma => kernel_rfl) (by simp) ?_
    refine AllReadyH.cons rfl (fun K hK => ?_) AllReadyH.nil
    rw [if_pos (by rfl)]
    go_simp
    (with_reducible refine (asks_u64 _ _ _ _).mono ?_)
    rintro e w3 ⟨rfl, rfl⟩
    dsimp only
    refine hK.out _ _ hHeld (fun hHeld => ?_)
    clear hK
    refine wpAnyH_ready (rs := [78]) (by as_aux_lemma => kernel_rfl) (by simp) ?_
    refine AllReadyH.cons rfl (fun K hK => ?_) AllReadyH.nil
    rw [if_pos (by rfl)]
    go_simp
    (with_reducible refine (asks_string _ _ _ _).mono ?_)
    rintro e w3 ⟨rfl, rfl⟩
    dsimp only
    refine hK.out _ _ hHeld (fun hHeld => ?_)
    clear hK
    refine wpAnyH_ready (rs := [85]) (by as_aux_lemma => kernel_rfl) (by simp) ?_
    refine AllReadyH.cons rfl (fun K hK => ?_) AllReadyH.nil
    rw [if_pos (by rfl)]
    go_simp
    (with_reducible refine (asks_string _ _ _ _).mono ?_)
    rintro e w3 ⟨rfl, rfl⟩
    dsimp only
    refine hK.out _ _ hHeld (fun hHeld => ?_)
    clear hK
    refine wpAnyH_ready (rs := [92]) (by as_aux_lemma => kernel_rfl) (by simp) ?_
    refine AllReadyH.cons rfl (fun K hK => ?_) AllReadyH.nil
    rw [if_pos (by rfl)]
    go_simp
    (with_reducible refine (asks_string _ _ _ _).mono ?_)
    rintro e w3 ⟨rfl, rfl⟩
    dsimp only
    refine hK.out _ _ hHeld (fun hHeld => ?_)
    clear hK
    refine wpAnyH_ready (rs := [99]) (by as_aux_lemma => kernel_rfl) (by simp) ?_
    refine AllReadyH.cons rfl (fun K hK => ?_) AllReadyH.nil
    rw [if_pos (by rfl)]
    go_simp
    (with_reducible refine (asks_string _ _ _ _).mono ?_)
    rintro e w3 ⟨rfl, rfl⟩
    dsimp only
    refine hK.out _ _ hHeld (fun hHeld => ?_)
    clear hK
    refine wpAnyH_ready (rs := [100]) (by as_aux_lemma => kernel_rfl) (by simp) ?_
    refine AllReadyH.cons rfl (fun K hK => ?_) AllReadyH.nil
    rw [if_pos (by rfl)]
    go_simp
    refine hK.out _ _ ((HQ.out.next ((Below.refl _ _).alloc (Nat.le_refl _) _)).next (below_drew _)) (fun hHeld => ?_)
    refine wpAnyH_takeD 6 (i := 101) (v := .slice (some ⟨w4.heap.size, 0, none⟩) 13 13) rfl rfl (by as_aux_lemma => kernel_rfl) (by as_aux_lemma => kernel_rfl) (by as_aux_lemma => kernel_rfl) (fun _ _ _ h => h) (Or.inl ⟨by rfl, fun wq hSw => by go_simp⟩) (by assumption) ?_
    refine wpAnyH_done (by as_aux_lemma => kernel_rfl) ?_ _
    go_wp2_with fail
    go_meet
    case rel => exact ⟨w4.heap.size, rfl, Blk.drew (Blk.new w4 _ _), (hHeld.low)⟩
  case rest =>
  as_aux_lemma =>
  obtain ⟨qs, rfl, hb, hl⟩ := hcut
  have HB := Lib.hid (show Blk wc qs 4 #[.bool (touchB s h 0), .bool (touchB s h 1), .bool (touchB s h 2), .bool (touchB s h 3), .bool (touchB s h 4), .bool (touchB s h 5), .bool (touchB s h 6), .bool (touchB s h 7), .bool (touchB s h 8), .bool (touchB s h 9), .bool (touchB s h 10), .bool (touchB s h 11), .bool (touchB s h 12)] from hb)
  have HL := Lib.hid hl
  clear hb hl HQ HT
  go_wp2_with fail
  go_loop [7, 114] (fun f i => ∃ k : Nat, k ≤ 13 ∧ f = .int .u16 (orN (touchB s h) k : Nat) ∧ i = .int .i64 k) (fun _ i => 13 - (intOf i).toNat)
  case atStart => exact ⟨0, by omega, rfl, rfl⟩
  case round =>
    obtain ⟨k, hk, rfl, rfl⟩ := hrel
    obtain ⟨b, hbb⟩ : ∃ b, touchB s h = b := ⟨_, rfl⟩
    rw [hbb] at HB ⊢
    have HBB := Lib.hid hbb
    clear hbb
    rcases (show k = 0 ∨ k = 1 ∨ k = 2 ∨ k = 3 ∨ k = 4 ∨ k = 5 ∨ k = 6 ∨ k = 7 ∨ k = 8 ∨ k = 9 ∨ k = 10 ∨ k = 11 ∨ k = 12 ∨ k = 13 by omega) with rfl | rfl | rfl | rfl | rfl | rfl | rfl | rfl | rfl | rfl | rfl | rfl | rfl | rfl
    · have c : wc.cell? ⟨qs, 0, none⟩ = some (.bool (b 0)) := Blk.cell HB.out 0
      have ho : orN b 0 < 1 := orN_lt b 0
      cases hb : b 0
      · have HN := Lib.hid (show orN b 1 = orN b 0 from if_neg (by rw [hb]; decide))
        rw [hb] at c
        clear hb
        go_wp2_with fail
        go_round
        case rel => exact ⟨1, by omega, by rw [HN.out], rfl⟩
        case measure => simp [intOf]
      · have HN := Lib.hid (or_16 b 0 (by omega) hb)
        rw [hb] at c
        clear hb
        go_wp2_with fail
        go_round
        case rel => exact ⟨1, by omega, by rw [← HN.out]; rfl, rfl⟩
        case measure => simp [intOf]
    · have c : wc.cell? ⟨qs, 1, none⟩ = some (.bool (b 1)) := Blk.cell HB.out 1
      have ho : orN b 1 < 2 := orN_lt b 1
      cases hb : b 1
      · have HN := Lib.hid (show orN b 2 = orN b 1 from if_neg (by rw [hb]; decide))
        rw [hb] at c
        clear hb
        go_wp2_with fail
        go_round
        case rel => exact ⟨2, by omega, by rw [HN.out], rfl⟩
        case measure => simp [intOf]
      · have HN := Lib.hid (or_16 b 1 (by omega) hb)
        rw [hb] at c
        clear hb
        go_wp2_with fail
        go_round
        case rel => exact ⟨2, by omega, by rw [← HN.out]; rfl, rfl⟩
        case measure => simp [intOf]
    · have c : wc.cell? ⟨qs, 2, none⟩ = some (.bool (b 2)) := Blk.cell HB.out 2
      have ho : orN b 2 < 4 := orN_lt b 2
      cases hb : b 2
      · have HN := Lib.hid (show orN b 3 = orN b 2 from if_neg (by rw [hb]; decide))
        rw [hb] at c
        clear hb
        go_wp2_with fail
        go_round
        case rel => exact ⟨3, by omega, by rw [HN.out], rfl⟩
        case measure => simp [intOf]
      · have HN := Lib.hid (or_16 b 2 (by omega) hb)
        rw [hb] at c
        clear hb
        go_wp2_with fail
        go_round
        case rel => exact ⟨3, by omega, by rw [← HN.out]; rfl, rfl⟩
        case measure => simp [intOf]
    · have c : wc.cell? ⟨qs, 3, none⟩ = some (.bool (b 3)) := Blk.cell HB.out 3
      have ho : orN b 3 < 8 := orN_lt b 3
      cases hb : b 3
      · have HN := Lib.hid (show orN b 4 = orN b 3 from if_neg (by rw [hb]; decide))
        rw [hb] at c
        clear hb
        go_wp2_with fail
        go_round
        case rel => exact ⟨4, by omega, by rw [HN.out], rfl⟩
        case measure => simp [intOf]
      · have HN := Lib.hid (or_16 b 3 (by omega) hb)
        rw [hb] at c
        clear hb
        go_wp2_with fail
        go_round
        case rel => exact ⟨4, by omega, by rw [← HN.out]; rfl, rfl⟩
        case measure => simp [intOf]
    · have c : wc.cell? ⟨qs, 4, none⟩ = some (.bool (b 4)) := Blk.cell HB.out 4
      have ho : orN b 4 < 16 := orN_lt b 4
      cases hb : b 4
      · have HN := Lib.hid (show orN b 5 = orN b 4 from if_neg (by rw [hb]; decide))
        rw [hb] at c
        clear hb
        go_wp2_with fail
        go_round
        case rel => exact ⟨5, by omega, by rw [HN.out], rfl⟩
        case measure => simp [intOf]
      · have HN := Lib.hid (or_16 b 4 (by omega) hb)
        rw [hb] at c
        clear hb
        go_wp2_with fail
        go_round
        case rel => exact ⟨5, by omega, by rw [← HN.out]; rfl, rfl⟩
        case measure => simp [intOf]
    · have c : wc.cell? ⟨qs, 5, none⟩ = some (.bool (b 5)) := Blk.cell HB.out 5
      have ho : orN b 5 < 32 := orN_lt b 5
      cases hb : b 5
      · have HN := Lib.hid (show orN b 6 = orN b 5 from if_neg (by rw [hb]; decide))
        rw [hb] at c
        clear hb
        go_wp2_with fail
        go_round
        case rel => exact ⟨6, by omega, by rw [HN.out], rfl⟩
        case measure => simp [intOf]
      · have HN := Lib.hid (or_16 b 5 (by omega) hb)
        rw [hb] at c
        clear hb
        go_wp2_with fail
        go_round
        case rel => exact ⟨6, by omega, by rw [← HN.out]; rfl, rfl⟩
        case measure => simp [intOf]
    · have c : wc.cell? ⟨qs, 6, none⟩ = some (.bool (b 6)) := Blk.cell HB.out 6
      have ho : orN b 6 < 64 := orN_lt b 6
      cases hb : b 6
      · have HN := Lib.hid (show orN b 7 = orN b 6 from if_neg (by rw [hb]; decide))
        rw [hb] at c
        clear hb
        go_wp2_with fail
        go_round
        case rel => exact ⟨7, by omega, by rw [HN.out], rfl⟩
        case measure => simp [intOf]
      · have HN := Lib.hid (or_16 b 6 (by omega) hb)
        rw [hb] at c
        clear hb
        go_wp2_with fail
        go_round
        case rel => exact ⟨7, by omega, by rw [← HN.out]; rfl, rfl⟩
        case measure => simp [intOf]
    · have c : wc.cell? ⟨qs, 7, none⟩ = some (.bool (b 7)) := Blk.cell HB.out 7
      have ho : orN b 7 < 128 := orN_lt b 7
      cases hb : b 7
      · have HN := Lib.hid (show orN b 8 = orN b 7 from if_neg (by rw [hb]; decide))
        rw [hb] at c
        clear hb
        go_wp2_with fail
        go_round
        case rel => exact ⟨8, by omega, by rw [HN.out], rfl⟩
        case measure => simp [intOf]
      · have HN := Lib.hid (or_16 b 7 (by omega) hb)
        rw [hb] at c
        clear hb
        go_wp2_with fail
        go_round
        case rel => exact ⟨8, by omega, by rw [← HN.out]; rfl, rfl⟩
        case measure => simp [intOf]
    · have c : wc.cell? ⟨qs, 8, none⟩ = some (.bool (b 8)) := Blk.cell HB.out 8
      have ho : orN b 8 < 256 := orN_lt b 8
      cases hb : b 8
      · have HN := Lib.hid (show orN b 9 = orN b 8 from if_neg (by rw [hb]; decide))
        rw [hb] at c
        clear hb
        go_wp2_with fail
        go_round
        case rel => exact ⟨9, by omega, by rw [HN.out], rfl⟩
        case measure => simp [intOf]
      · have HN := Lib.hid (or_16 b 8 (by omega) hb)
        rw [hb] at c
        clear hb
        go_wp2_with fail
        go_round
        case rel => exact ⟨9, by omega, by rw [← HN.out]; rfl, rfl⟩
        case measure => simp [intOf]
    · have c : wc.cell? ⟨qs, 9, none⟩ = some (.bool (b 9)) := Blk.cell HB.out 9
      have ho : orN b 9 < 512 := orN_lt b 9
      cases hb : b 9
      · have HN := Lib.hid (show orN b 10 = orN b 9 from if_neg (by rw [hb]; decide))
        rw [hb] at c
        clear hb
        go_wp2_with fail
        go_round
        case rel => exact ⟨10, by omega, by rw [HN.out], rfl⟩
        case measure => simp [intOf]
      · have HN := Lib.hid (or_16 b 9 (by omega) hb)
        rw [hb] at c
        clear hb
        go_wp2_with fail
        go_round
        case rel => exact ⟨10, by omega, by rw [← HN.out]; rfl, rfl⟩
        case measure => simp [intOf]
    · have c : wc.cell? ⟨qs, 10, none⟩ = some (.bool (b 10)) := Blk.cell HB.out 10
      have ho : orN b 10 < 1024 := orN_lt b 10
      cases hb : b 10
      · have HN := Lib.hid (show orN b 11 = orN b 10 from if_neg (by rw [hb]; decide))
        rw [hb] at c
        clear hb
        go_wp2_with fail
        go_round
        case rel => exact ⟨11, by omega, by rw [HN.out], rfl⟩
        case measure => simp [intOf]
      · have HN := Lib.hid (or_16 b 10 (by omega) hb)
        rw [hb] at c
        clear hb
        go_wp2_with fail
        go_round
        case rel => exact ⟨11, by omega, by rw [← HN.out]; rfl, rfl⟩
        case measure => simp [intOf]
    · have c : wc.cell? ⟨qs, 11, none⟩ = some (.bool (b 11)) := Blk.cell HB.out 11
      have ho : orN b 11 < 2048 := orN_lt b 11
      cases hb : b 11
      · have HN := Lib.hid (show orN b 12 = orN b 11 from if_neg (by rw [hb]; decide))
        rw [hb] at c
        clear hb
        go_wp2_with fail
        go_round
        case rel => exact ⟨12, by omega, by rw [HN.out], rfl⟩
        case measure => simp [intOf]
      · have HN := Lib.hid (or_16 b 11 (by omega) hb)
        rw [hb] at c
        clear hb
        go_wp2_with fail
        go_round
        case rel => exact ⟨12, by omega, by rw [← HN.out]; rfl, rfl⟩
        case measure => simp [intOf]
    · have c : wc.cell? ⟨qs, 12, none⟩ = some (.bool (b 12)) := Blk.cell HB.out 12
      have ho : orN b 12 < 4096 := orN_lt b 12
      cases hb : b 12
      · have HN := Lib.hid (show orN b 13 = orN b 12 from if_neg (by rw [hb]; decide))
        rw [hb] at c
        clear hb
        go_wp2_with fail
        go_round
        case rel => exact ⟨13, by omega, by rw [HN.out], rfl⟩
        case measure => simp [intOf]
      · have HN := Lib.hid (or_16 b 12 (by omega) hb)
        rw [hb] at c
        clear hb
        go_wp2_with fail
        go_round
        case rel => exact ⟨13, by omega, by rw [← HN.out]; rfl, rfl⟩
        case measure => simp [intOf]
    · go_wp2_with fail
      go_ret
      exact ⟨by rw [HBB.out]; rfl, HL.out⟩
end Go.Proofs.YtlenlldiimohjaaDoor

