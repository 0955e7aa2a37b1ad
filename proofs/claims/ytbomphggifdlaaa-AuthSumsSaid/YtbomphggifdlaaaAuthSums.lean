/-
  Proved: 'verger/vergerlaw07.AuthSums' returns true for every input, and its arguments read as they did. No condition.
  The frame was written by the kit's proof-skeleton.mjs.
-/
import Derived.Test.YtbomphggifdlaaaRows
import Derived.WalkKit
import Derived.Test.YtbomphggifdlaaaWords
import Derived.Test.YtbomphggifdlaaaSumWalk
import Derived.OneCell
import Derived.Deep.DeepCutAuto
import Derived.ProofKit
import Derived.OpenShut
import Derived.ShutString
import Derived.ChangeOld
import Derived.Below
namespace Go.Proofs.Ytbomphggifdlaaa.authSums
open Go.ChangeShapes Go.WideShapes Go.ChangeAt Go.RowKit SumLaw
open Go.ChangeMaps (open_string shut_string)
set_option linter.unusedVariables false

theorem own : ownKnob Try.prog.godebug = none := by kernel_rfl
theorem laidOut : laidOutB Try.prog = true := by kernel_rfl

/-- WHAT THE WALK IS TOLD OF A SLICE OF INTEGERS THAT CAME IN: it is nil; or it leads to a row of 'cap' cells, the numbers 'zs' (the first 'len' are its elements, the rest its spare room), each fitting its kind. -/
def IsRow (k : IntKind) (w : World) (a : Option Addr) (len cap : Nat) (zs : List Int) : Prop :=
  (a = none ∧ len = 0 ∧ cap = 0 ∧ zs = []) ∨
  ∃ x, a = some x ∧ len ≤ cap ∧ cap ≤ maxLen ∧ zs.length = cap ∧ (∀ i, i < zs.length → w.cell? (x.add i) = some (.int k (zs.getD i 0))) ∧ ∀ n ∈ zs, (Lit.int k n).wf = true

theorem lt_of_cell {w : World} {a : Addr} {v : Value} (h : w.cell? a = some v) : a.block < w.heap.size := by
  rcases Nat.lt_or_ge a.block w.heap.size with hlt | hge
  · exact hlt
  · unfold World.cell? at h
    rw [Array.getElem?_eq_none hge] at h
    cases h

/-- What came in, as the words of the walk have it. -/
theorem reads_of {k : IntKind} {w : World} {a : Option Addr} {len cap : Nat} {zs : List Int} (h : IsRow k w a len cap zs) :
    Reads w w.heap.size 1 a len ((zs.take len).map (.int k)) ∧ (zs.take len).length = len ∧ ∀ n ∈ zs.take len, (Lit.int k n).wf = true := by
  rcases h with ⟨rfl, rfl, rfl, rfl⟩ | ⟨x, rfl, hl, _, hz, hc, hw⟩
  · exact ⟨Reads.none_, rfl, by simp⟩
  · refine ⟨⟨by simp; omega, fun hn => ⟨x, rfl, ?_, fun j u hu => ?_⟩⟩, by simp; omega, fun n hn => hw n (List.mem_of_mem_take hn)⟩
    · have := lt_of_cell (hc 0 (by omega))
      rwa [block_of_add] at this
    · rw [List.getElem?_map, Option.map_eq_some_iff] at hu
      obtain ⟨z, hz1, rfl⟩ := hu
      have hj : j < len := by
        have := (List.getElem?_eq_some_iff.1 hz1).1
        simp at this; omega
      rw [List.getElem?_take_of_lt hj] at hz1
      rw [hc j (by omega), List.getD_eq_getElem?_getD, hz1]; rfl

theorem u64_info : (Try.prog.info? 24).map (fun i => (i.zero, i.size, i.bytes)) = some (some (.int .u64 0), 1, 8) := by kernel_rfl

theorem cells_of_row {w : World} {base g cap n : Nat} {M : List Int} (h : w.ownsRow base 24 1 (.slice (some ⟨g, 0, none⟩) n cap) n (M.map (.int .u64))) (hn : M.length = n) :
    ∀ j, j < M.length → w.cell? ⟨g, 0 + j, none⟩ = some (.int .u64 (M.getD j 0)) := by
  intro j hj
  rw [Nat.zero_add, h.cellAt j (by omega), List.getElem?_map, List.getElem?_eq_getElem hj, List.getD_eq_getElem?_getD, List.getElem?_eq_getElem hj]
  rfl

theorem wf_U {M : List Int} (h : ∀ n ∈ M, (Lit.int .u64 n).wf = true) : ∀ n ∈ M, U n := by
  intro n hn
  have := h n hn
  simp only [Lit.wf, IntKind.min, IntKind.max, IntKind.signed, IntKind.bits, Bool.and_eq_true] at this
  unfold U
  simp at this
  omega

theorem byte_of {n : Int} (h : (Lit.int .u8 n).wf = true) : ∃ k : UInt8, n = (k.toNat : Int) := by
  simp only [Lit.wf, IntKind.min, IntKind.max, IntKind.signed, IntKind.bits, Bool.and_eq_true] at h
  simp at h
  refine ⟨UInt8.ofNat n.toNat, ?_⟩
  rw [UInt8.toNat_ofNat']
  omega

theorem bytes_new (w : World) (S : ByteArray) (cap : Nat) :
    (∀ j (hj : j < S.data.size), ((w.alloc (.cells (bytesRow S cap) 5 ((bytesRow S cap).size, (bytesRow S cap).size + 1))).drew).cell? ⟨w.heap.size, j, none⟩ = some (.int .u8 (S.data[j].toNat : Int))) ∧
    (∀ j, j < S.data.size → ((w.alloc (.cells (bytesRow S cap) 5 ((bytesRow S cap).size, (bytesRow S cap).size + 1))).drew).frozen? ⟨w.heap.size, j, none⟩ = false) ∧
    Below w.heap.size w ((w.alloc (.cells (bytesRow S cap) 5 ((bytesRow S cap).size, (bytesRow S cap).size + 1))).drew) := by
  refine ⟨fun j hj => (World.cell?_alloc_mark w _ 5 _ j).trans (bytesRow_at _ _ j hj), fun j hj => ?_, ((Below.refl _ _).alloc (Nat.le_refl _) _).drew⟩
  refine (World.frozen?_alloc_mark w _ 5 _ _ j).trans ?_
  have : S.data.size ≤ (bytesRow S cap).size := by simp [bytesRow]
  have h2 : decide ((bytesRow S cap).size ≤ j) = false := by simp; omega
  rw [h2]
  rfl

theorem bytes_set (w : World) (b : Nat) (S : ByteArray) (j : Nat) (k : UInt8) (hj : j < S.data.size) (hc : ∀ q (hq : q < S.data.size), w.cell? ⟨b, q, none⟩ = some (.int .u8 (S.data[q].toNat : Int))) :
    ∀ q (hq : q < (S.data.toList.set j k).length), (w.setCell ⟨b, j, none⟩ (.int .u8 (k.toNat : Int))).cell? ((⟨b, 0, none⟩ : Addr).add q) = some (.int .u8 ((S.data.toList.set j k)[q].toNat : Int)) := by
  intro q hq
  have hq' : q < S.data.size := by simpa using hq
  rw [Addr.add_lit, Nat.zero_add]
  by_cases e : q = j
  · subst e
    rw [World.cell?_setCell_same (h := hc q hj)]
    simp
  · rw [World.cell?_setCell_other w _ _ _ (by intro h; injection h with _ h2; exact e h2.symm), hc q hq']
    rw [List.getElem_set_ne (fun h => e h.symm)]
    simp

theorem wrap_U (x : Int) : U (IntKind.u64.wrap x) := by
  rw [IntKind.wrap_u64]; unfold U; omega

theorem wrap_u64_twice (x : Int) : IntKind.u64.wrap (IntKind.u64.wrap x) = IntKind.u64.wrap x := by
  simp only [IntKind.wrap_u64]; omega

theorem wrap_succ_ne {x : Int} (h : U x) : x ≠ IntKind.u64.wrap (x + 1) := by
  rw [IntKind.wrap_u64]; unfold U at h; omega

theorem wrap_ne (t : Nat) (ht : (t : Int) ≤ 9223372036854775807) : (t : Int) ≠ IntKind.u64.wrap (wrap64 ((t : Int) + 1)) ∧ U (IntKind.u64.wrap (wrap64 ((t : Int) + 1))) := by
  refine ⟨?_, wrap_U _⟩
  rw [IntKind.wrap_u64]
  unfold wrap64
  omega

theorem reads_new (w : World) (t : TypeId) (v : Value) : Reads (w.alloc (.cells #[v] t)) (w.heap.size + 1) 1 (some ⟨w.heap.size, 0, none⟩) 1 [v] := by
  refine ⟨rfl, fun _ => ⟨_, rfl, Nat.lt_succ_self _, fun j u hu => ?_⟩⟩
  have hj : j = 0 := by
    have := (List.getElem?_eq_some_iff.1 hu).1
    simpa using this
  subst hj
  rw [Addr.add_lit, World.cell?_alloc_new]
  simpa using hu

set_option maxRecDepth 100000 in
set_option maxHeartbeats 1000000 in
theorem walk_in (a0 : ByteArray) (a1 : Option Addr) (len1 cap1 : Nat) (l : List Int) (a2 : Int) (a3 : Int) (a4 : Int) (w : World) (hb1 : a0.size ≤ 268435456) (hb2 : len1 ≤ 33554432)
    (hr : Reads w w.heap.size 1 a1 len1 (l.map (.int .u64))) (hl : l.length = len1) (hwf : ∀ n ∈ l, (Lit.int .u64 n).wf = true) (w2 : (Lit.int .i64 a2).wf = true) (w3 : (Lit.int .u64 a3).wf = true) (w4 : (Lit.int .u8 a4).wf = true) :
    Calls Try.prog 5 #[.string a0, .slice a1 len1 cap1, .int .i64 a2, .int .u64 a3, .int .u8 a4] w fun e w' => e = .returned (.bool true) ∧ Below w.heap.size w w' := by
  obtain ⟨i0, hi0, hz0, hz1, hz2⟩ := info_parts u64_info
  have HR := Lib.hid hr; clear hr
  have HL := Lib.hid hl; clear hl
  have HW := Lib.hid hwf; clear hwf
  have HW3 := Lib.hid w3; clear w3
  have HW4 := Lib.hid w4; clear w4
  have HI := Lib.hid hi0; clear hi0
  have HZ0 := Lib.hid hz0; clear hz0
  have HZ1 := Lib.hid hz1; clear hz1
  have HZ2 := Lib.hid hz2; clear hz2
  have hq2 : -9223372036854775808 ≤ a2 ∧ a2 ≤ 9223372036854775807 := by
    simp only [Lit.wf, IntKind.min, IntKind.max, IntKind.signed, IntKind.bits, Bool.and_eq_true, decide_eq_true_eq] at w2; simpa using w2
  clear w2
  go_enter Try.func5, Try.ntmps5
  have hlen : l.length = len1 := HL.out
  go_upto_region 5 with (at_builtin; refine wpList_append_any _ rfl (.tmp 31) (.tmp 32) _ rfl w.heap.size 24 i0 _ 1 8 Try.underlying28 HI.out HZ0.out HZ1.out HZ2.out rfl (by omega) (.slice none 0 0) 0 [] rfl ⟨by simp, .inl ⟨rfl, rfl⟩⟩ w.heap.size a1 len1 cap1 (l.map (.int .u64)) rfl HR.out (ints_oneCell .u64 l) (by simp only [maxLen]; omega) (by omega) (Nat.le_refl _) ?_; intro v1 w1 hown1 hg1 hat1; have HO1 := Lib.hid hown1; clear hown1; have HG1 := Lib.hid hg1; clear hg1; have HA1 := Lib.hid hat1; clear hat1)
  have HB1 := Lib.hid ((Below.refl w.heap.size w).grown HG1.out (Nat.le_refl _) (by simp [Value.ownBlock]))
  go_cut [11] (fun s wx => ∃ g cap, s = .slice (some ⟨g, 0, none⟩) (len1 + 1) cap ∧ wx.ownsRow w.heap.size 24 1 (.slice (some ⟨g, 0, none⟩) (len1 + 1) cap) (len1 + 1) ((l ++ [3]).map (.int .u64)) ∧ Below w.heap.size w wx)
  case first =>
    clear hlen
    go_wp2_with (at_builtin; refine wpList_append_any _ rfl (.tmp 34) (.tmp 35) _ rfl w.heap.size 24 i0 _ 1 8 Try.underlying28 HI.out HZ0.out HZ1.out HZ2.out rfl (by omega) v1 (0 + len1) ([] ++ l.map (.int .u64)) rfl (HO1.out.alloc _) (w1.heap.size + 1) (some ⟨w1.heap.size, 0, none⟩) 1 1 [.int .u64 3] rfl (reads_new _ _ _) (by intro u hu; simp at hu; subst hu; rfl) (by simp only [maxLen]; omega) (by omega) (by have := HG1.out.size; simp; omega) ?_; intro v2 w2 hown2 hg2 hat2; have HO2 := Lib.hid hown2; clear hown2; have HG2 := Lib.hid hg2; clear hg2; have HA2 := Lib.hid hat2; clear hat2)
    go_meet
    case rel =>
      obtain ⟨g, cap, hv, hgb, hglt⟩ := HO2.out.form (by omega)
      rw [hv]
      refine ⟨g, cap, by rw [Nat.zero_add], ?_, ?_⟩
      · have := HO2.out
        rw [hv] at this
        simpa using this
      · refine (HB1.out.alloc HG1.out.size _).grown HG2.out (by have := HG1.out.size; simp; omega) ?_
        intro k hk
        rcases HA1.out with e | e <;> rw [e] at hk <;> simp [Value.ownBlock] at hk
        omega
  case rest =>
    obtain ⟨g, cap, rfl, hown, hbel⟩ := hcut
    have HO := Lib.hid hown; clear hown
    have HB := Lib.hid hbel; clear hbel
    have HL2 := Lib.hid hlen; clear hlen
    clear HO1 HG1 HA1 HB1 HR HL
    have HC := Lib.hid (fun j (hj : j < len1 + 1) => (HO.out.cellAt j (by simpa using hj)))
    go_upto_if 38 with (fail)
    go_cut [2] (fun s wx => ∃ t : Nat, s = .int .i64 t ∧ (t : Int) ≤ 9223372036854775807 ∧ wx = wc)
    case first =>
      by_cases hneg : a2 < 0
      · go_wp2_with fail
        go_meet
        case rel => exact ⟨(-(a2 + 1)).toNat, by go_num, by omega, rfl⟩
      · go_wp2_with fail
        go_meet
        case rel => exact ⟨a2.toNat, by go_num, by omega, rfl⟩
    case rest =>
      obtain ⟨t, rfl, ht, rfl⟩ := hcut
      clear hq2
      have HM := Lib.hid (Reads.of_own HO.out)
      go_upto_region 10 with (at_builtin; refine wpList_append_any _ rfl (.tmp 42) (.tmp 43) _ rfl wc.heap.size 24 i0 _ 1 8 Try.underlying28 HI.out HZ0.out HZ1.out HZ2.out rfl (by omega) (.slice none 0 0) 0 [] rfl ⟨by simp, .inl ⟨rfl, rfl⟩⟩ wc.heap.size (some ⟨g, 0, none⟩) (len1 + 1) cap ((l ++ [3]).map (.int .u64)) rfl HM.out (ints_oneCell .u64 _) (by simp only [maxLen]; omega) (by omega) (Nat.le_refl _) ?_; intro v3 w3 hown3 hg3 hat3; have HO3 := Lib.hid hown3; clear hown3; have HG3 := Lib.hid hg3; clear hg3; have HA3 := Lib.hid hat3; clear hat3)
      obtain ⟨g2, cap2, hv, hgb, hglt⟩ := HO3.out.form (by omega)
      subst hv
      have HO4 : Hid (w3.ownsRow wc.heap.size 24 1 (.slice (some ⟨g2, 0, none⟩) (len1 + 1) cap2) (len1 + 1) ((l ++ [3]).map (.int .u64))) := by
        have := HO3.out
        simp only [Nat.zero_add, List.nil_append] at this
        exact this
      have e0 : 0 + (len1 + 1) = len1 + 1 := Nat.zero_add _
      rw [e0]
      clear e0
      have HB3 := Lib.hid ((Below.refl wc.heap.size wc).grown HG3.out (Nat.le_refl _) (by simp [Value.ownBlock]))
      clear HO3 HG3 HA3 HM
      go_cut [13] (fun s wx => ∃ i : Nat, s = .int .i64 i ∧ i < len1 + 1 ∧ wx = w3)
      case first =>
        go_wp2_with fail
        go_meet
        case rel => exact ⟨t % (len1 + 1), by go_num, Nat.mod_lt _ (Nat.succ_pos _), rfl⟩
      case rest =>
        obtain ⟨i, rfl, hi, rfl⟩ := hcut
        obtain ⟨x, hx⟩ : ∃ x, (l ++ [3])[i]? = some x := ⟨_, List.getElem?_eq_getElem (by rw [List.length_append, HL2.out]; simpa using hi)⟩
        have HX := Lib.hid hx; clear hx
        have hfz : wc.frozen? ⟨g2, i, none⟩ = false := HO4.out.frozenAt i
        have hce : wc.cell? ⟨g2, i, none⟩ = some (.int .u64 x) := by
          rw [HO4.out.cellAt i (by omega), List.getElem?_map, HX.out]; rfl
        go_upto_region 12 with (fail)
        clear hfz hce
        have hm4 : (wc.setCell ⟨g2, i, none⟩ (.int .u64 a3)).ownsRow w.heap.size 24 1 (.slice (some ⟨g, 0, none⟩) (len1 + 1) cap) (len1 + 1) ((l ++ [3]).map (.int .u64)) := by
          have hlt := (HO.out.lt g rfl).2
          refine ownsRow_setCell_other (HO.out.kept (row := none) ⟨HB3.out.os, HB3.out.tape, HB3.out.output, HB3.out.size, fun k hk _ => HB3.out.block k hk⟩ (.inr (by simp [Value.ownBlock]))) ?_ _
          simp [Value.ownBlock]; omega
        have hc4 := (HO4.out.stored i (.int .u64 a3)).1
        have hb4 : Below w.heap.size w (wc.setCell ⟨g2, i, none⟩ (.int .u64 a3)) := (HB.out.trans (HB3.out.mono HB.out.size)).setCell (Nat.le_trans HB.out.size hgb) _
        generalize wc.setCell ⟨g2, i, none⟩ (.int .u64 a3) = w4 at hm4 hc4 hb4 ⊢
        have hset : ((l ++ [3]).map (Value.int IntKind.u64)).set i (.int .u64 a3) = ((l ++ [3]).set i a3).map (.int .u64) := by rw [List.map_set]
        rw [hset] at hc4
        have cm : ∀ j, j < (l ++ [3]).length → w4.cell? ⟨g, 0 + j, none⟩ = some (.int .u64 ((l ++ [3]).getD j 0)) := cells_of_row hm4 (by rw [List.length_append, HL2.out]; rfl)
        have cc : ∀ j, j < ((l ++ [3]).set i a3).length → w4.cell? ⟨g2, 0 + j, none⟩ = some (.int .u64 (((l ++ [3]).set i a3).getD j 0)) := cells_of_row hc4 (by rw [List.length_set, List.length_append, HL2.out]; rfl)
        clear hset HO HO4 HB HB3 HC hgb hglt hc4
        have HM4 := Lib.hid hm4; clear hm4
        have HB4 := Lib.hid hb4; clear hb4
        have CM := Lib.hid cm; clear cm
        have CC := Lib.hid cc; clear cc
        have EL : Hid ((l ++ [3]).length = len1 + 1) := by rw [List.length_append, HL2.out]; rfl
        have hwm : ∀ y ∈ l ++ [3], U y := wf_U (by intro n hn; rcases List.mem_append.1 hn with h | h; exact HW.out n h; (simp at h; subst h; rfl))
        have HU := Lib.hid hwm; clear hwm
        generalize hM : l ++ [3] = M at *
        clear hM HL2 HW
        rw [← EL.out]
        go_wp2_with fail
        refine (sum_calls a0 g 0 cap M _ (by unfold maxLen; omega) (by rw [EL.out]; unfold maxLen; omega) CM.out).mono ?_
        rintro e w5 ⟨rfl, rfl⟩
        go_wp2_with fail
        have EL2 : Hid (M.length = (M.set i a3).length) := List.length_set.symm
        rw [EL2.out]
        refine (sum_calls a0 g2 0 cap2 (M.set i a3) _ (by unfold maxLen; omega) (by rw [List.length_set, EL.out]; unfold maxLen; omega) CC.out).mono ?_
        rintro e w5 ⟨rfl, rfl⟩
        rw [← EL2.out]
        have hxm : w4.cell? ⟨g, i, none⟩ = some (.int .u64 x) := by
          have := CM.out i (by rw [EL.out]; exact hi)
          rw [Nat.zero_add] at this
          rw [this, List.getD_eq_getElem?_getD, HX.out]; rfl
        have hi2 : i < M.length := by rw [EL.out]; exact hi
        have HXI : Hid (M[i] = x) := by
          have := HX.out
          rw [List.getElem?_eq_getElem hi2] at this
          exact Option.some.inj this
        have hbe : (sumZ a0.data.toList M == sumZ a0.data.toList (M.set i a3)) = (x == a3) := by
          have := sumZ_set a0.data.toList M i a3 HU.out (by simpa using wf_U (M := [a3]) (by simpa using HW3.out)) hi2
          rw [HXI.out] at this
          rw [Bool.eq_iff_iff, beq_iff_eq, beq_iff_eq]
          exact this
        go_upto_region 16 with (fail)
        clear hxm hbe
        obtain ⟨k, hk⟩ : ∃ k : UInt8, a4 = (k.toNat : Int) := byte_of HW4.out
        subst hk
        clear HW4
        have hSs : (a0 ++ ByteArray.mk #[122]).size = a0.size + 1 := by rw [ByteArray.size_append]; rfl
        have HSs := Lib.hid hSs; clear hSs
        have hcv := run_bytes_of_string (P := Try.prog) w4 9 29 5 (a0 ++ ByteArray.mk #[122]) Try.underlying9 Try.underlying29 Try.underlying5
        go_upto_region 17 with (fail)
        clear hcv
        obtain ⟨nb1, nb2, nb3⟩ := bytes_new w4 (a0 ++ ByteArray.mk #[122]) (grownCap w4 (a0.size + 1) 0 5)
        generalize (w4.alloc (Obj.cells (bytesRow (a0 ++ ByteArray.mk #[122]) (grownCap w4 (a0.size + 1) 0 5)) 5 ((bytesRow (a0 ++ ByteArray.mk #[122]) (grownCap w4 (a0.size + 1) 0 5)).size, (bytesRow (a0 ++ ByteArray.mk #[122]) (grownCap w4 (a0.size + 1) 0 5)).size + 1))).drew = w5 at nb1 nb2 nb3 ⊢
        generalize grownCap w4 (a0.size + 1) 0 5 = capb
        have NB1 := Lib.hid nb1; clear nb1
        have NB2 := Lib.hid nb2; clear nb2
        have NB3 := Lib.hid nb3; clear nb3
        go_cut [17] (fun s wx => ∃ j : Nat, s = .int .i64 j ∧ j < a0.size + 1 ∧ wx = w5)
        case first =>
          go_wp2_with fail
          go_meet
          case rel => exact ⟨t % (a0.size + 1), by go_num, Nat.mod_lt _ (Nat.succ_pos _), rfl⟩
        case rest =>
          obtain ⟨j, rfl, hj, rfl⟩ := hcut
          have hjS : j < (a0 ++ ByteArray.mk #[122]).data.size := by
            have := HSs.out
            rw [← ByteArray.size_data] at this
            omega
          obtain ⟨y, hy⟩ : ∃ y, (a0 ++ ByteArray.mk #[122]).data[j] = y := ⟨_, rfl⟩
          have HY := Lib.hid hy; clear hy
          have hcj := NB1.out j hjS
          rw [HY.out] at hcj
          have hfj := NB2.out j hjS
          go_upto_region 20 with (fail)
          clear hcj hfj
          have hb6 : Below w4.heap.size w4 (wc.setCell ⟨w4.heap.size, j, none⟩ (.int .u8 (k.toNat : Int))) := NB3.out.setCell (Nat.le_refl _) _
          have hT : ∀ q (hq : q < ((a0 ++ ByteArray.mk #[122]).data.toList.set j k).length), (wc.setCell ⟨w4.heap.size, j, none⟩ (.int .u8 (k.toNat : Int))).cell? ((⟨w4.heap.size, 0, none⟩ : Addr).add q) = some (.int .u8 (((a0 ++ ByteArray.mk #[122]).data.toList.set j k)[q].toNat : Int)) :=
            bytes_set wc w4.heap.size _ j k hjS NB1.out
          generalize wc.setCell ⟨w4.heap.size, j, none⟩ (.int .u8 (k.toNat : Int)) = w6 at hb6 hT ⊢
          have CM6 : Hid (∀ j, j < M.length → w6.cell? ⟨g, 0 + j, none⟩ = some (.int .u64 (M.getD j 0))) := fun j hj => (hb6.cell (p := ⟨g, 0 + j, none⟩) (HM4.out.lt g rfl).2).trans (CM.out j hj)
          have HB6 := Lib.hid (HB4.out.trans (hb6.mono HB4.out.size)); clear hb6
          have hTl : ((a0 ++ ByteArray.mk #[122]).data.toList.set j k).length = a0.size + 1 := by
            rw [List.length_set, Array.length_toList, ByteArray.size_data, HSs.out]
          have hback := run_convert_bytes_back (P := Try.prog) w6 29 9 5 ⟨w4.heap.size, 0, none⟩ capb ((a0 ++ ByteArray.mk #[122]).data.toList.set j k) Try.underlying29 Try.underlying5 Try.underlying9 hT
          rw [hTl] at hback
          have HBK := Lib.hid hback; clear hback hT
          clear NB1 NB2 NB3 CM CC HM4 HB4
          go_wp2_with fail
          refine (sum_calls (a0 ++ ByteArray.mk #[122]) g 0 cap M _ (by rw [HSs.out]; unfold maxLen; omega) (by rw [EL.out]; unfold maxLen; omega) CM6.out).mono ?_
          rintro e w7 ⟨rfl, rfl⟩
          generalize hX : sumZ (a0 ++ ByteArray.mk #[122]).data.toList M = X
          have HX2 := Lib.hid hX; clear hX
          have hback := HBK.out
          go_wp2_with fail
          clear hback
          refine (sum_calls ⟨((a0 ++ ByteArray.mk #[122]).data.toList.set j k).toArray⟩ g 0 cap M _ (by show Array.size _ ≤ _; rw [List.size_toArray, hTl]; unfold maxLen; omega) (by rw [EL.out]; unfold maxLen; omega) CM6.out).mono ?_
          rintro e w7 ⟨rfl, rfl⟩
          generalize hZ : sumZ (⟨((a0 ++ ByteArray.mk #[122]).data.toList.set j k).toArray⟩ : ByteArray).data.toList M = Z
          have hkey : (X == Z) = ((y.toNat : Int) == (k.toNat : Int)) := by
            have := sumZ_key (a0 ++ ByteArray.mk #[122]).data.toList M j k (by simpa using hjS)
            rw [Array.getElem_toList, HY.out, HX2.out] at this
            rw [← hZ, Bool.eq_iff_iff, beq_iff_eq, beq_iff_eq]
            refine this.trans ?_
            constructor
            · rintro rfl; rfl
            · intro h; exact UInt8.toNat_inj.1 (by omega)
          clear hZ
          go_upto_region 24 with (fail)
          clear hkey
          have hu3 : U a3 := wf_U (M := [a3]) (by simpa using HW3.out) a3 (by simp)
          have hwr : IntKind.u64.wrap a3 = a3 := IntWalk.u64_in a3 ⟨hu3.1, by have := hu3.2; omega⟩
          have HU3 := Lib.hid hu3; clear hu3
          have HWR := Lib.hid hwr; clear hwr
          clear HX2 HBK HSs HY CM6 HXI EL2 HU hTl HX HI HZ0 HZ1 HZ2
          go_wp2_with fail
          refine (ours_calls _ _ _ _ HWR.out).mono ?_
          rintro e wa ⟨rfl, ha⟩
          have HBa := Lib.hid (HB6.out.trans (ha.mono HB6.out.size)); clear ha
          generalize hp : sumZ [] [a3, (t : Int), (i : Int)] = vp
          have HP := Lib.hid hp; clear hp
          go_wp2_with fail
          refine (ours_calls _ _ _ _ HWR.out).mono ?_
          rintro e wb ⟨rfl, hb⟩
          have HBb := Lib.hid (HBa.out.trans (hb.mono HBa.out.size)); clear hb
          generalize hq : sumZ [] [a3, (t : Int), (i : Int) + 1] = vq
          have HQ := Lib.hid hq; clear hq
          go_wp2_with fail
          refine (ours_calls _ _ _ _ HWR.out).mono ?_
          rintro e wd ⟨rfl, hd⟩
          have HBd := Lib.hid (HBb.out.trans (hd.mono HBb.out.size)); clear hd
          generalize hs : sumZ [] [a3, wrap64 ((t : Int) + 1), (i : Int)] = vs
          have HSS := Lib.hid hs; clear hs
          go_wp2_with fail
          refine (ours_calls _ _ _ _ (wrap_u64_twice _)).mono ?_
          rintro e wf ⟨rfl, hf⟩
          have HBf := Lib.hid (HBd.out.trans (hf.mono HBd.out.size)); clear hf
          generalize htt : sumZ [] [IntKind.u64.wrap (a3 + 1), (t : Int), (i : Int)] = vt
          have h1 : (vp != vq) = true := by
            rw [bne_iff_ne, ← HP.out, ← HQ.out]
            exact sumZ_two [] [a3, (t : Int), 0] 2 (i : Int) ((i : Int) + 1) (by intro z hz; simp at hz; rcases hz with rfl | rfl | rfl; exact HU3.out; (unfold U; omega); (unfold U; omega)) (by unfold U; omega) (by unfold U; omega) (by simp) (by omega)
          have h2 : (vp != vs) = true := by
            rw [bne_iff_ne, ← HP.out, ← HSS.out, ← sumZ_wrap [] [a3, wrap64 ((t : Int) + 1), (i : Int)]]
            simp only [List.map_cons, List.map_nil, HWR.out]
            rw [IntWalk.u64_in (i : Int) (by omega)]
            have hr := wrap_ne t ht
            exact sumZ_two [] [a3, 0, (i : Int)] 1 (t : Int) _ (by intro z hz; simp at hz; rcases hz with rfl | rfl | rfl; exact HU3.out; (unfold U; omega); (unfold U; omega)) (by unfold U; omega) hr.2 (by simp) hr.1
          have h3 : (vp != vt) = true := by
            rw [bne_iff_ne, ← HP.out, ← htt]
            exact sumZ_two [] [0, (t : Int), (i : Int)] 0 a3 _ (by intro z hz; simp at hz; rcases hz with rfl | rfl | rfl; (unfold U; omega); (unfold U; omega); (unfold U; omega)) HU3.out (wrap_U _) (by simp) (wrap_succ_ne HU3.out)
          clear htt
          go_wp2
          go_ret
          exact ⟨rfl, HBf.out⟩

/-- THE WALK. -/
theorem walk (a0 : ByteArray) (a1 : Option Addr) (len1 cap1 : Nat) (z1 : List Int) (a2 : Int) (a3 : Int) (a4 : Int) (w : World) (w0 : a0.size ≤ maxLen) (w1 : IsRow .u64 w a1 len1 cap1 z1) (w2 : (Lit.int .i64 a2).wf = true) (w3 : (Lit.int .u64 a3).wf = true) (w4 : (Lit.int .u8 a4).wf = true) :
    Calls Try.prog 5 #[.string a0, .slice a1 len1 cap1, .int .i64 a2, .int .u64 a3, .int .u8 a4] w fun e w' => e = .returned (.bool true) ∧ Below w.heap.size w w' := by
  by_cases hb1 : 268435456 < a0.size
  · go_enter Try.func5, Try.ntmps5
    go_wp2
    go_ret
    exact ⟨rfl, Below.refl _ _⟩
  · by_cases hb2 : 33554432 < len1
    · go_enter Try.func5, Try.ntmps5
      go_wp2
      go_ret
      exact ⟨rfl, Below.refl _ _⟩
    · exact walk_in a0 a1 len1 cap1 ((z1.take len1)) a2 a3 a4 w (by omega) (by omega) (reads_of w1).1 (reads_of w1).2.1 (reads_of w1).2.2 w2 w3 w4

/-! ### THE ROW's STEP: WRITTEN OUT: LEAVE IT -/
set_option maxRecDepth 100000 in
theorem lifted (os : Os) (started : os.Started) (H : Type) (enc : TypeId × Value → H) :
    ReturnsInHanded {} Try.checked os 5 .any (Rows.authSumsSpec.pre6 enc Try.prog Try.f5 Rows.authSumsRow.domain false) (Rows.authSumsSpec.post enc Try.prog Try.f5 false true false false) := by
  refine returnsInHanded_of_change (C := Try.checked) own started (by kernel_rfl) Try.func5
    (ChangeSpec.witness6 (enc := enc) (C := Try.checked) false ⟨#[], #[.string ByteArray.empty, .slice none 0 0, .int .i64 0, .int .u64 0, .int .u8 0], []⟩ 8 (by kernel_rfl) (by kernel_rfl) (by kernel_rfl) (by kernel_rfl)) ?_
  intro W base args ds gs before hval0 hW hcnd _
  have hval : ∀ (j : Nat) t v, Try.f5.params[j]? = some t → args[j]? = some v → Value.okWide Try.prog W .any base t v := hval0
  have hW' := hW
  obtain ⟨p, q, hA0, hV, rfl, hfz, hnd⟩ := hW
  have hA : DataW.TrodAll enc Try.prog W 0 (fun _ => true) true Try.f5.params.toList args.toList ds p := hA0
  rw [Try.params5] at hA hval
  obtain ⟨v0, vs0, d0, ds0, p0, q0, hargs, rfl, rfl, h0, r0⟩ := trodAll_cons hA
  obtain ⟨v1, vs1, d1, ds1, p1, q1, rfl, rfl, rfl, h1, r1⟩ := trodAll_cons r0
  obtain ⟨v2, vs2, d2, ds2, p2, q2, rfl, rfl, rfl, h2, r2⟩ := trodAll_cons r1
  obtain ⟨v3, vs3, d3, ds3, p3, q3, rfl, rfl, rfl, h3, r3⟩ := trodAll_cons r2
  obtain ⟨v4, vs4, d4, ds4, p4, q4, rfl, rfl, rfl, h4, r4⟩ := trodAll_cons r3
  obtain ⟨rfl, rfl, rfl⟩ := trodAll_nil r4
  obtain rfl : args = #[v0, v1, v2, v3, v4] := by cases args; simp_all
  obtain ⟨rfl, rfl⟩ := trodVars_none hV
  obtain ⟨a0, rfl, rfl, rfl, w0⟩ := open_string Try.underlying9 (hval 0 9 v0 rfl rfl) h0
  obtain ⟨a1, len1, cap1, rfl⟩ := okWide_slice Try.underlying28 (hval 1 28 v1 rfl rfl)
  have k1 := h1
  have lt1 : ∀ x ∈ p1, x.block < W.heap.size := by obtain ⟨m, hm⟩ := k1; exact DataW.trod_lt m _ _ _ hm
  obtain ⟨z1, w1⟩ : ∃ zs, IsRow .u64 W a1 len1 cap1 zs := by
    obtain ⟨fuel, hf⟩ := h1
    rcases open_ints Try.underlying28 Try.underlying24 (by kernel_rfl) hf with ⟨hcs, _⟩ | ⟨x, l, c, zs, hcs, _, hl, hm, hz, _, hcell, hwz⟩
    · simp [Value.cells] at hcs
      obtain ⟨rfl, rfl, rfl⟩ := hcs
      exact ⟨[], .inl ⟨rfl, rfl, rfl, rfl⟩⟩
    · simp [Value.cells] at hcs
      obtain ⟨rfl, rfl, rfl⟩ := hcs
      exact ⟨zs, .inr ⟨_, rfl, hl, hm, by simpa using hz, hcell, hwz⟩⟩
  obtain ⟨a2, rfl, rfl, rfl, w2⟩ := open_int Try.underlying3 (hval 2 3 v2 rfl rfl) h2
  obtain ⟨a3, rfl, rfl, rfl, w3⟩ := open_int Try.underlying24 (hval 3 24 v3 rfl rfl) h3
  obtain ⟨a4, rfl, rfl, rfl, w4⟩ := open_int Try.underlying5 (hval 4 5 v4 rfl rfl) h4
  clear hA0 hval0
  refine (walk a0 a1 len1 cap1 z1 a2 a3 a4 W w0 w1 w2 w3 w4).mono fun e W' ⟨he, bel⟩ => ?_
  subst he
  exact ⟨_, rfl, _, _, _, [], _, [], hW', trodAll_mk1 (shut_bool Try.underlying4 _), (trodAll_cons_mk (shut_string Try.underlying9 w0) (trodAll_cons_mk (Below.trod laidOut (by kernel_rfl) (of_decide_eq_true (by kernel_rfl)) k1 bel lt1) (trodAll_cons_mk (shut_int Try.underlying3 w2) (trodAll_cons_mk (shut_int Try.underlying24 w3) (trodAll_cons_mk (shut_int Try.underlying5 w4) trodAll_mk0))))), rfl, bel.frame _, fun h => by cases h⟩

theorem over : Rows.authSumsRow.holds Try.pinned (OpenSpec.ofChange Rows.authSumsSpec) :=
  OpenClaim.holds_of_wide 5 Try.f5 rfl rfl rfl rfl rfl rfl rfl ⟨rfl, rfl, rfl, rfl, rfl⟩ rfl rfl rfl rfl rfl (by kernel_rfl) Try.func5 (by kernel_rfl)
    (of_decide_eq_true (by kernel_rfl)) (by unfold Func.isWrapper; first | (rw [if_pos (by decide +kernel)]; kernel_rfl) | (rw [if_neg (by decide +kernel)]; exact ⟨rfl, rfl⟩))
    (fun os started H enc _ => lifted os started H enc)

/-- ████ THE STATEMENT ████ -/
theorem proved : Rows.AuthSumsSaid := over
#print axioms proved
end Go.Proofs.Ytbomphggifdlaaa.authSums
