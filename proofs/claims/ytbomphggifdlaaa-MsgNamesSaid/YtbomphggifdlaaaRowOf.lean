/-
  msg.rowOf and msg.Name: the row of a kind, its name. No condition.
-/
import Derived.Test.YtbomphggifdlaaaKinds
import Derived.LoopTactic
namespace Go.Proofs.Ytbomphggifdlaaa
open Go.ChangeShapes Go.WideShapes Go.ChangeAt Go.RowKit

/-- The place of a kind in the table; 27: there is none. -/
def rowIx (k : Int) : Nat := kindTab.findIdx (fun x => x.1 == k)

def kindAt (r : Nat) : Int := (kindTab.getD r (0, [], [])).1
def nameAt (r : Nat) : ByteArray := ⟨(kindTab.getD r (0, [], [])).2.1.toArray⟩

theorem rowIx_hit (k : Int) (r : Nat) (hr : r < 27) (h : kindAt r = k) (hno : ∀ q, q < r → kindAt q ≠ k) : rowIx k = r := by
  have hl : r < kindTab.length := hr
  have hat : ∀ q (hq : q < kindTab.length), kindAt q = kindTab[q].1 := fun q hq => by
    unfold kindAt; rw [List.getD_eq_getElem?_getD, List.getElem?_eq_getElem hq]; rfl
  unfold rowIx
  rw [List.findIdx_eq hl]
  refine ⟨by rw [← hat r hl, h]; exact beq_self_eq_true k, fun q hq => ?_⟩
  have := hno q hq
  rw [hat q (Nat.lt_trans hq hl)] at this
  simpa using this
theorem rowIx_none (k : Int) (hno : ∀ q, q < 27 → kindAt q ≠ k) : rowIx k = 27 := by
  have hat : ∀ q (hq : q < kindTab.length), kindAt q = kindTab[q].1 := fun q hq => by
    unfold kindAt; rw [List.getD_eq_getElem?_getD, List.getElem?_eq_getElem hq]; rfl
  unfold rowIx
  rw [show (27 : Nat) = kindTab.length from rfl, List.findIdx_eq_length]
  intro x hx
  obtain ⟨q, hq, rfl⟩ := List.mem_iff_getElem.1 hx
  have := hno q hq
  rw [hat q hq] at this
  simpa using this

/-- What rowOf gives back. -/
def rowAns (k : Int) (w : World) (e : Ending) (w' : World) : Prop :=
  Below w.heap.size w w' ∧ ∃ n, w.heap.size ≤ n ∧ n + 24 ≤ w'.heap.size ∧ KindsAt w' n ∧
    ((rowIx k < 27 ∧ e = .returned (.tuple #[.agg #[.int .u8 (kindAt (rowIx k)), .string (nameAt (rowIx k)), fieldsV n (rowIx k)], .bool true])) ∨
     (rowIx k = 27 ∧ e = .returned (.tuple #[.agg #[.int .u8 0, .string ⟨#[]⟩, .slice none 0 0], .bool false])))

theorem KindsAt.keep {w w' : World} {n : Nat} (h : KindsAt w n) (hk : ∀ k, n ≤ k → k < n + 24 → w'.heap[k]? = w.heap[k]?) : KindsAt w' n :=
  ⟨(hk _ (by omega) (by omega)).trans h.blk, fun i o ho => (hk _ (by omega) (by
    have := (List.getElem?_eq_some_iff.1 ho).1
    have hl : (kindObjs n).length = 24 := rfl
    omega)).trans (h.lists i o ho)⟩
theorem KindsAt.set_ {w : World} {n : Nat} (h : KindsAt w n) {p : Addr} (hp : p.block < n) (u : Value) : KindsAt (w.setCell p u) n :=
  h.keep fun k hk _ => Below.heap_setCell w p u k (by omega)
theorem KindsAt.alloc {w : World} {n : Nat} (h : KindsAt w n) (hn : n + 24 ≤ w.heap.size) (o : Obj) : KindsAt (w.alloc o) n :=
  h.keep fun k _ hk => Below.heap_alloc w o k (by omega)

theorem rowOf_calls (k : Int) (w : World) : Calls Try.prog 13 #[.int .u8 k] w (rowAns k w) := by
  go_enter Try.func13, Try.ntmps13
  go_wp2_with (go_at_call 14; refine (kinds_calls _).mono ?_; rintro e w' ⟨rfl, rfl⟩)
  have hk0 := kindsAt_new (w.alloc (Obj.cells #[Value.int IntKind.u8 0, Value.string { data := #[] }, Value.slice none 0 0] 40))
  have hb0 := foldl_alloc_below (kindObjs (w.heap.size + 1)) (w.alloc (Obj.cells #[Value.int IntKind.u8 0, Value.string { data := #[] }, Value.slice none 0 0] 40))
  have hz0 := foldl_alloc_size (kindObjs (w.heap.size + 1)) (w.alloc (Obj.cells #[Value.int IntKind.u8 0, Value.string { data := #[] }, Value.slice none 0 0] 40))
  have hr0 : Blk (List.foldl World.alloc (w.alloc (Obj.cells #[Value.int IntKind.u8 0, Value.string { data := #[] }, Value.slice none 0 0] 40)) (kindObjs (w.heap.size + 1))) w.heap.size 40 #[Value.int IntKind.u8 0, Value.string { data := #[] }, Value.slice none 0 0] := (hb0.block _ (by simp)).trans (Blk.new _ _ _)
  rw [World.size_alloc] at hk0 hb0 hz0
  have hb1 : Below w.heap.size w (List.foldl World.alloc (w.alloc (Obj.cells #[Value.int IntKind.u8 0, Value.string { data := #[] }, Value.slice none 0 0] 40)) (kindObjs (w.heap.size + 1))) := ((Below.refl _ _).alloc (Nat.le_refl _) _).trans (hb0.mono (by omega))
  generalize List.foldl World.alloc (w.alloc (Obj.cells #[Value.int IntKind.u8 0, Value.string { data := #[] }, Value.slice none 0 0] 40)) (kindObjs (w.heap.size + 1)) = w0 at hk0 hb0 hz0 hr0 hb1 ⊢
  have hz1 : (kindObjs (w.heap.size + 1)).length = 24 := rfl
  rw [hz1] at hz0
  clear hz1 hb0
  have HK0 := Lib.hid hk0; clear hk0
  have HR0 := Lib.hid hr0; clear hr0
  have HB1 := Lib.hid hb1; clear hb1
  have HZ0 := Lib.hid hz0; clear hz0
  generalize hg : w.heap.size + 1 + 23 = g
  have HG := Lib.hid hg; clear hg
  go_loopw [8] (fun i wr => ∃ r : Nat, r ≤ 27 ∧ i = .int .i64 r ∧ Below w0.heap.size w0 wr ∧ ∀ q, q < r → kindAt q ≠ k) (fun i _ => 27 - (intOf i).toNat)
  case atStart => exact ⟨0, by omega, rfl, Below.refl _ _, fun q hq => absurd hq (Nat.not_lt_zero q)⟩
  case round =>
    obtain ⟨r, hr, rfl, hb, hno⟩ := hrel
    have HNO := Lib.hid hno; clear hno
    have HB := Lib.hid hb; clear hb
    by_cases hlt : r < 27
    · have HK := Lib.hid (HK0.out.below HB.out (by rw [HZ0.out]; exact Nat.le_refl _))
      have HR := Lib.hid (HR0.out.below HB.out (by rw [HZ0.out]; omega))
      have c0 : wr.cell? ⟨g, r * 3, none⟩ = some (.int .u8 (kindAt r)) := by rw [← HG.out, HK.out.blk.cell, kindCells_kind _ r hlt]; rfl
      have c1 : wr.cell? ⟨g, r * 3 + 1, none⟩ = some (.string (nameAt r)) := by rw [← HG.out, HK.out.blk.cell, kindCells_name _ r hlt]; rfl
      have c2 : wr.cell? ⟨g, r * 3 + 2, none⟩ = some (fieldsV (w.heap.size + 1) r) := by rw [← HG.out, HK.out.blk.cell, kindCells_fields _ r hlt]
      obtain ⟨fa, fl, fc, hfv⟩ := fieldsV_slice (w.heap.size + 1) r hlt
      rw [hfv] at c2
      have HFV := Lib.hid hfv; clear hfv
      have hgl : g < wr.heap.size := by have := HB.out.size; have := HZ0.out; have := HG.out; omega
      have hwl : w.heap.size < wr.heap.size := by have := HB.out.size; have := HZ0.out; omega
      have d0 : wr.cell? ⟨w.heap.size, 0, none⟩ = some (.int .u8 0) := HR.out.cell 0
      have d1 : wr.cell? ⟨w.heap.size, 1, none⟩ = some (.string ⟨#[]⟩) := HR.out.cell 1
      have d2 : wr.cell? ⟨w.heap.size, 2, none⟩ = some (.slice none 0 0) := HR.out.cell 2
      have f0 := HR.out.frozen 0
      have f1 := HR.out.frozen 1
      have f2 := HR.out.frozen 2
      by_cases he : kindAt r = k
      · have hix := rowIx_hit k r hlt he HNO.out
        have HIX := Lib.hid hix; clear hix
        have hbe : (kindAt r == k) = true := by simpa using he
        have HE := Lib.hid he; clear he
        go_wp2_with fail
        refine bodyPost_ret (v := .tuple #[.agg #[.int .u8 (kindAt r), .string (nameAt r), .slice fa fl fc], .bool true]) (by simp [results, Try.results13, go_sem, d0, d1, d2, hwl]) rfl ?_
        have hsz := HB.out.size
        have hz0 := HZ0.out
        refine ⟨HB1.out.trans (((((HB.out.mono (B' := w.heap.size) (by omega)).setCell (Nat.le_refl _) _).setCell (Nat.le_refl _) _).setCell (Nat.le_refl _) _).alloc (by simp; omega) _), w.heap.size + 1, by omega, by simp; omega, ?_, .inl ⟨by rw [HIX.out]; exact hlt, by rw [HIX.out, HFV.out]⟩⟩
        exact (((HK.out.set_ (Nat.lt_succ_self _) _).set_ (Nat.lt_succ_self _) _).set_ (Nat.lt_succ_self _) _).alloc (by simp; omega) _
      · have hbe : (kindAt r == k) = false := by simpa using he
        have HE := Lib.hid he; clear he
        go_wp2_with fail
        go_roundw
        case rel => exact ⟨r + 1, by omega, by go_num, HB.out.alloc HB.out.size _, fun q hq => (by rcases Nat.lt_succ_iff_lt_or_eq.1 hq with h | h; exact HNO.out q h; exact h ▸ HE.out)⟩
        case measure => simp [intOf]; omega
    · have hrr : r = 27 := by omega
      have HRR := Lib.hid hrr; clear hrr
      have hix := rowIx_none k (fun q hq => HNO.out q (by rw [HRR.out]; exact hq))
      have HIX := Lib.hid hix; clear hix
      have HK := Lib.hid (HK0.out.below HB.out (by rw [HZ0.out]; exact Nat.le_refl _))
      have HR := Lib.hid (HR0.out.below HB.out (by rw [HZ0.out]; omega))
      have d0 : wr.cell? ⟨w.heap.size, 0, none⟩ = some (.int .u8 0) := HR.out.cell 0
      have d1 : wr.cell? ⟨w.heap.size, 1, none⟩ = some (.string ⟨#[]⟩) := HR.out.cell 1
      have d2 : wr.cell? ⟨w.heap.size, 2, none⟩ = some (.slice none 0 0) := HR.out.cell 2
      have f0 := HR.out.frozen 0
      have f1 := HR.out.frozen 1
      have f2 := HR.out.frozen 2
      go_wp2_with fail
      refine bodyPost_ret (v := .tuple #[.agg #[.int .u8 0, .string ⟨#[]⟩, .slice none 0 0], .bool false]) (by simp [results, Try.results13, go_sem, d0, d1, d2]) rfl ?_
      have hsz := HB.out.size
      have hz0 := HZ0.out
      refine ⟨HB1.out.trans ((((HB.out.mono (B' := w.heap.size) (by omega)).setCell (Nat.le_refl _) _).setCell (Nat.le_refl _) _).setCell (Nat.le_refl _) _), w.heap.size + 1, by omega, by simp; omega, ?_, .inr ⟨HIX.out, rfl⟩⟩
      exact ((HK.out.set_ (Nat.lt_succ_self _) _).set_ (Nat.lt_succ_self _) _).set_ (Nat.lt_succ_self _) _

/-- msg.Name. -/
theorem name_calls (k : Int) (w : World) : Calls Try.prog 11 #[.int .u8 k] w fun e w' => e = .returned (.string (nameAt (rowIx k))) ∧ Below w.heap.size w w' := by
  go_enter Try.func11, Try.ntmps11
  go_wp2_with fail
  refine (rowOf_calls _ _).mono ?_
  rintro e w' ⟨hb, n, hn1, hn2, hk, ⟨hi, rfl⟩ | ⟨hi, rfl⟩⟩
  · obtain ⟨fa, fl, fc, hfv⟩ := fieldsV_slice n _ hi
    rw [hfv]
    have HI := Lib.hid hi; clear hi hfv hk
    have HB := Lib.hid hb; clear hb
    go_wp2_with fail
    go_ret
    exact ⟨rfl, HB.out.alloc HB.out.size _⟩
  · have HI := Lib.hid hi; clear hi hk
    have HB := Lib.hid hb; clear hb
    have hnm : Ending.returned (.string ⟨#[]⟩) = .returned (.string (nameAt (rowIx k))) := by rw [HI.out]; rfl
    have HN := Lib.hid hnm; clear hnm
    go_wp2_with fail
    go_ret
    exact ⟨HN.out, HB.out.alloc HB.out.size _⟩
end Go.Proofs.Ytbomphggifdlaaa
