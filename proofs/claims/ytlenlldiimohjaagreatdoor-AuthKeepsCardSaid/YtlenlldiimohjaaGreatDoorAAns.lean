
/-
  auth.answer: a client's line. Conditions: math/bits' table (TZ).
-/
import Derived.Test.YtlenlldiimohjaaGreatDoorATalk2
import Derived.Test.YtlenlldiimohjaaGreatDoorALine
import Derived.Test.YtlenlldiimohjaaGreatDoorU33
namespace Go.Proofs.YtlenlldiimohjaaGreatDoor
open Go.RowKit

/-- Where answer stands. -/
def AN (w0 : World) (t : Tk) (hv : Value) (w : World) : Prop := TBlk w w0.heap.size t hv ∧ TZ w ∧ Below w0.heap.size w0 w
theorem AN.next {w0 w w' : World} {t : Tk} {hv : Value} (h : AN w0 t hv w) (hb : Below w.heap.size w w') : AN w0 t hv w' := ⟨h.1.below hb, h.2.1.below hb (Nat.le_refl _), h.2.2.trans (hb.mono h.2.2.size)⟩
theorem AN.tz {w0 w : World} {t : Tk} {hv : Value} (h : AN w0 t hv w) : TZ w := h.2.1
theorem AN.low {w0 w : World} {t : Tk} {hv : Value} (h : AN w0 t hv w) : Below w0.heap.size w0 w := h.2.2
theorem AN.k0 {w0 w : World} {t : Tk} {hv : Value} (h : AN w0 t hv w) : w.cell? ⟨w0.heap.size, 0, none⟩ = some (.string t.user) := Blk.cell h.1 0
theorem AN.k1 {w0 w : World} {t : Tk} {hv : Value} (h : AN w0 t hv w) : w.cell? ⟨w0.heap.size, 1, none⟩ = some (.string t.tree) := Blk.cell h.1 1
theorem AN.k2 {w0 w : World} {t : Tk} {hv : Value} (h : AN w0 t hv w) : w.cell? ⟨w0.heap.size, 2, none⟩ = some (.int .u64 t.ours) := Blk.cell h.1 2
theorem AN.start {w : World} (h : TZ w) (t : Tk) (hv : Value) : AN w t hv (w.alloc (Obj.cells #[.string t.user, .string t.tree, .int .u64 t.ours, .int .u64 t.theirs, .int .u8 t.step, .int .i64 t.said, hv] 54)) :=
  ⟨Blk.new w _ (talkL t hv).toArray, h.below ((Below.refl _ _).alloc (Nat.le_refl _) _) (Nat.le_refl _), (Below.refl _ _).alloc (Nat.le_refl _) _⟩
theorem answer_eq (key user tree : ByteArray) (ours : Int) (theirs : Nat) : hex16 theirs ++ shownS (shN key user tree 1 ours theirs) = lineS key user tree ours theirs := by
  show ofL (hexN 16 theirs) ++ ofL (hexN 16 _ ++ [10]) = _
  rw [bytes_app, ← List.append_assoc]
  rfl
theorem shownS_size (n : Nat) : (shownS n).size = 17 := by
  show (hexN 16 n ++ [10]).toArray.size = 17
  rw [List.size_toArray, List.length_append, hexN_len]
  rfl

set_option maxRecDepth 100000 in
set_option maxHeartbeats 3200000 in
theorem answer_calls (key : ByteArray) (t : Tk) (hv : Value) (theirs : Nat) (h64 : theirs < 18446744073709551616) (w : World) (h : TZ w) (hk : key.size ≤ maxLen) (hu : t.user.size ≤ maxLen) (ht : t.tree.size ≤ maxLen) :
    Calls Tryz.prog 61 #[.string key, talkV t hv, .int .u64 (theirs : Int)] w fun e w' => e = .returned (.string (lineS key t.user t.tree t.ours theirs)) ∧ Below w.heap.size w w' := by
  have HS := Lib.hid (AN.start h t hv)
  have HK := Lib.hid hk
  have HU := Lib.hid hu
  have HTR := Lib.hid ht
  have H64 := Lib.hid h64
  have HLE := Lib.hid (answer_eq key t.user t.tree t.ours theirs)
  obtain ⟨a, haa⟩ : ∃ a, hex16 theirs = a := ⟨_, rfl⟩
  have has : a.size = 16 := by rw [← haa]; exact hex16_size theirs
  have HAA := Lib.hid haa
  obtain ⟨b, hbb⟩ : ∃ b, shownS (shN key t.user t.tree 1 t.ours theirs) = b := ⟨_, rfl⟩
  have hbs : b.size = 17 := by rw [← hbb]; exact shownS_size _
  have HBB := Lib.hid hbb
  clear h hk hu ht haa hbb
  go_enter Tryz.func61, Tryz.ntmps61
  go_upto_region 1 with (fail)
  generalize w.alloc (Obj.cells #[.string t.user, .string t.tree, .int .u64 t.ours, .int .u64 t.theirs, .int .u8 t.step, .int .i64 t.said, hv] 54) = w1 at HS ⊢
  refine wp_region_held_drew (S := AN w t hv) (by kernel_rfl) (HS.out.next (below_drew _)) (fun hHeld => ?_)
  generalize w1.drew = wd at hHeld ⊢
  refine wpAnyH_takeD 7 (i := 0) (v := .int .u64 (theirs : Int)) rfl rfl (by kernel_rfl) (by kernel_rfl) (by kernel_rfl) (fun _ _ _ h => h) (Or.inl ⟨by rfl, fun wq hSw => by go_simp⟩) (by assumption) ?_
  simp only [Act.put, List.setIfInBounds_toArray, List.set_cons_zero, List.set_cons_succ]
  refine wpAnyH_takeD 9 (i := 2) (v := .string key) rfl rfl (by kernel_rfl) (by kernel_rfl) (by kernel_rfl) (fun _ _ _ h => h) (Or.inl ⟨by rfl, fun wq hSw => by go_simp⟩) (by assumption) ?_
  simp only [Act.put, List.setIfInBounds_toArray, List.set_cons_zero, List.set_cons_succ]
  refine wpAnyH_takeD 10 (i := 3) (v := .pointer (some ⟨w.heap.size, 2, none⟩)) rfl rfl (by kernel_rfl) (by kernel_rfl) (by kernel_rfl) (fun _ _ _ h => h) (Or.inl ⟨by rfl, fun wq hSw => by go_simp⟩) (by assumption) ?_
  simp only [Act.put, List.setIfInBounds_toArray, List.set_cons_zero, List.set_cons_succ]
  refine wpAnyH_takeD 11 (i := 4) (v := .int .u64 t.ours) rfl rfl (by kernel_rfl) (by kernel_rfl) (by kernel_rfl) (fun _ _ _ h => h) (Or.inl ⟨by rfl, fun wq hSw => by have k := hSw.k2; go_simp⟩) (by assumption) ?_
  simp only [Act.put, List.setIfInBounds_toArray, List.set_cons_zero, List.set_cons_succ]
  refine wpAnyH_takeD 12 (i := 5) (v := .int .u64 (theirs : Int)) rfl rfl (by kernel_rfl) (by kernel_rfl) (by kernel_rfl) (fun _ _ _ h => h) (Or.inl ⟨by rfl, fun wq hSw => by go_simp⟩) (by assumption) ?_
  simp only [Act.put, List.setIfInBounds_toArray, List.set_cons_zero, List.set_cons_succ]
  refine wpAnyH_takeD 13 (i := 6) (v := .pointer (some ⟨w.heap.size, 0, none⟩)) rfl rfl (by kernel_rfl) (by kernel_rfl) (by kernel_rfl) (fun _ _ _ h => h) (Or.inl ⟨by rfl, fun wq hSw => by go_simp⟩) (by assumption) ?_
  simp only [Act.put, List.setIfInBounds_toArray, List.set_cons_zero, List.set_cons_succ]
  refine wpAnyH_takeD 14 (i := 7) (v := .string t.user) rfl rfl (by kernel_rfl) (by kernel_rfl) (by kernel_rfl) (fun _ _ _ h => h) (Or.inl ⟨by rfl, fun wq hSw => by have k := hSw.k0; go_simp⟩) (by assumption) ?_
  simp only [Act.put, List.setIfInBounds_toArray, List.set_cons_zero, List.set_cons_succ]
  refine wpAnyH_takeD 15 (i := 8) (v := .pointer (some ⟨w.heap.size, 1, none⟩)) rfl rfl (by kernel_rfl) (by kernel_rfl) (by kernel_rfl) (fun _ _ _ h => h) (Or.inl ⟨by rfl, fun wq hSw => by go_simp⟩) (by assumption) ?_
  simp only [Act.put, List.setIfInBounds_toArray, List.set_cons_zero, List.set_cons_succ]
  refine wpAnyH_takeD 16 (i := 9) (v := .string t.tree) rfl rfl (by kernel_rfl) (by kernel_rfl) (by kernel_rfl) (fun _ _ _ h => h) (Or.inl ⟨by rfl, fun wq hSw => by have k := hSw.k1; go_simp⟩) (by assumption) ?_
  simp only [Act.put, List.setIfInBounds_toArray, List.set_cons_zero, List.set_cons_succ]
  refine wpAnyH_ready (rs := [1]) (by kernel_rfl) (by simp) ?_
  refine AllReadyH.cons rfl (fun K hK => ?_) AllReadyH.nil
  rw [if_pos (by rfl)]
  go_simp
  (with_reducible refine (digits_calls theirs H64.out _ hHeld.tz).mono ?_)
  rw [HAA.out]
  rintro e w2 ⟨rfl, hb⟩
  dsimp only
  have hOld := hHeld.next hb
  clear hHeld hb
  refine hK.out _ _ hOld (fun hHeld => ?_)
  clear hK hOld
  refine wpAnyH_ready (rs := [10]) (by kernel_rfl) (by simp) ?_
  refine AllReadyH.cons rfl (fun K hK => ?_) AllReadyH.nil
  rw [if_pos (by rfl)]
  go_simp
  (with_reducible refine (shown_calls key t.user t.tree 1 t.ours theirs _ hHeld.tz HK.out HU.out HTR.out).mono ?_)
  rw [HBB.out]
  rintro e w3 ⟨rfl, hb⟩
  dsimp only
  have hOld := hHeld.next hb
  clear hHeld hb
  refine hK.out _ _ hOld (fun hHeld => ?_)
  clear hK hOld
  refine wpAnyH_takeD 18 (i := 11) (v := .string (a ++ b)) rfl rfl (by kernel_rfl) (by kernel_rfl) (by kernel_rfl) (fun _ _ _ h => h) (Or.inl ⟨by rfl, fun wq hSw => by go_simp⟩) (by assumption) ?_
  simp only [Act.put, List.setIfInBounds_toArray, List.set_cons_zero, List.set_cons_succ]
  refine wpAnyH_takeD 6 (i := 12) (v := .string (a ++ b)) rfl rfl (by kernel_rfl) (by kernel_rfl) (by kernel_rfl) (fun _ _ _ h => h) (Or.inl ⟨by rfl, fun wq hSw => by go_simp⟩) (by assumption) ?_
  simp only [Act.put, List.setIfInBounds_toArray, List.set_cons_zero, List.set_cons_succ]
  refine wpAnyH_done (by kernel_rfl) ?_ _
  go_wp2_with fail
  go_ret
  exact ⟨by rw [← HLE.out, HAA.out, HBB.out]; rfl, hHeld.low⟩
end Go.Proofs.YtlenlldiimohjaaGreatDoor
