
/-
  auth.own: a Talk whose bytes are its own.
-/
import Derived.Test.YtlenlldiimohjaaGreatDoorAWords
import Derived.Test.YtlenlldiimohjaaGreatDoorAHex
import Derived.Deep.DeepCutAuto
namespace Go.Proofs.YtlenlldiimohjaaGreatDoor
open Go.RowKit

theorem own_other {w w' : World} {base q n : Nat} {e : TypeId} {size : Nat} {v : Value} {xs : List Value} (h : w.ownsRow base e size v n xs) (hv : v.ownBlock ≠ some q) (ho : ∀ i, i ≠ q → w'.heap[i]? = w.heap[i]?) : w'.ownsRow base e size v n xs := by
  obtain ⟨h1, h2⟩ := h
  refine ⟨h1, ?_⟩
  rcases h2 with h2 | ⟨g, cap, cur, rfl, hb, hg, h3⟩
  · exact .inl h2
  · have hne : g ≠ q := fun he => hv (by rw [he]; rfl)
    exact .inr ⟨g, cap, cur, rfl, hb, (ho g hne).trans hg, h3⟩
theorem results_own {tmps : Array Value} {w : World} {q : Nat} {t : Tk} {hv : Value} (h2 : tmps.getD 2 undef = .pointer (some ⟨q, 0, none⟩)) (hk : TBlk w q t hv) :
    (results Tryz.f57 tmps).run Tryz.prog w = .ok (talkV t hv) w := by
  have h2' : tmps[2]?.getD undef = .pointer (some ⟨q, 0, none⟩) := by simpa using h2
  simp [results, Tryz.results57, h2', asAddr, loadVar_talk hk]
set_option maxRecDepth 100000 in
set_option maxHeartbeats 1600000 in
theorem own_calls (t : Tk) (hv : Value) (l : List UInt8) (w : World) (h : Bys w w.heap.size hv l) (hl : l.length ≤ 33) :
    Calls Tryz.prog 57 #[talkV t hv] w fun e w' => (∃ hu, e = .returned (talkV t hu) ∧ w'.ownsRow w.heap.size 5 1 hu l.length (byteL l)) ∧ Below w.heap.size w w' := by
  obtain ⟨A, cap, rfl, hc, hm, hr⟩ := h
  obtain ⟨i0, hi0, hz0, hz1, hz2⟩ := info_parts u8_info
  have HI := Lib.hid hi0; clear hi0
  have HZ0 := Lib.hid hz0; clear hz0
  have HZ1 := Lib.hid hz1; clear hz1
  have HZ2 := Lib.hid hz2; clear hz2
  have HR := Lib.hid hr; clear hr
  go_enter Tryz.func57, Tryz.ntmps57
  go_upto_region 1 with (fail)
  have HB := Lib.hid (show Below w.heap.size w ((w.alloc (Obj.cells #[.string t.user, .string t.tree, .int .u64 t.ours, .int .u64 t.theirs, .int .u8 t.step, .int .i64 t.said, .slice A l.length cap] 54)).alloc (Obj.cells #[.string ⟨#[]⟩, .string ⟨#[]⟩, .int .u64 0, .int .u64 0, .int .u8 0, .int .i64 0, .slice none 0 0] 54)) from ((Below.refl _ _).alloc (Nat.le_refl _) _).alloc (by simp) _)
  have HT := Lib.hid (show TBlk ((w.alloc (Obj.cells #[.string t.user, .string t.tree, .int .u64 t.ours, .int .u64 t.theirs, .int .u8 t.step, .int .i64 t.said, .slice A l.length cap] 54)).alloc (Obj.cells #[.string ⟨#[]⟩, .string ⟨#[]⟩, .int .u64 0, .int .u64 0, .int .u8 0, .int .i64 0, .slice none 0 0] 54)) w.heap.size t (.slice A l.length cap) from Blk.alloc (Blk.new w _ (talkL t (.slice A l.length cap)).toArray) _)
  have HZ := Lib.hid (show TBlk ((w.alloc (Obj.cells #[.string t.user, .string t.tree, .int .u64 t.ours, .int .u64 t.theirs, .int .u8 t.step, .int .i64 t.said, .slice A l.length cap] 54)).alloc (Obj.cells #[.string ⟨#[]⟩, .string ⟨#[]⟩, .int .u64 0, .int .u64 0, .int .u8 0, .int .i64 0, .slice none 0 0] 54)) (w.heap.size + 1) Tk.none (.slice none 0 0) from by
    have h := TBlk.zero (w.alloc (Obj.cells (talkL t (.slice A l.length cap)).toArray 54))
    simp only [World.size_alloc] at h
    exact h)
  generalize (w.alloc (Obj.cells #[.string t.user, .string t.tree, .int .u64 t.ours, .int .u64 t.theirs, .int .u8 t.step, .int .i64 t.said, .slice A l.length cap] 54)).alloc (Obj.cells #[.string ⟨#[]⟩, .string ⟨#[]⟩, .int .u64 0, .int .u64 0, .int .u8 0, .int .i64 0, .slice none 0 0] 54) = w1 at HB HT HZ ⊢
  replace HR := Lib.hid (HR.out.below HB.out)
  have hnew := Blk.lt HZ.out
  have k6 : w1.cell? ⟨w.heap.size, 6, none⟩ = some (.slice A l.length cap) := Blk.cell HT.out 6
  go_upto_region 2 with (at_builtin; refine wpList_append_any _ rfl (.const (.slice none 0 0)) (.tmp 4) _ rfl w.heap.size 5 i0 _ 1 1 Tryz.underlying47 HI.out HZ0.out HZ1.out HZ2.out rfl (by omega) (.slice none 0 0) 0 [] rfl ⟨by simp, .inl ⟨rfl, rfl⟩⟩ w.heap.size A l.length cap (byteL l) rfl HR.out (byteL_one l) (by unfold maxLen; omega) (by omega) HB.out.size ?_; intro v2 w2 hown0 hgr hor; have hown : w2.ownsRow w.heap.size 5 1 v2 l.length (byteL l) := (by have h := hown0; rw [Nat.zero_add] at h; exact h); clear hown0; obtain ⟨A2, c2, rfl, -⟩ := Bys.of_own hown; have HT2 := Lib.hid (Blk.grown (row := none) HT.out hgr (by simp)); have HZ2b := Lib.hid (Blk.grown (row := none) HZ.out hgr (by simp)); have HB2 := Lib.hid (HB.out.grown (row := none) hgr HB.out.size (by simp)); have HO := Lib.hid hown; have HOR := Lib.hid hor; clear k6 hown hgr hor; have k6 := Blk.cell HT2.out 6; have z6 := Blk.frozen HT2.out 6)
  have hne2 : (Value.slice A2 l.length c2).ownBlock ≠ some w.heap.size := by
    rcases HOR.out with h | h
    · rw [h]
      simp [Value.ownBlock]
    · rw [h]
      intro he
      injection he with he
      omega
  have HO3 := Lib.hid (own_other HO.out hne2 (setCell_other w2 w.heap.size 6 (.slice A2 l.length c2)))
  have HT3 := Lib.hid (show TBlk (w2.setCell ⟨w.heap.size, 6, none⟩ (.slice A2 l.length c2)) w.heap.size t (.slice A2 l.length c2) from Blk.set_ HT2.out 6 (.slice A2 l.length c2))
  have HZ3 := Lib.hid (show TBlk (w2.setCell ⟨w.heap.size, 6, none⟩ (.slice A2 l.length c2)) (w.heap.size + 1) Tk.none (.slice none 0 0) from Blk.far HZ2b.out (by show w.heap.size + 1 ≠ w.heap.size; omega) _)
  have HB3 := Lib.hid (HB2.out.setCell (p := ⟨w.heap.size, 6, none⟩) (Nat.le_refl _) (.slice A2 l.length c2))
  have HN3 := Lib.hid (show (Value.slice A2 l.length c2).ownBlock ≠ some (w.heap.size + 1) from by
    rcases HOR.out with h | h
    · rw [h]
      simp [Value.ownBlock]
    · rw [h]
      intro he
      injection he with he
      omega)
  clear k6 z6 hne2
  change Code.wp _ _ _ _ (w2.setCell ⟨w.heap.size, 6, none⟩ (.slice A2 l.length c2))
  generalize w2.setCell ⟨w.heap.size, 6, none⟩ (.slice A2 l.length c2) = w3 at HO3 HT3 HZ3 HB3 ⊢
  go_wp2_with (first
    | (refine wT HT3.out rfl _ rfl rfl ?_)
    | (refine wstT HZ3.out t (.slice A2 l.length c2) rfl rfl _ _ rfl rfl rfl ?_; intro w4 hs ho hbl; have HX := Lib.hid hs; have HB4 := Lib.hid (hbl _ _ HB3.out (by omega)); have HO4 := Lib.hid (own_other HO3.out HN3.out ho); clear hs ho hbl))
  exact bodyPost_ret (results_own rfl HX.out) rfl ⟨⟨_, rfl, HO4.out⟩, HB4.out⟩
end Go.Proofs.YtlenlldiimohjaaGreatDoor
