/-
  ADo5 AReadO: what AuthDoes needs of them.
-/
import Derived.Test.YtlenlldiimohjaaGreatDoorQ09
import Derived.Test.YtlenlldiimohjaaGreatDoorQ11
import Derived.Test.YtlenlldiimohjaaGreatDoorQ08
namespace Go.Proofs.YtlenlldiimohjaaGreatDoor
open Go.RowKit

theorem results_rown {tmps : Array Value} {w : World} {q : Nat} {t : Tk} {hv : Value} (h2 : tmps.getD 2 undef = .pointer (some ⟨q, 0, none⟩)) (hk : TBlk w q t hv) :
    (results Tryz.f126 tmps).run Tryz.prog w = .ok (talkV t hv) w := by
  have h2' : tmps[2]?.getD undef = .pointer (some ⟨q, 0, none⟩) := by simpa using h2
  simp [results, Tryz.results126, h2', asAddr, loadVar_talk hk]
set_option maxRecDepth 100000 in
set_option maxHeartbeats 1600000 in
theorem refOwn_calls (t : Tk) (hv : Value) (l : List UInt8) (w : World) (h : Bys w w.heap.size hv l) (hl : l.length ≤ 33) :
    Calls Tryz.prog 126 #[talkV t hv] w fun e w' => (∃ hu, e = .returned (talkV t hu) ∧ w'.ownsRow w.heap.size 5 1 hu l.length (byteL l)) ∧ Below w.heap.size w w' := by
  obtain ⟨A, cap, rfl, hc, hm, hr⟩ := h
  obtain ⟨i0, hi0, hz0, hz1, hz2⟩ := info_parts u8_info
  have HI := Lib.hid hi0; clear hi0
  have HZ0 := Lib.hid hz0; clear hz0
  have HZ1 := Lib.hid hz1; clear hz1
  have HZ2 := Lib.hid hz2; clear hz2
  have HR := Lib.hid hr; clear hr
  go_enter Tryz.func126, Tryz.ntmps126
  go_upto_region 2 with (fail)
  have HB := Lib.hid (show Below w.heap.size w ((w.alloc (Obj.cells #[.string t.user, .string t.tree, .int .u64 t.ours, .int .u64 t.theirs, .int .u8 t.step, .int .i64 t.said, .slice A l.length cap] 54)).alloc (Obj.cells #[.string ⟨#[]⟩, .string ⟨#[]⟩, .int .u64 0, .int .u64 0, .int .u8 0, .int .i64 0, .slice none 0 0] 54)) from ((Below.refl _ _).alloc (Nat.le_refl _) _).alloc (by simp) _)
  have HT := Lib.hid (show TBlk ((w.alloc (Obj.cells #[.string t.user, .string t.tree, .int .u64 t.ours, .int .u64 t.theirs, .int .u8 t.step, .int .i64 t.said, .slice A l.length cap] 54)).alloc (Obj.cells #[.string ⟨#[]⟩, .string ⟨#[]⟩, .int .u64 0, .int .u64 0, .int .u8 0, .int .i64 0, .slice none 0 0] 54)) w.heap.size t (.slice A l.length cap) from Blk.alloc (Blk.new w _ (talkL t (.slice A l.length cap)).toArray) _)
  have HZ := Lib.hid (show TBlk ((w.alloc (Obj.cells #[.string t.user, .string t.tree, .int .u64 t.ours, .int .u64 t.theirs, .int .u8 t.step, .int .i64 t.said, .slice A l.length cap] 54)).alloc (Obj.cells #[.string ⟨#[]⟩, .string ⟨#[]⟩, .int .u64 0, .int .u64 0, .int .u8 0, .int .i64 0, .slice none 0 0] 54)) (w.heap.size + 1) Tk.none (.slice none 0 0) from by
    have h := TBlk.zero (w.alloc (Obj.cells (talkL t (.slice A l.length cap)).toArray 54))
    simp only [World.size_alloc] at h
    exact h)
  generalize (w.alloc (Obj.cells #[.string t.user, .string t.tree, .int .u64 t.ours, .int .u64 t.theirs, .int .u8 t.step, .int .i64 t.said, .slice A l.length cap] 54)).alloc (Obj.cells #[.string ⟨#[]⟩, .string ⟨#[]⟩, .int .u64 0, .int .u64 0, .int .u8 0, .int .i64 0, .slice none 0 0] 54) = w1 at HB HT HZ ⊢
  replace HR := Lib.hid (HR.out.below HB.out)
  have hnew := Blk.lt HZ.out
  have k6 : w1.cell? ⟨w.heap.size, 6, none⟩ = some (.slice A l.length cap) := Blk.cell HT.out 6
  go_upto_region 3 with (at_builtin; refine wpList_append_any _ rfl (.tmp 4) (.tmp 6) _ rfl w.heap.size 5 i0 _ 1 1 Tryz.underlying47 HI.out HZ0.out HZ1.out HZ2.out rfl (by omega) (.slice none 0 0) 0 [] rfl ⟨by simp, .inl ⟨rfl, rfl⟩⟩ w.heap.size A l.length cap (byteL l) rfl HR.out (byteL_one l) (by unfold maxLen; omega) (by omega) HB.out.size ?_; intro v2 w2 hown0 hgr hor; have hown : w2.ownsRow w.heap.size 5 1 v2 l.length (byteL l) := (by have h := hown0; rw [Nat.zero_add] at h; exact h); clear hown0; obtain ⟨A2, c2, rfl, -⟩ := Bys.of_own hown; have HT2 := Lib.hid (Blk.grown (row := none) HT.out hgr (by simp)); have HZ2b := Lib.hid (Blk.grown (row := none) HZ.out hgr (by simp)); have HB2 := Lib.hid (HB.out.grown (row := none) hgr HB.out.size (by simp)); have HO := Lib.hid hown; have HOR := Lib.hid hor; clear k6 hown hgr hor; have k6 := Blk.cell HT2.out 6; have z6 := Blk.frozen HT2.out 6)
  have hne2 : (Value.slice A2 l.length c2).ownBlock ≠ some w.heap.size := own_blk_ne HO.out HT2.out (by decide)
  have HO3 := Lib.hid (own_other HO.out hne2 (setCell_other w2 w.heap.size 6 (.slice A2 l.length c2)))
  have HT3 := Lib.hid (show TBlk (w2.setCell ⟨w.heap.size, 6, none⟩ (.slice A2 l.length c2)) w.heap.size t (.slice A2 l.length c2) from Blk.set_ HT2.out 6 (.slice A2 l.length c2))
  have HZ3 := Lib.hid (show TBlk (w2.setCell ⟨w.heap.size, 6, none⟩ (.slice A2 l.length c2)) (w.heap.size + 1) Tk.none (.slice none 0 0) from Blk.far HZ2b.out (by show w.heap.size + 1 ≠ w.heap.size; omega) _)
  have HB3 := Lib.hid (HB2.out.setCell (p := ⟨w.heap.size, 6, none⟩) (Nat.le_refl _) (.slice A2 l.length c2))
  have HN3 := Lib.hid (show (Value.slice A2 l.length c2).ownBlock ≠ some (w.heap.size + 1) from own_blk_ne HO.out HZ2b.out (by decide))
  clear k6 z6 hne2
  change Code.wp _ _ _ _ (w2.setCell ⟨w.heap.size, 6, none⟩ (.slice A2 l.length c2))
  generalize w2.setCell ⟨w.heap.size, 6, none⟩ (.slice A2 l.length c2) = w3 at HO3 HT3 HZ3 HB3 ⊢
  go_wp2_with (first
    | (refine wT HT3.out rfl _ rfl rfl ?_)
    | (refine wstT HZ3.out t (.slice A2 l.length c2) rfl rfl _ _ rfl rfl rfl ?_; intro w4 hs ho hbl; have HX := Lib.hid hs; have HB4 := Lib.hid (hbl _ _ HB3.out (by omega)); have HO4 := Lib.hid (own_other HO3.out HN3.out ho); clear hs ho hbl))
  exact bodyPost_ret (results_rown rfl HX.out) rfl ⟨⟨_, rfl, HO4.out⟩, HB4.out⟩
theorem results_rbegin {tmps : Array Value} {w : World} {q : Nat} {t : Tk} {hv : Value} {e : Int} (h8 : tmps.getD 8 undef = .pointer (some ⟨q, 0, none⟩)) (h9 : tmps.getD 9 undef = .int .i64 e) (hk : TBlk w q t hv) :
    (results Tryz.f28 tmps).run Tryz.prog w = .ok (.tuple #[talkV t hv, .int .i64 e]) w := by
  have h8' : tmps[8]?.getD undef = .pointer (some ⟨q, 0, none⟩) := by simpa using h8
  have h9' : tmps[9]?.getD undef = .int .i64 e := by simpa using h9
  simp [results, Tryz.results28, h8', h9', asAddr, loadVar_talk hk]
set_option maxRecDepth 100000 in
set_option maxHeartbeats 1600000 in
theorem refBegin_calls (g : Nat) (L : List Acct) (user tree : ByteArray) (ours : Int) (w : World) (h : RTab w g L) :
    Calls Tryz.prog 28 #[.pointer (some ⟨g, 0, none⟩), .string user, .string tree, .int .u64 ours] w fun e w' => e = .returned (.tuple #[talkV (beginS L user tree ours).1 (.slice none 0 0), .int .i64 (beginS L user tree ours).2]) ∧ Below w.heap.size w w' := by
  have up : ∀ (W : World) (o : Obj), Below W.heap.size W (W.alloc o) := fun W o => (Below.refl _ _).alloc (Nat.le_refl _) o
  have HP := Lib.hid ((h.below (up w (Obj.cells #[.string ⟨#[]⟩, .string ⟨#[]⟩, .int .u64 0, .int .u64 0, .int .u8 0, .int .i64 0, .slice none 0 0] 54))).below (up _ (Obj.cells #[.string ⟨#[]⟩, .string ⟨#[]⟩, .int .u64 0, .int .u64 0, .int .u8 0, .int .i64 0, .slice none 0 0] 54)))
  have HZ := Lib.hid (show TBlk _ w.heap.size Tk.none (.slice none 0 0) from TBlk.below (TBlk.zero w) (up _ (Obj.cells #[.string ⟨#[]⟩, .string ⟨#[]⟩, .int .u64 0, .int .u64 0, .int .u8 0, .int .i64 0, .slice none 0 0] 54)))
  have HN := Lib.hid (show TBlk _ (w.heap.size + 1) Tk.none (.slice none 0 0) from by
    have h := TBlk.zero (w.alloc (Obj.cells #[.string ⟨#[]⟩, .string ⟨#[]⟩, .int .u64 0, .int .u64 0, .int .u8 0, .int .i64 0, .slice none 0 0] 54))
    simp only [World.size_alloc] at h
    exact h)
  have HB := Lib.hid (show Below w.heap.size w _ from (up w (Obj.cells #[.string ⟨#[]⟩, .string ⟨#[]⟩, .int .u64 0, .int .u64 0, .int .u8 0, .int .i64 0, .slice none 0 0] 54)).trans ((up _ (Obj.cells #[.string ⟨#[]⟩, .string ⟨#[]⟩, .int .u64 0, .int .u64 0, .int .u8 0, .int .i64 0, .slice none 0 0] 54)).mono (up _ _).size))
  clear h up
  cases hk : known L user with
  | false =>
    have HS := Lib.hid (show beginS L user tree ours = (Tk.none, 62) from by unfold beginS; rw [if_pos hk])
    have HK := Lib.hid hk
    clear hk
    go_enter Tryz.func28, Tryz.ntmps28
    go_upto_region 2 with (fail)
    generalize (w.alloc (Obj.cells #[.string ⟨#[]⟩, .string ⟨#[]⟩, .int .u64 0, .int .u64 0, .int .u8 0, .int .i64 0, .slice none 0 0] 54)).alloc (Obj.cells #[.string ⟨#[]⟩, .string ⟨#[]⟩, .int .u64 0, .int .u64 0, .int .u8 0, .int .i64 0, .slice none 0 0] 54) = w1 at HP HZ HN HB ⊢
    go_wp2_with (first
      | (go_at_call 26; (with_reducible refine (refKnown_calls g L user _ HP.out).mono ?_); rw [HK.out]; rintro e w' ⟨rfl, rfl⟩)
      | (refine wT HN.out rfl _ rfl rfl ?_)
      | (refine wstT HZ.out Tk.none (.slice none 0 0) rfl rfl _ _ rfl rfl rfl ?_; intro w4 hs ho hbl; have HX := Lib.hid hs; have HB4 := Lib.hid (hbl _ _ HB.out (Nat.le_refl _)); clear hs ho hbl))
    exact bodyPost_ret (results_rbegin rfl rfl HX.out) rfl ⟨by rw [HS.out], HB4.out⟩
  | true =>
    by_cases hz : (keyOfUser L user).size = 0
    · have HS := Lib.hid (show beginS L user tree ours = (Tk.none, 72) from by unfold beginS; rw [if_neg (by rw [hk]; decide), if_pos hz])
      have he := empty_t hz
      have HK := Lib.hid hk
      obtain ⟨kk, hkk⟩ : ∃ z, keyOfUser L user = z := ⟨_, rfl⟩
      rw [hkk] at he
      have HKK := Lib.hid hkk
      clear hk hz hkk
      go_enter Tryz.func28, Tryz.ntmps28
      go_upto_region 2 with (fail)
      generalize (w.alloc (Obj.cells #[.string ⟨#[]⟩, .string ⟨#[]⟩, .int .u64 0, .int .u64 0, .int .u8 0, .int .i64 0, .slice none 0 0] 54)).alloc (Obj.cells #[.string ⟨#[]⟩, .string ⟨#[]⟩, .int .u64 0, .int .u64 0, .int .u8 0, .int .i64 0, .slice none 0 0] 54) = w1 at HP HZ HN HB ⊢
      go_wp2_with (first
        | (go_at_call 26; (with_reducible refine (refKnown_calls g L user _ HP.out).mono ?_); rw [HK.out]; rintro e w' ⟨rfl, rfl⟩)
        | (go_at_call 52; (with_reducible refine (refUserKey_calls g L user _ HP.out).mono ?_); rw [HKK.out]; rintro e w' ⟨rfl, rfl⟩)
        | (refine wT HN.out rfl _ rfl rfl ?_)
        | (refine wstT HZ.out Tk.none (.slice none 0 0) rfl rfl _ _ rfl rfl rfl ?_; intro w4 hs ho hbl; have HX := Lib.hid hs; have HB4 := Lib.hid (hbl _ _ HB.out (Nat.le_refl _)); clear hs ho hbl))
      exact bodyPost_ret (results_rbegin rfl rfl HX.out) rfl ⟨by rw [HS.out], HB4.out⟩
    · have HS := Lib.hid (show beginS L user tree ours = (⟨user, tree, ours, 0, 1, 0⟩, 0) from by unfold beginS; rw [if_neg (by rw [hk]; decide), if_neg hz])
      have he := empty_f hz
      have HK := Lib.hid hk
      obtain ⟨kk, hkk⟩ : ∃ z, keyOfUser L user = z := ⟨_, rfl⟩
      rw [hkk] at he
      have HKK := Lib.hid hkk
      clear hk hz hkk
      go_enter Tryz.func28, Tryz.ntmps28
      go_upto_region 2 with (fail)
      generalize (w.alloc (Obj.cells #[.string ⟨#[]⟩, .string ⟨#[]⟩, .int .u64 0, .int .u64 0, .int .u8 0, .int .i64 0, .slice none 0 0] 54)).alloc (Obj.cells #[.string ⟨#[]⟩, .string ⟨#[]⟩, .int .u64 0, .int .u64 0, .int .u8 0, .int .i64 0, .slice none 0 0] 54) = w1 at HP HZ HN HB ⊢
      go_wp2_with (first
        | (go_at_call 26; (with_reducible refine (refKnown_calls g L user _ HP.out).mono ?_); rw [HK.out]; rintro e w' ⟨rfl, rfl⟩)
        | (go_at_call 52; (with_reducible refine (refUserKey_calls g L user _ HP.out).mono ?_); rw [HKK.out]; rintro e w' ⟨rfl, rfl⟩)
        | (refine wstT HZ.out ⟨user, tree, ours, 0, 1, 0⟩ (.slice none 0 0) rfl rfl _ _ rfl rfl rfl ?_; intro w4 hs ho hbl; have HX := Lib.hid hs; have HB4 := Lib.hid (hbl _ _ HB.out (Nat.le_refl _)); clear hs ho hbl))
      exact bodyPost_ret (results_rbegin rfl rfl HX.out) rfl ⟨by rw [HS.out], HB4.out⟩
set_option maxHeartbeats 1600000 in
theorem refAllows_calls (t : Tk) (hv : Value) (user tree : ByteArray) (w : World) :
    Calls Tryz.prog 91 #[talkV t hv, .string user, .string tree] w fun e w' => e = .returned (.int .i64 (allowsS t user tree)) ∧ Below w.heap.size w w' := by
  have HB := Lib.hid ((Below.refl w.heap.size w).alloc (Nat.le_refl _) (Obj.cells (talkL t hv).toArray 54))
  have HT := Lib.hid (show TBlk (w.alloc (Obj.cells (talkL t hv).toArray 54)) w.heap.size t hv from Blk.new w _ _)
  cases h1 : (t.step != 4) with
  | true =>
    have HS := Lib.hid (show allowsS t user tree = 72 from by unfold allowsS; rw [if_pos (.inl h1)])
    go_enter Tryz.func91, Tryz.ntmps91
    go_upto_region 1 with (fail)
    generalize w.alloc (Obj.cells _ _) = w1 at HB HT ⊢
    have k4 : w1.cell? ⟨w.heap.size, 4, none⟩ = some (.int .u8 t.step) := Blk.cell HT.out 4
    go_wp2_with fail
    go_ret
    exact ⟨by rw [HS.out]; rfl, HB.out⟩
  | false =>
    by_cases h2 : t.user = user
    · have e2 := beq_str_t h2
      by_cases h3 : t.tree = tree
      · have e3 := beq_str_t h3
        have HS := Lib.hid (show allowsS t user tree = 0 from by
          unfold allowsS
          rw [if_neg (fun hh => by
            rw [h1] at hh
            rcases hh with hh | hh | hh
            · cases hh
            · exact hh h2
            · exact hh h3)])
        clear h2 h3
        go_enter Tryz.func91, Tryz.ntmps91
        go_upto_region 1 with (fail)
        generalize w.alloc (Obj.cells _ _) = w1 at HB HT ⊢
        have k4 : w1.cell? ⟨w.heap.size, 4, none⟩ = some (.int .u8 t.step) := Blk.cell HT.out 4
        have k0 : w1.cell? ⟨w.heap.size, 0, none⟩ = some (.string t.user) := Blk.cell HT.out 0
        have k1 : w1.cell? ⟨w.heap.size, 1, none⟩ = some (.string t.tree) := Blk.cell HT.out 1
        go_wp2_with fail
        go_ret
        exact ⟨by rw [HS.out]; rfl, HB.out⟩
      · have e3 := beq_str_f h3
        have HS := Lib.hid (show allowsS t user tree = 72 from by unfold allowsS; rw [if_pos (.inr (.inr h3))])
        clear h2 h3
        go_enter Tryz.func91, Tryz.ntmps91
        go_upto_region 1 with (fail)
        generalize w.alloc (Obj.cells _ _) = w1 at HB HT ⊢
        have k4 : w1.cell? ⟨w.heap.size, 4, none⟩ = some (.int .u8 t.step) := Blk.cell HT.out 4
        have k0 : w1.cell? ⟨w.heap.size, 0, none⟩ = some (.string t.user) := Blk.cell HT.out 0
        have k1 : w1.cell? ⟨w.heap.size, 1, none⟩ = some (.string t.tree) := Blk.cell HT.out 1
        go_wp2_with fail
        go_ret
        exact ⟨by rw [HS.out]; rfl, HB.out⟩
    · have e2 := beq_str_f h2
      have HS := Lib.hid (show allowsS t user tree = 72 from by unfold allowsS; rw [if_pos (.inr (.inl h2))])
      clear h2
      go_enter Tryz.func91, Tryz.ntmps91
      go_upto_region 1 with (fail)
      generalize w.alloc (Obj.cells _ _) = w1 at HB HT ⊢
      have k4 : w1.cell? ⟨w.heap.size, 4, none⟩ = some (.int .u8 t.step) := Blk.cell HT.out 4
      have k0 : w1.cell? ⟨w.heap.size, 0, none⟩ = some (.string t.user) := Blk.cell HT.out 0
      go_wp2_with fail
      go_ret
      exact ⟨by rw [HS.out]; rfl, HB.out⟩
end Go.Proofs.YtlenlldiimohjaaGreatDoor
namespace Go.Proofs.YtlenlldiimohjaaGreatDoor
open Go.RowKit

set_option maxRecDepth 100000 in
set_option maxHeartbeats 6400000 in
theorem readO_calls (g : Nat) (L : List Acct) (t : Tk) (hv : Value) (l : List UInt8) (count : Int) (w : World) (hp : PTab w g L) (htz : TZ w) (h : Bys w w.heap.size hv l) (hl : l.length ≤ 33)
    (hu : t.user.size ≤ 268435456) (ht : t.tree.size ≤ 268435456) (hk : (keyOfUser L t.user).size ≤ 32) (ho : 0 ≤ t.ours ∧ t.ours < 18446744073709551616) (hcn : -9223372036854775808 ≤ count ∧ count ≤ 9223372036854775807) :
    Calls Tryz.prog 16 #[.pointer (some ⟨g, 0, none⟩), talkV t hv, .int .i64 count] w fun e w' => (∃ hu bv, e = .returned (.tuple #[talkV (readS L t l count).t hu, bv, .int .i64 (readS L t l count).e]) ∧ OwnB w' w.heap.size hu (readS L t l count).h ∧ OwnB w' w.heap.size bv (readS L t l count).out ∧ ∀ k, hu.ownBlock = some k → bv.ownBlock ≠ some k) ∧ Below w.heap.size w w' := by
  have HP0 := Lib.hid hp
  have HTZ := Lib.hid htz
  have HH := Lib.hid h
  obtain ⟨A, cap, rfl, -⟩ := h
  have HKZ := Lib.hid hk
  have HU := Lib.hid (show t.user.size ≤ maxLen from by unfold maxLen; omega)
  have HTR := Lib.hid (show t.tree.size ≤ maxLen from by unfold maxLen; omega)
  have HU2 := Lib.hid (show t.user.size ≤ 1099511627776 from by omega)
  have HOU := Lib.hid ho
  have HCN := Lib.hid hcn
  clear hp htz hk hu ht ho hcn
  have HB := Lib.hid (show Below w.heap.size w ((w.alloc (Obj.cells #[.string t.user, .string t.tree, .int .u64 t.ours, .int .u64 t.theirs, .int .u8 t.step, .int .i64 t.said, .slice A l.length cap] 54)).alloc (Obj.cells #[.string ⟨#[]⟩, .string ⟨#[]⟩, .int .u64 0, .int .u64 0, .int .u8 0, .int .i64 0, .slice none 0 0] 54)) from ((Below.refl _ _).alloc (Nat.le_refl _) _).alloc (by simp) _)
  have HT := Lib.hid (show TBlk ((w.alloc (Obj.cells #[.string t.user, .string t.tree, .int .u64 t.ours, .int .u64 t.theirs, .int .u8 t.step, .int .i64 t.said, .slice A l.length cap] 54)).alloc (Obj.cells #[.string ⟨#[]⟩, .string ⟨#[]⟩, .int .u64 0, .int .u64 0, .int .u8 0, .int .i64 0, .slice none 0 0] 54)) w.heap.size t (.slice A l.length cap) from Blk.alloc (Blk.new w _ (talkL t (.slice A l.length cap)).toArray) _)
  have HZ := Lib.hid (show TBlk ((w.alloc (Obj.cells #[.string t.user, .string t.tree, .int .u64 t.ours, .int .u64 t.theirs, .int .u8 t.step, .int .i64 t.said, .slice A l.length cap] 54)).alloc (Obj.cells #[.string ⟨#[]⟩, .string ⟨#[]⟩, .int .u64 0, .int .u64 0, .int .u8 0, .int .i64 0, .slice none 0 0] 54)) (w.heap.size + 1) Tk.none (.slice none 0 0) from by
    have h := TBlk.zero (w.alloc (Obj.cells (talkL t (.slice A l.length cap)).toArray 54))
    simp only [World.size_alloc] at h
    exact h)
  go_enter Tryz.func16, Tryz.ntmps16
  go_upto_region 1 with (fail)
  generalize (w.alloc (Obj.cells #[.string t.user, .string t.tree, .int .u64 t.ours, .int .u64 t.theirs, .int .u8 t.step, .int .i64 t.said, .slice A l.length cap] 54)).alloc (Obj.cells #[.string ⟨#[]⟩, .string ⟨#[]⟩, .int .u64 0, .int .u64 0, .int .u8 0, .int .i64 0, .slice none 0 0] 54) = w1 at HB HT HZ ⊢
  refine wp_region_held_drew (S := fun wx => TBlk wx w.heap.size t (.slice A l.length cap)) (by kernel_rfl) HT.out (fun hHeld => ?_)
  refine wpAnyH_takeD 13 (i := 0) (v := .pointer (some ⟨w.heap.size, 4, none⟩)) rfl rfl (by kernel_rfl) (by kernel_rfl) (by kernel_rfl) (fun _ _ _ h => h) (Or.inl ⟨by rfl, fun wq hSw => by go_simp⟩) (by assumption) ?_
  simp only [Act.put, List.setIfInBounds_toArray, List.set_cons_zero, List.set_cons_succ]
  refine wpAnyH_takeD 14 (i := 1) (v := .int .u8 t.step) rfl rfl (by kernel_rfl) (by kernel_rfl) (by kernel_rfl) (fun _ _ _ h => h) (Or.inl ⟨by rfl, fun wq hSw => by have k : wq.cell? ⟨w.heap.size, 4, none⟩ = some (.int .u8 t.step) := Blk.cell hSw 4; go_simp⟩) (by assumption) ?_
  simp only [Act.put, List.setIfInBounds_toArray, List.set_cons_zero, List.set_cons_succ]
  refine wpAnyH_takeD 9 (i := 2) (v := .string ⟨#[]⟩) rfl rfl (by kernel_rfl) (by kernel_rfl) (by kernel_rfl) (fun _ _ _ h => h) (Or.inl ⟨by rfl, fun wq hSw => by go_simp⟩) (by assumption) ?_
  simp only [Act.put, List.setIfInBounds_toArray, List.set_cons_zero, List.set_cons_succ]
  refine wpAnyH_takeD 10 (i := 3) (v := .int .u8 t.step) rfl rfl (by kernel_rfl) (by kernel_rfl) (by kernel_rfl) (fun _ _ _ h => h) (Or.inl ⟨by rfl, fun wq hSw => by go_simp⟩) (by assumption) ?_
  simp only [Act.put, List.setIfInBounds_toArray, List.set_cons_zero, List.set_cons_succ]
  refine wpAnyH_done (by kernel_rfl) ?_ _
  clear hHeld
  replace HB := Lib.hid (HB.out.drew)
  replace HT := Lib.hid (show TBlk w1.drew w.heap.size t (.slice A l.length cap) from HT.out)
  replace HZ := Lib.hid (show TBlk w1.drew (w.heap.size + 1) Tk.none (.slice none 0 0) from HZ.out)
  generalize w1.drew = w1d at HB HT HZ ⊢
  have hnb := Blk.lt HZ.out
  go_upto_region 3 with (first
    | (refine wT HT.out rfl _ rfl rfl ?_)
    | (go_at_call 57; (with_reducible refine (own_calls t _ l _ ((HH.out.below HB.out).more HB.out.size) hl).mono ?_); rintro e w2 ⟨⟨hu, rfl, hown⟩, hb2⟩; obtain ⟨A2, c2, rfl, -⟩ := Bys.of_own hown; have HO := Lib.hid hown; replace HB := Lib.hid (HB.out.trans (hb2.mono HB.out.size)); replace HT := Lib.hid (HT.out.below hb2); replace HZ := Lib.hid (HZ.out.below hb2); have hnb2 := hb2.size; clear hown hb2)
    | (refine wstT HT.out t (.slice A2 l.length c2) rfl rfl _ _ rfl rfl rfl ?_; intro w3 hs ho hbl; replace HO := Lib.hid (own_other HO.out (fun he => by have := (HO.out.lt _ he).1; omega) ho); replace HZ := Lib.hid (show TBlk w3 (w.heap.size + 1) Tk.none (.slice none 0 0) from (ho _ (by omega)).trans HZ.out); replace HT := Lib.hid hs; replace HB := Lib.hid (hbl _ _ HB.out (Nat.le_refl _)); have hnb3 := (hbl 0 _ (Below.refl _ _) (Nat.zero_le _)).size; clear hs ho hbl))
  have HNW := Lib.hid (Nat.le_trans hnb2 hnb3)
  clear hnb2 hnb3
  generalize w1d.heap.size = nb at HO hnb HNW
  have k4 : w3.cell? ⟨w.heap.size, 4, none⟩ = some (.int .u8 t.step) := Blk.cell HT.out 4
  cases h5 : (t.step == 5) with
  | true =>
    have HS := Lib.hid (show readS L t l count = ⟨Tk.none, [], [], 72⟩ from by unfold readS; rw [if_pos (by simpa using h5)])
    go_wp2_with (refine wstT HZ.out Tk.none (.slice none 0 0) rfl rfl _ _ rfl rfl rfl ?_; intro w4 hs ho hbl; have HX := Lib.hid hs; have HB4 := Lib.hid (hbl _ _ HB.out (by omega)); clear hs ho hbl)
    exact bodyPost_ret (results_read rfl rfl rfl HX.out) rfl ⟨⟨_, _, by rw [HS.out], by rw [HS.out]; exact OwnB.nil_ _ _, by rw [HS.out]; exact OwnB.nil_ _ _, (fun k hk => by cases hk)⟩, HB4.out⟩
  | false =>
    have n5 : ¬ t.step = 5 := by simpa using h5
    have HOB := Lib.hid (show (Value.slice A2 l.length c2).ownBlock ≠ some w.heap.size from fun he => by have := (HO.out.lt _ he).1; omega)
    have HOZ := Lib.hid (show (Value.slice A2 l.length c2).ownBlock ≠ some (w.heap.size + 1) from fun he => by have := (HO.out.lt _ he).1; omega)
    cases h1 : (t.step == 1) with
    | true =>
      have HRS := Lib.hid (show readS L t l count = lineRd t l (helloS t.ours.toNat).data.toList 2 count from by unfold readS; rw [if_neg n5, if_pos (by simpa using h1)])
      have HHC := Lib.hid (show ∀ wx, TZ wx → Calls Tryz.prog 58 #[.int .u64 t.ours] wx fun e w' => e = .returned (.string (helloS t.ours.toNat)) ∧ Below wx.heap.size wx w' from fun wx hx => by
        have h := hello_calls t.ours.toNat (by have := HOU.out; omega) wx hx
        rw [Int.toNat_of_nonneg HOU.out.1] at h
        exact h)
      obtain ⟨S, hS⟩ : ∃ z, helloS t.ours.toNat = z := ⟨_, rfl⟩
      rw [hS] at HRS
      have HSS := Lib.hid hS
      have hsz : S.size ≤ 100 := by
        rw [← hS]
        show ([118, 101, 114, 103, 101, 114, 49, 32] ++ hexN 16 _ ++ [10] : List UInt8).toArray.size ≤ 100
        rw [List.size_toArray, List.length_append, List.length_append, hexN_len]
        decide
      clear n5 hS
      have k2 : w3.cell? ⟨w.heap.size, 2, none⟩ = some (.int .u64 t.ours) := Blk.cell HT.out 2
      go_upto_region 11 with (go_at_call 58; (with_reducible refine (HHC.out _ (HTZ.out.below HB.out (Nat.le_refl _))).mono ?_); rw [HSS.out]; rintro e w4 ⟨rfl, hb⟩; have HT4 := Lib.hid (HT.out.below hb); have HZ4 := Lib.hid (HZ.out.below hb); have HB4 := Lib.hid (HB.out.trans (hb.mono HB.out.size)); have HO4 := Lib.hid (own_other_b HO.out hb); clear hb)
      clear k2 k4 h1 h5
      obtain ⟨f, hf⟩ : ∃ f, fromN t.said S.size = f := ⟨_, rfl⟩
      obtain ⟨e, he⟩ : ∃ e, toN t.said count S.size = e := ⟨_, rfl⟩
      have hfrom := from_eq t.said S.size
      have hto := to_eq t.said count S.size
      obtain ⟨hfe, hes⟩ := from_le t.said count S.size
      rw [hf] at hfrom hto hfe
      rw [he] at hto hfe hes
      obtain ⟨hx1, hx2⟩ := ext_eq S f e hes hfe
      have HRD := Lib.hid (show readS L t l count = if e = S.size then ⟨{ t with step := 2, said := 0 }, l, (S.extract f e).data.toList, 0⟩ else ⟨{ t with said := (e : Int) }, l, (S.extract f e).data.toList, 0⟩ from HRS.out.trans (lineRd_eq t l S _ count hf he hx1))
      obtain ⟨X, hX⟩ : ∃ z, S.extract f e = z := ⟨_, rfl⟩
      rw [hX] at hx2 HRD
      clear hx1 hf he HRS
      have i1 : (0 : Int) ≤ (f : Int) := by omega
      have i2 : (f : Int) ≤ (e : Int) := by omega
      have i3 : (e : Int) ≤ (S.size : Int) := by omega
      have k5 := Blk.cell HT4.out 5
      obtain ⟨bc, w5, hconv, hcb, hbb, hgt⟩ := bytes_own X w4 (by unfold maxLen; omega)
      have HOK := Lib.hid (show ∀ k, (Value.slice A2 l.length c2).ownBlock = some k → k < w4.heap.size from fun k hk => (HO4.out.lt k hk).2)
      have HT5 := Lib.hid (HT4.out.below hbb)
      have HZ5 := Lib.hid (HZ4.out.below hbb)
      have HB5 := Lib.hid (HB4.out.trans (hbb.mono HB4.out.size))
      have HO5 := Lib.hid (own_other_b HO4.out hbb)
      have HGT := Lib.hid hgt
      have HBV := Lib.hid (show OwnB w5 w4.heap.size (.slice (some ⟨w4.heap.size, 0, none⟩) (e - f) bc) X.data.toList from by rw [← hx2]; exact hcb)
      clear hcb hbb hgt
      go_upto_region 13 with (fail)
      clear k5 hconv hfrom hto
      have k5 := Blk.cell HT5.out 5
      have z5 := Blk.frozen HT5.out 5
      have hsum : (f : Int) + ((e - f : Nat) : Int) = (e : Int) := by omega
      go_upto_region 14 with (fail)
      have hw4 : w.heap.size + 1 < w4.heap.size := Blk.lt HZ4.out
      have HW4 := Lib.hid hw4
      have HV1 := Lib.hid (show (Value.slice (some ⟨w4.heap.size, 0, none⟩) (e - f) bc).ownBlock ≠ some w.heap.size from fun he => by injection he with he; have h2 : w4.heap.size = w.heap.size := he; omega)
      have HV2 := Lib.hid (show (Value.slice (some ⟨w4.heap.size, 0, none⟩) (e - f) bc).ownBlock ≠ some (w.heap.size + 1) from fun he => by injection he with he; have h2 : w4.heap.size = w.heap.size + 1 := he; omega)
      have HT6 := Lib.hid (show TBlk (w5.setCell ⟨w.heap.size, 5, none⟩ (.int .i64 (e : Int))) w.heap.size { t with said := (e : Int) } (.slice A2 l.length c2) from Blk.set_ HT5.out 5 _)
      have HZ6 := Lib.hid (show TBlk (w5.setCell ⟨w.heap.size, 5, none⟩ (.int .i64 (e : Int))) (w.heap.size + 1) Tk.none (.slice none 0 0) from Blk.far HZ5.out (by show w.heap.size + 1 ≠ w.heap.size; omega) _)
      have HB6 := Lib.hid (HB5.out.setCell (p := ⟨w.heap.size, 5, none⟩) (Nat.le_refl _) (.int .i64 (e : Int)))
      have HO6 := Lib.hid (own_other HO5.out HOB.out (setCell_other w5 w.heap.size 5 (.int .i64 (e : Int))))
      have HBV6 := Lib.hid (HBV.out.far HV1.out (setCell_other w5 w.heap.size 5 (.int .i64 (e : Int))))
      have HSZ := Lib.hid (show w5.heap.size ≤ (w5.setCell ⟨w.heap.size, 5, none⟩ (.int .i64 (e : Int))).heap.size from by simp [World.setCell])
      clear k5 z5 hsum i1 i2 hw4
      change Code.wp _ _ _ _ (w5.setCell ⟨w.heap.size, 5, none⟩ (.int .i64 (e : Int)))
      generalize w5.setCell ⟨w.heap.size, 5, none⟩ (.int .i64 (e : Int)) = w6 at HT6 HZ6 HB6 HO6 HBV6 HSZ ⊢
      have k5 : w6.cell? ⟨w.heap.size, 5, none⟩ = some (.int .i64 (e : Int)) := Blk.cell HT6.out 5
      by_cases hee : e = S.size
      · have hq : ((e : Int) == (S.size : Int)) = true := by rw [beq_iff_eq]; omega
        have HRE := Lib.hid (HRD.out.trans (if_pos hee))
        clear hee
        go_upto_region 15 with (fail)
        clear k5 hq
        have k5 := Blk.cell HT6.out 5
        have z5 := Blk.frozen HT6.out 5
        have k4 := Blk.cell HT6.out 4
        have z4 := Blk.frozen HT6.out 4
        go_upto_region 16 with (fail)
        have HT7 := Lib.hid (show TBlk ((w6.setCell ⟨w.heap.size, 4, none⟩ (.int .u8 2)).setCell ⟨w.heap.size, 5, none⟩ (.int .i64 0)) w.heap.size { t with step := 2, said := 0 } (.slice A2 l.length c2) from Blk.set_ (Blk.set_ HT6.out 4 _) 5 _)
        have HZ7 := Lib.hid (show TBlk ((w6.setCell ⟨w.heap.size, 4, none⟩ (.int .u8 2)).setCell ⟨w.heap.size, 5, none⟩ (.int .i64 0)) (w.heap.size + 1) Tk.none (.slice none 0 0) from Blk.far (Blk.far HZ6.out (by show w.heap.size + 1 ≠ w.heap.size; omega) _) (by show w.heap.size + 1 ≠ w.heap.size; omega) _)
        have HB7 := Lib.hid ((HB6.out.setCell (p := ⟨w.heap.size, 4, none⟩) (Nat.le_refl _) (.int .u8 2)).setCell (p := ⟨w.heap.size, 5, none⟩) (Nat.le_refl _) (.int .i64 0))
        have HO7 := Lib.hid (own_other (own_other HO6.out HOB.out (setCell_other w6 w.heap.size 4 (.int .u8 2))) HOB.out (setCell_other _ w.heap.size 5 (.int .i64 0)))
        have HBV7 := Lib.hid ((HBV6.out.far HV1.out (setCell_other w6 w.heap.size 4 (.int .u8 2))).far HV1.out (setCell_other _ w.heap.size 5 (.int .i64 0)))
        have HSZ7 := Lib.hid (show w5.heap.size ≤ ((w6.setCell ⟨w.heap.size, 4, none⟩ (.int .u8 2)).setCell ⟨w.heap.size, 5, none⟩ (.int .i64 0)).heap.size from by have := HSZ.out; simpa [World.setCell] using this)
        clear k5 z5 k4 z4
        change Code.wp _ _ _ _ ((w6.setCell ⟨w.heap.size, 4, none⟩ (.int .u8 2)).setCell ⟨w.heap.size, 5, none⟩ (.int .i64 0))
        generalize (w6.setCell ⟨w.heap.size, 4, none⟩ (.int .u8 2)).setCell ⟨w.heap.size, 5, none⟩ (.int .i64 0) = w7 at HT7 HZ7 HB7 HO7 HBV7 HSZ7 ⊢
        go_wp2_with (first
          | (refine wT HT7.out rfl _ rfl rfl ?_)
          | (refine wstT HZ7.out { t with step := 2, said := 0 } (.slice A2 l.length c2) rfl rfl _ _ rfl rfl rfl ?_; intro w8 hs ho hbl; have HX := Lib.hid hs; have HB8 := Lib.hid (hbl _ _ HB7.out (by omega)); have HO8 := Lib.hid (own_other HO7.out HOZ.out ho); have HBV8 := Lib.hid (HBV7.out.far HV2.out ho); clear hs ho hbl))
        exact bodyPost_ret (results_read rfl rfl rfl HX.out) rfl ⟨⟨_, _, by rw [HRE.out], by rw [HRE.out]; exact (OwnB.of_own HO8.out).more (by omega), by rw [HRE.out]; exact HBV8.out.more (by have := HW4.out; omega), (fun k hk hk2 => by injection hk2 with hk2; have h2 : w4.heap.size = k := hk2; have := HOK.out k hk; omega)⟩, HB8.out⟩
      · have hq : ((e : Int) == (S.size : Int)) = false := by rw [beq_eq_false_iff_ne]; omega
        have HRE := Lib.hid (HRD.out.trans (if_neg hee))
        clear hee
        go_wp2_with (first
          | (refine wT HT6.out rfl _ rfl rfl ?_)
          | (refine wstT HZ6.out { t with said := (e : Int) } (.slice A2 l.length c2) rfl rfl _ _ rfl rfl rfl ?_; intro w8 hs ho hbl; have HX := Lib.hid hs; have HB8 := Lib.hid (hbl _ _ HB6.out (by omega)); have HO8 := Lib.hid (own_other HO6.out HOZ.out ho); have HBV8 := Lib.hid (HBV6.out.far HV2.out ho); clear hs ho hbl))
        exact bodyPost_ret (results_read rfl rfl rfl HX.out) rfl ⟨⟨_, _, by rw [HRE.out], by rw [HRE.out]; exact (OwnB.of_own HO8.out).more (by omega), by rw [HRE.out]; exact HBV8.out.more (by have := HW4.out; omega), (fun k hk hk2 => by injection hk2 with hk2; have h2 : w4.heap.size = k := hk2; have := HOK.out k hk; omega)⟩, HB8.out⟩
    | false =>
      have n1 : ¬ t.step = 1 := by simpa using h1
      cases h3 : (t.step == 3) with
      | false =>
        have HRS := Lib.hid (show readS L t l count = ⟨t, l, [], 0⟩ from by unfold readS; rw [if_neg n5, if_neg n1, if_neg (by simpa using h3)])
        clear n5 n1
        go_wp2_with (first
          | (refine wT HT.out rfl _ rfl rfl ?_)
          | (refine wstT HZ.out t (.slice A2 l.length c2) rfl rfl _ _ rfl rfl rfl ?_; intro w8 hs ho hbl; have HX := Lib.hid hs; have HB8 := Lib.hid (hbl _ _ HB.out (by omega)); have HO8 := Lib.hid (own_other HO.out HOZ.out ho); clear hs ho hbl))
        exact bodyPost_ret (results_read rfl rfl rfl HX.out) rfl ⟨⟨_, _, by rw [HRS.out], by rw [HRS.out]; exact (OwnB.of_own HO8.out).more (by omega), by rw [HRS.out]; exact OwnB.nil_ _ _, (fun k hk hk2 => by cases hk2)⟩, HB8.out⟩
      | true =>
      obtain ⟨S, hS⟩ : ∃ z, shownS (shN (keyOfUser L t.user) t.user t.tree 2 t.ours t.theirs) = z := ⟨_, rfl⟩
      have HRS := Lib.hid (show readS L t l count = lineRd t l S.data.toList 4 count from by unfold readS; rw [if_neg n5, if_neg n1, if_pos (by simpa using h3), hS])
      have hsz : S.size ≤ 100 := by
        rw [← hS, shownS_size]
        decide
      have HKM := Lib.hid (show (keyOfUser L t.user).size ≤ maxLen from by have := HKZ.out; unfold maxLen; omega)
      obtain ⟨kk, hkk⟩ : ∃ z, keyOfUser L t.user = z := ⟨_, rfl⟩
      rw [hkk] at HKM hS
      have HKK := Lib.hid hkk
      have HSS := Lib.hid hS
      clear n5 n1 hS hkk
      go_upto_region 10 with (fail)
      clear k4 h1 h5 h3
      have HRT := Lib.hid (show RSt w t (.slice A2 l.length c2) nb l.length (byteL l) w3 from ⟨HT.out, HZ.out, HO.out, HB.out⟩)
      refine wp_region_held_drew (S := RSt w t (.slice A2 l.length c2) nb l.length (byteL l)) (by kernel_rfl) (HRT.out.next (below_drew _)) (fun hHeld => ?_)
      generalize w3.drew = wd at hHeld ⊢
      refine wpAnyH_takeD 30 (i := 0) (v := .pointer (some ⟨g, 0, none⟩)) rfl rfl (by kernel_rfl) (by kernel_rfl) (by kernel_rfl) (fun _ _ _ h => h) (Or.inl ⟨by rfl, fun wq hSw => by go_simp⟩) (by assumption) ?_
      simp only [Act.put, List.setIfInBounds_toArray, List.set_cons_zero, List.set_cons_succ]
      refine wpAnyH_takeD 31 (i := 1) (v := .pointer (some ⟨w.heap.size, 0, none⟩)) rfl rfl (by kernel_rfl) (by kernel_rfl) (by kernel_rfl) (fun _ _ _ h => h) (Or.inl ⟨by rfl, fun wq hSw => by go_simp⟩) (by assumption) ?_
      simp only [Act.put, List.setIfInBounds_toArray, List.set_cons_zero, List.set_cons_succ]
      refine wpAnyH_takeD 32 (i := 2) (v := .string t.user) rfl rfl (by kernel_rfl) (by kernel_rfl) (by kernel_rfl) (fun _ _ _ h => h) (Or.inl ⟨by rfl, fun wq hSw => by have k : wq.cell? ⟨w.heap.size, 0, none⟩ = some (.string t.user) := hSw.k 0; go_simp⟩) (by assumption) ?_
      simp only [Act.put, List.setIfInBounds_toArray, List.set_cons_zero, List.set_cons_succ]
      refine wpAnyH_takeD 34 (i := 4) (v := .pointer (some ⟨w.heap.size, 2, none⟩)) rfl rfl (by kernel_rfl) (by kernel_rfl) (by kernel_rfl) (fun _ _ _ h => h) (Or.inl ⟨by rfl, fun wq hSw => by go_simp⟩) (by assumption) ?_
      simp only [Act.put, List.setIfInBounds_toArray, List.set_cons_zero, List.set_cons_succ]
      refine wpAnyH_takeD 35 (i := 5) (v := .int .u64 t.ours) rfl rfl (by kernel_rfl) (by kernel_rfl) (by kernel_rfl) (fun _ _ _ h => h) (Or.inl ⟨by rfl, fun wq hSw => by have k : wq.cell? ⟨w.heap.size, 2, none⟩ = some (.int .u64 t.ours) := hSw.k 2; go_simp⟩) (by assumption) ?_
      simp only [Act.put, List.setIfInBounds_toArray, List.set_cons_zero, List.set_cons_succ]
      refine wpAnyH_takeD 36 (i := 6) (v := .pointer (some ⟨w.heap.size, 3, none⟩)) rfl rfl (by kernel_rfl) (by kernel_rfl) (by kernel_rfl) (fun _ _ _ h => h) (Or.inl ⟨by rfl, fun wq hSw => by go_simp⟩) (by assumption) ?_
      simp only [Act.put, List.setIfInBounds_toArray, List.set_cons_zero, List.set_cons_succ]
      refine wpAnyH_takeD 37 (i := 7) (v := .int .u64 t.theirs) rfl rfl (by kernel_rfl) (by kernel_rfl) (by kernel_rfl) (fun _ _ _ h => h) (Or.inl ⟨by rfl, fun wq hSw => by have k : wq.cell? ⟨w.heap.size, 3, none⟩ = some (.int .u64 t.theirs) := hSw.k 3; go_simp⟩) (by assumption) ?_
      simp only [Act.put, List.setIfInBounds_toArray, List.set_cons_zero, List.set_cons_succ]
      refine wpAnyH_takeD 38 (i := 8) (v := .pointer (some ⟨w.heap.size, 0, none⟩)) rfl rfl (by kernel_rfl) (by kernel_rfl) (by kernel_rfl) (fun _ _ _ h => h) (Or.inl ⟨by rfl, fun wq hSw => by go_simp⟩) (by assumption) ?_
      simp only [Act.put, List.setIfInBounds_toArray, List.set_cons_zero, List.set_cons_succ]
      refine wpAnyH_takeD 39 (i := 9) (v := .string t.user) rfl rfl (by kernel_rfl) (by kernel_rfl) (by kernel_rfl) (fun _ _ _ h => h) (Or.inl ⟨by rfl, fun wq hSw => by have k : wq.cell? ⟨w.heap.size, 0, none⟩ = some (.string t.user) := hSw.k 0; go_simp⟩) (by assumption) ?_
      simp only [Act.put, List.setIfInBounds_toArray, List.set_cons_zero, List.set_cons_succ]
      refine wpAnyH_takeD 40 (i := 10) (v := .pointer (some ⟨w.heap.size, 1, none⟩)) rfl rfl (by kernel_rfl) (by kernel_rfl) (by kernel_rfl) (fun _ _ _ h => h) (Or.inl ⟨by rfl, fun wq hSw => by go_simp⟩) (by assumption) ?_
      simp only [Act.put, List.setIfInBounds_toArray, List.set_cons_zero, List.set_cons_succ]
      refine wpAnyH_takeD 41 (i := 11) (v := .string t.tree) rfl rfl (by kernel_rfl) (by kernel_rfl) (by kernel_rfl) (fun _ _ _ h => h) (Or.inl ⟨by rfl, fun wq hSw => by have k : wq.cell? ⟨w.heap.size, 1, none⟩ = some (.string t.tree) := hSw.k 1; go_simp⟩) (by assumption) ?_
      simp only [Act.put, List.setIfInBounds_toArray, List.set_cons_zero, List.set_cons_succ]
      refine wpAnyH_ready (rs := [3]) (by kernel_rfl) (by simp) ?_
      refine AllReadyH.cons rfl (fun K hK => ?_) AllReadyH.nil
      rw [if_pos (by rfl)]
      go_simp
      (with_reducible refine (userKey_calls g L t.user _ (HP0.out.below hHeld.low) HU2.out).mono ?_)
      rw [HKK.out]
      rintro e wk ⟨rfl, rfl⟩
      dsimp only
      refine hK.out _ _ hHeld (fun hHeld => ?_)
      clear hK
      refine wpAnyH_ready (rs := [12]) (by kernel_rfl) (by simp) ?_
      refine AllReadyH.cons rfl (fun K hK => ?_) AllReadyH.nil
      rw [if_pos (by rfl)]
      go_simp
      (with_reducible refine (shown_calls kk t.user t.tree 2 t.ours t.theirs _ (HTZ.out.below hHeld.low (Nat.le_refl _)) HKM.out HU.out HTR.out).mono ?_)
      rw [HSS.out]
      rintro e w4 ⟨rfl, hb⟩
      dsimp only
      have hOld := hHeld.next hb
      clear hHeld hb
      refine hK.out _ _ hOld (fun hHeld => ?_)
      clear hK hOld
      refine wpAnyH_takeD 9 (i := 13) (v := .string S) rfl rfl (by kernel_rfl) (by kernel_rfl) (by kernel_rfl) (fun _ _ _ h => h) (Or.inl ⟨by rfl, fun wq hSw => by go_simp⟩) (by assumption) ?_
      simp only [Act.put, List.setIfInBounds_toArray, List.set_cons_zero, List.set_cons_succ]
      refine wpAnyH_takeD 10 (i := 14) (v := .int .u8 4) rfl rfl (by kernel_rfl) (by kernel_rfl) (by kernel_rfl) (fun _ _ _ h => h) (Or.inl ⟨by rfl, fun wq hSw => by go_simp⟩) (by assumption) ?_
      simp only [Act.put, List.setIfInBounds_toArray, List.set_cons_zero, List.set_cons_succ]
      refine wpAnyH_done (by kernel_rfl) ?_ _
      have HT4 := Lib.hid hHeld.1
      have HZ4 := Lib.hid hHeld.2.1
      have HO4 := Lib.hid hHeld.2.2.1
      have HB4 := Lib.hid hHeld.2.2.2
      clear hHeld
      clear HT HZ HO HB HRT
      obtain ⟨f, hf⟩ : ∃ f, fromN t.said S.size = f := ⟨_, rfl⟩
      obtain ⟨e, he⟩ : ∃ e, toN t.said count S.size = e := ⟨_, rfl⟩
      have hfrom := from_eq t.said S.size
      have hto := to_eq t.said count S.size
      obtain ⟨hfe, hes⟩ := from_le t.said count S.size
      rw [hf] at hfrom hto hfe
      rw [he] at hto hfe hes
      obtain ⟨hx1, hx2⟩ := ext_eq S f e hes hfe
      have HRD := Lib.hid (show readS L t l count = if e = S.size then ⟨{ t with step := 4, said := 0 }, l, (S.extract f e).data.toList, 0⟩ else ⟨{ t with said := (e : Int) }, l, (S.extract f e).data.toList, 0⟩ from HRS.out.trans (lineRd_eq t l S _ count hf he hx1))
      obtain ⟨X, hX⟩ : ∃ z, S.extract f e = z := ⟨_, rfl⟩
      rw [hX] at hx2 HRD
      clear hx1 hf he HRS
      have i1 : (0 : Int) ≤ (f : Int) := by omega
      have i2 : (f : Int) ≤ (e : Int) := by omega
      have i3 : (e : Int) ≤ (S.size : Int) := by omega
      have k5 := Blk.cell HT4.out 5
      obtain ⟨bc, w5, hconv, hcb, hbb, hgt⟩ := bytes_own X w4 (by unfold maxLen; omega)
      have HOK := Lib.hid (show ∀ k, (Value.slice A2 l.length c2).ownBlock = some k → k < w4.heap.size from fun k hk => (HO4.out.lt k hk).2)
      have HT5 := Lib.hid (HT4.out.below hbb)
      have HZ5 := Lib.hid (HZ4.out.below hbb)
      have HB5 := Lib.hid (HB4.out.trans (hbb.mono HB4.out.size))
      have HO5 := Lib.hid (own_other_b HO4.out hbb)
      have HGT := Lib.hid hgt
      have HBV := Lib.hid (show OwnB w5 w4.heap.size (.slice (some ⟨w4.heap.size, 0, none⟩) (e - f) bc) X.data.toList from by rw [← hx2]; exact hcb)
      clear hcb hbb hgt
      go_upto_region 13 with (fail)
      clear k5 hconv hfrom hto
      have k5 := Blk.cell HT5.out 5
      have z5 := Blk.frozen HT5.out 5
      have hsum : (f : Int) + ((e - f : Nat) : Int) = (e : Int) := by omega
      go_upto_region 14 with (fail)
      have hw4 : w.heap.size + 1 < w4.heap.size := Blk.lt HZ4.out
      have HW4 := Lib.hid hw4
      have HV1 := Lib.hid (show (Value.slice (some ⟨w4.heap.size, 0, none⟩) (e - f) bc).ownBlock ≠ some w.heap.size from fun he => by injection he with he; have h2 : w4.heap.size = w.heap.size := he; omega)
      have HV2 := Lib.hid (show (Value.slice (some ⟨w4.heap.size, 0, none⟩) (e - f) bc).ownBlock ≠ some (w.heap.size + 1) from fun he => by injection he with he; have h2 : w4.heap.size = w.heap.size + 1 := he; omega)
      have HT6 := Lib.hid (show TBlk (w5.setCell ⟨w.heap.size, 5, none⟩ (.int .i64 (e : Int))) w.heap.size { t with said := (e : Int) } (.slice A2 l.length c2) from Blk.set_ HT5.out 5 _)
      have HZ6 := Lib.hid (show TBlk (w5.setCell ⟨w.heap.size, 5, none⟩ (.int .i64 (e : Int))) (w.heap.size + 1) Tk.none (.slice none 0 0) from Blk.far HZ5.out (by show w.heap.size + 1 ≠ w.heap.size; omega) _)
      have HB6 := Lib.hid (HB5.out.setCell (p := ⟨w.heap.size, 5, none⟩) (Nat.le_refl _) (.int .i64 (e : Int)))
      have HO6 := Lib.hid (own_other HO5.out HOB.out (setCell_other w5 w.heap.size 5 (.int .i64 (e : Int))))
      have HBV6 := Lib.hid (HBV.out.far HV1.out (setCell_other w5 w.heap.size 5 (.int .i64 (e : Int))))
      have HSZ := Lib.hid (show w5.heap.size ≤ (w5.setCell ⟨w.heap.size, 5, none⟩ (.int .i64 (e : Int))).heap.size from by simp [World.setCell])
      clear k5 z5 hsum i1 i2 hw4
      change Code.wp _ _ _ _ (w5.setCell ⟨w.heap.size, 5, none⟩ (.int .i64 (e : Int)))
      generalize w5.setCell ⟨w.heap.size, 5, none⟩ (.int .i64 (e : Int)) = w6 at HT6 HZ6 HB6 HO6 HBV6 HSZ ⊢
      have k5 : w6.cell? ⟨w.heap.size, 5, none⟩ = some (.int .i64 (e : Int)) := Blk.cell HT6.out 5
      by_cases hee : e = S.size
      · have hq : ((e : Int) == (S.size : Int)) = true := by rw [beq_iff_eq]; omega
        have HRE := Lib.hid (HRD.out.trans (if_pos hee))
        clear hee
        go_upto_region 15 with (fail)
        clear k5 hq
        have k5 := Blk.cell HT6.out 5
        have z5 := Blk.frozen HT6.out 5
        have k4 := Blk.cell HT6.out 4
        have z4 := Blk.frozen HT6.out 4
        go_upto_region 16 with (fail)
        have HT7 := Lib.hid (show TBlk ((w6.setCell ⟨w.heap.size, 4, none⟩ (.int .u8 4)).setCell ⟨w.heap.size, 5, none⟩ (.int .i64 0)) w.heap.size { t with step := 4, said := 0 } (.slice A2 l.length c2) from Blk.set_ (Blk.set_ HT6.out 4 _) 5 _)
        have HZ7 := Lib.hid (show TBlk ((w6.setCell ⟨w.heap.size, 4, none⟩ (.int .u8 4)).setCell ⟨w.heap.size, 5, none⟩ (.int .i64 0)) (w.heap.size + 1) Tk.none (.slice none 0 0) from Blk.far (Blk.far HZ6.out (by show w.heap.size + 1 ≠ w.heap.size; omega) _) (by show w.heap.size + 1 ≠ w.heap.size; omega) _)
        have HB7 := Lib.hid ((HB6.out.setCell (p := ⟨w.heap.size, 4, none⟩) (Nat.le_refl _) (.int .u8 4)).setCell (p := ⟨w.heap.size, 5, none⟩) (Nat.le_refl _) (.int .i64 0))
        have HO7 := Lib.hid (own_other (own_other HO6.out HOB.out (setCell_other w6 w.heap.size 4 (.int .u8 4))) HOB.out (setCell_other _ w.heap.size 5 (.int .i64 0)))
        have HBV7 := Lib.hid ((HBV6.out.far HV1.out (setCell_other w6 w.heap.size 4 (.int .u8 4))).far HV1.out (setCell_other _ w.heap.size 5 (.int .i64 0)))
        have HSZ7 := Lib.hid (show w5.heap.size ≤ ((w6.setCell ⟨w.heap.size, 4, none⟩ (.int .u8 4)).setCell ⟨w.heap.size, 5, none⟩ (.int .i64 0)).heap.size from by have := HSZ.out; simpa [World.setCell] using this)
        clear k5 z5 k4 z4
        change Code.wp _ _ _ _ ((w6.setCell ⟨w.heap.size, 4, none⟩ (.int .u8 4)).setCell ⟨w.heap.size, 5, none⟩ (.int .i64 0))
        generalize (w6.setCell ⟨w.heap.size, 4, none⟩ (.int .u8 4)).setCell ⟨w.heap.size, 5, none⟩ (.int .i64 0) = w7 at HT7 HZ7 HB7 HO7 HBV7 HSZ7 ⊢
        go_wp2_with (first
          | (refine wT HT7.out rfl _ rfl rfl ?_)
          | (refine wstT HZ7.out { t with step := 4, said := 0 } (.slice A2 l.length c2) rfl rfl _ _ rfl rfl rfl ?_; intro w8 hs ho hbl; have HX := Lib.hid hs; have HB8 := Lib.hid (hbl _ _ HB7.out (by omega)); have HO8 := Lib.hid (own_other HO7.out HOZ.out ho); have HBV8 := Lib.hid (HBV7.out.far HV2.out ho); clear hs ho hbl))
        exact bodyPost_ret (results_read rfl rfl rfl HX.out) rfl ⟨⟨_, _, by rw [HRE.out], by rw [HRE.out]; exact (OwnB.of_own HO8.out).more (by omega), by rw [HRE.out]; exact HBV8.out.more (by have := HW4.out; omega), (fun k hk hk2 => by injection hk2 with hk2; have h2 : w4.heap.size = k := hk2; have := HOK.out k hk; omega)⟩, HB8.out⟩
      · have hq : ((e : Int) == (S.size : Int)) = false := by rw [beq_eq_false_iff_ne]; omega
        have HRE := Lib.hid (HRD.out.trans (if_neg hee))
        clear hee
        go_wp2_with (first
          | (refine wT HT6.out rfl _ rfl rfl ?_)
          | (refine wstT HZ6.out { t with said := (e : Int) } (.slice A2 l.length c2) rfl rfl _ _ rfl rfl rfl ?_; intro w8 hs ho hbl; have HX := Lib.hid hs; have HB8 := Lib.hid (hbl _ _ HB6.out (by omega)); have HO8 := Lib.hid (own_other HO6.out HOZ.out ho); have HBV8 := Lib.hid (HBV6.out.far HV2.out ho); clear hs ho hbl))
        exact bodyPost_ret (results_read rfl rfl rfl HX.out) rfl ⟨⟨_, _, by rw [HRE.out], by rw [HRE.out]; exact (OwnB.of_own HO8.out).more (by omega), by rw [HRE.out]; exact HBV8.out.more (by have := HW4.out; omega), (fun k hk hk2 => by injection hk2 with hk2; have h2 : w4.heap.size = k := hk2; have := HOK.out k hk; omega)⟩, HB8.out⟩
end Go.Proofs.YtlenlldiimohjaaGreatDoor
