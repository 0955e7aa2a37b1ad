
/-
  auth.Begin, auth.Allows.
-/
import Derived.Test.YtlenlldiimohjaaGreatDoorATalk
import Derived.Test.YtlenlldiimohjaaGreatDoorAKey
namespace Go.Proofs.YtlenlldiimohjaaGreatDoor
open Go.RowKit

theorem results_begin {tmps : Array Value} {w : World} {q : Nat} {t : Tk} {hv : Value} {e : Int} (h8 : tmps.getD 8 undef = .pointer (some ⟨q, 0, none⟩)) (h9 : tmps.getD 9 undef = .int .i64 e) (hk : TBlk w q t hv) :
    (results Tryz.f14 tmps).run Tryz.prog w = .ok (.tuple #[talkV t hv, .int .i64 e]) w := by
  have h8' : tmps[8]?.getD undef = .pointer (some ⟨q, 0, none⟩) := by simpa using h8
  have h9' : tmps[9]?.getD undef = .int .i64 e := by simpa using h9
  simp [results, Tryz.results14, h8', h9', asAddr, loadVar_talk hk]
/-- What Begin answers. -/
def beginS (L : List Acct) (user tree : ByteArray) (ours : Int) : Tk × Int :=
  if known L user = false then (Tk.none, 62) else if (keyOfUser L user).size = 0 then (Tk.none, 72) else (⟨user, tree, ours, 0, 1, 0⟩, 0)
set_option maxRecDepth 100000 in
set_option maxHeartbeats 1600000 in
theorem begin_calls (g : Nat) (L : List Acct) (user tree : ByteArray) (ours : Int) (w : World) (h : PTab w g L) (hu : user.size ≤ 1099511627776) :
    Calls Tryz.prog 14 #[.pointer (some ⟨g, 0, none⟩), .string user, .string tree, .int .u64 ours] w fun e w' => e = .returned (.tuple #[talkV (beginS L user tree ours).1 (.slice none 0 0), .int .i64 (beginS L user tree ours).2]) ∧ Below w.heap.size w w' := by
  have HP := Lib.hid (h.below ((Below.refl w.heap.size w).alloc (Nat.le_refl _) (Obj.cells #[.string ⟨#[]⟩, .string ⟨#[]⟩, .int .u64 0, .int .u64 0, .int .u8 0, .int .i64 0, .slice none 0 0] 54)))
  have HZ := Lib.hid (TBlk.zero w)
  have HB := Lib.hid ((Below.refl w.heap.size w).alloc (Nat.le_refl _) (Obj.cells #[.string ⟨#[]⟩, .string ⟨#[]⟩, .int .u64 0, .int .u64 0, .int .u8 0, .int .i64 0, .slice none 0 0] 54))
  clear h
  cases hk : known L user with
  | false =>
    have HS := Lib.hid (show beginS L user tree ours = (Tk.none, 62) from by unfold beginS; rw [if_pos hk])
    have HK := Lib.hid hk
    clear hk
    go_enter Tryz.func14, Tryz.ntmps14
    go_upto_region 1 with (fail)
    generalize w.alloc (Obj.cells #[.string ⟨#[]⟩, .string ⟨#[]⟩, .int .u64 0, .int .u64 0, .int .u8 0, .int .i64 0, .slice none 0 0] 54) = w1 at HP HZ HB ⊢
    go_wp2_with (first
      | (go_at_call 53; (with_reducible refine (known_calls g L user _ HP.out hu).mono ?_); rw [HK.out]; rintro e w' ⟨rfl, rfl⟩)
      | (refine wstT HZ.out Tk.none (.slice none 0 0) rfl rfl _ _ rfl rfl rfl ?_; intro w4 hs ho hbl; have HX := Lib.hid hs; have HB4 := Lib.hid (hbl _ _ HB.out (Nat.le_refl _)); clear hs ho hbl))
    exact bodyPost_ret (results_begin rfl rfl HX.out) rfl ⟨by rw [HS.out], HB4.out⟩
  | true =>
    by_cases hz : (keyOfUser L user).size = 0
    · have HS := Lib.hid (show beginS L user tree ours = (Tk.none, 72) from by unfold beginS; rw [if_neg (by rw [hk]; decide), if_pos hz])
      have he := empty_t hz
      have HK := Lib.hid hk
      obtain ⟨kk, hkk⟩ : ∃ z, keyOfUser L user = z := ⟨_, rfl⟩
      rw [hkk] at he
      have HKK := Lib.hid hkk
      clear hk hz hkk
      go_enter Tryz.func14, Tryz.ntmps14
      go_upto_region 1 with (fail)
      generalize w.alloc (Obj.cells #[.string ⟨#[]⟩, .string ⟨#[]⟩, .int .u64 0, .int .u64 0, .int .u8 0, .int .i64 0, .slice none 0 0] 54) = w1 at HP HZ HB ⊢
      go_wp2_with (first
        | (go_at_call 53; (with_reducible refine (known_calls g L user _ HP.out hu).mono ?_); rw [HK.out]; rintro e w' ⟨rfl, rfl⟩)
        | (go_at_call 54; (with_reducible refine (userKey_calls g L user _ HP.out hu).mono ?_); rw [HKK.out]; rintro e w' ⟨rfl, rfl⟩)
        | (refine wstT HZ.out Tk.none (.slice none 0 0) rfl rfl _ _ rfl rfl rfl ?_; intro w4 hs ho hbl; have HX := Lib.hid hs; have HB4 := Lib.hid (hbl _ _ HB.out (Nat.le_refl _)); clear hs ho hbl))
      exact bodyPost_ret (results_begin rfl rfl HX.out) rfl ⟨by rw [HS.out], HB4.out⟩
    · have HS := Lib.hid (show beginS L user tree ours = (⟨user, tree, ours, 0, 1, 0⟩, 0) from by unfold beginS; rw [if_neg (by rw [hk]; decide), if_neg hz])
      have he := empty_f hz
      have HK := Lib.hid hk
      obtain ⟨kk, hkk⟩ : ∃ z, keyOfUser L user = z := ⟨_, rfl⟩
      rw [hkk] at he
      have HKK := Lib.hid hkk
      clear hk hz hkk
      go_enter Tryz.func14, Tryz.ntmps14
      go_upto_region 1 with (fail)
      generalize w.alloc (Obj.cells #[.string ⟨#[]⟩, .string ⟨#[]⟩, .int .u64 0, .int .u64 0, .int .u8 0, .int .i64 0, .slice none 0 0] 54) = w1 at HP HZ HB ⊢
      go_wp2_with (first
        | (go_at_call 53; (with_reducible refine (known_calls g L user _ HP.out hu).mono ?_); rw [HK.out]; rintro e w' ⟨rfl, rfl⟩)
        | (go_at_call 54; (with_reducible refine (userKey_calls g L user _ HP.out hu).mono ?_); rw [HKK.out]; rintro e w' ⟨rfl, rfl⟩)
        | (refine wstT HZ.out ⟨user, tree, ours, 0, 1, 0⟩ (.slice none 0 0) rfl rfl _ _ rfl rfl rfl ?_; intro w4 hs ho hbl; have HX := Lib.hid hs; have HB4 := Lib.hid (hbl _ _ HB.out (Nat.le_refl _)); clear hs ho hbl))
      exact bodyPost_ret (results_begin rfl rfl HX.out) rfl ⟨by rw [HS.out], HB4.out⟩
/-- What Allows answers. -/
def allowsS (t : Tk) (user tree : ByteArray) : Int := if (t.step != 4) = true ∨ t.user ≠ user ∨ t.tree ≠ tree then 72 else 0
set_option maxHeartbeats 1600000 in
theorem allows_calls (t : Tk) (hv : Value) (user tree : ByteArray) (w : World) :
    Calls Tryz.prog 19 #[talkV t hv, .string user, .string tree] w fun e w' => e = .returned (.int .i64 (allowsS t user tree)) ∧ Below w.heap.size w w' := by
  have HB := Lib.hid ((Below.refl w.heap.size w).alloc (Nat.le_refl _) (Obj.cells (talkL t hv).toArray 54))
  have HT := Lib.hid (show TBlk (w.alloc (Obj.cells (talkL t hv).toArray 54)) w.heap.size t hv from Blk.new w _ _)
  cases h1 : (t.step != 4) with
  | true =>
    have HS := Lib.hid (show allowsS t user tree = 72 from by unfold allowsS; rw [if_pos (.inl h1)])
    go_enter Tryz.func19, Tryz.ntmps19
    go_upto_region 1 with (fail)
    generalize w.alloc (Obj.cells _ _) = w1 at HB HT ⊢
    have k4 : w1.cell? ⟨w.heap.size, 4, none⟩ = some (.int .u8 t.step) := Blk.cell HT.out 4
    go_wp2_with fail
    go_ret
    exact ⟨by rw [HS.out]; rfl, HB.out⟩
  | false =>
    by_cases h2 : t.user = user
    · have e2 := beq_str_t h2
      by_cases h3 : t.tree = tree
      · have e3 := beq_str_t h3
        have HS := Lib.hid (show allowsS t user tree = 0 from by
          unfold allowsS
          rw [if_neg (fun hh => by
            rw [h1] at hh
            rcases hh with hh | hh | hh
            · cases hh
            · exact hh h2
            · exact hh h3)])
        clear h2 h3
        go_enter Tryz.func19, Tryz.ntmps19
        go_upto_region 1 with (fail)
        generalize w.alloc (Obj.cells _ _) = w1 at HB HT ⊢
        have k4 : w1.cell? ⟨w.heap.size, 4, none⟩ = some (.int .u8 t.step) := Blk.cell HT.out 4
        have k0 : w1.cell? ⟨w.heap.size, 0, none⟩ = some (.string t.user) := Blk.cell HT.out 0
        have k1 : w1.cell? ⟨w.heap.size, 1, none⟩ = some (.string t.tree) := Blk.cell HT.out 1
        go_wp2_with fail
        go_ret
        exact ⟨by rw [HS.out]; rfl, HB.out⟩
      · have e3 := beq_str_f h3
        have HS := Lib.hid (show allowsS t user tree = 72 from by unfold allowsS; rw [if_pos (.inr (.inr h3))])
        clear h2 h3
        go_enter Tryz.func19, Tryz.ntmps19
        go_upto_region 1 with (fail)
        generalize w.alloc (Obj.cells _ _) = w1 at HB HT ⊢
        have k4 : w1.cell? ⟨w.heap.size, 4, none⟩ = some (.int .u8 t.step) := Blk.cell HT.out 4
        have k0 : w1.cell? ⟨w.heap.size, 0, none⟩ = some (.string t.user) := Blk.cell HT.out 0
        have k1 : w1.cell? ⟨w.heap.size, 1, none⟩ = some (.string t.tree) := Blk.cell HT.out 1
        go_wp2_with fail
        go_ret
        exact ⟨by rw [HS.out]; rfl, HB.out⟩
    · have e2 := beq_str_f h2
      have HS := Lib.hid (show allowsS t user tree = 72 from by unfold allowsS; rw [if_pos (.inr (.inl h2))])
      clear h2
      go_enter Tryz.func19, Tryz.ntmps19
      go_upto_region 1 with (fail)
      generalize w.alloc (Obj.cells _ _) = w1 at HB HT ⊢
      have k4 : w1.cell? ⟨w.heap.size, 4, none⟩ = some (.int .u8 t.step) := Blk.cell HT.out 4
      have k0 : w1.cell? ⟨w.heap.size, 0, none⟩ = some (.string t.user) := Blk.cell HT.out 0
      go_wp2_with fail
      go_ret
      exact ⟨by rw [HS.out]; rfl, HB.out⟩
end Go.Proofs.YtlenlldiimohjaaGreatDoor
