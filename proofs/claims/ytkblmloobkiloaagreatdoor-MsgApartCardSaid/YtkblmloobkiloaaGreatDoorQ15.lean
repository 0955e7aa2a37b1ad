/-
  MR9 MT5: what the laws of package msg need of them.
-/
import Derived.Test.YtkblmloobkiloaaGreatDoorQ14
import Derived.Test.YtkblmloobkiloaaGreatDoorQ10
import Derived.Great.BuildSlice
namespace Go.Proofs.YtkblmloobkiloaaGreatDoor
open Go.RowKit

theorem Blk.noT {w : World} {q : Nat} {t e : TypeId} {cs : Array Value} (h : Blk w q t cs) (ht : t ≠ e) : ∀ g cur fr, g = q → w.heap[g]? ≠ some (Obj.cells cur e fr) := by
  rintro g cur fr rfl hg
  unfold Blk at h
  rw [h] at hg
  injection hg with hg
  injection hg with _ hg
  exact ht hg
theorem own_off {S : Nat → Prop} {w w' : World} {base n size : Nat} {e : TypeId} {v : Value} {xs : List Value} (ho : Off S w w') (h : w.ownsRow base e size v n xs) (hn : ∀ i cur fr, S i → w.heap[i]? ≠ some (Obj.cells cur e fr)) : w'.ownsRow base e size v n xs := by
  refine ho.own h fun k hk hs => ?_
  rcases h.2 with ⟨rfl, -⟩ | ⟨g, cap, cur, rfl, hb, hg, -⟩
  · cases hk
  · injection hk with hk
    have hk : g = k := hk
    subst hk
    exact hn g cur _ hs hg
theorem own_noT {w : World} {base n size : Nat} {e e' : TypeId} {v : Value} {xs : List Value} (h : w.ownsRow base e size v n xs) (he : e ≠ e') : ∀ g cur fr, v.ownBlock = some g → w.heap[g]? ≠ some (Obj.cells cur e' fr) := by
  intro g cur' fr hk hx
  rcases h.2 with ⟨rfl, -⟩ | ⟨g', cap, cur, rfl, hb, hg, -⟩
  · cases hk
  · injection hk with hk
    have hk : g' = g := hk
    subst hk
    rw [hg] at hx
    injection hx with hx
    injection hx with _ hx
    exact he hx
theorem Off.grown {S : Nat → Prop} {a b c : World} {row : Option Nat} (h : Off S a b) (hg : b.grownBy c row) (hr : ∀ g, row = some g → S g) : Off S a c :=
  h.trans ⟨hg.os, hg.tape, hg.output, hg.size, fun k hk hn => hg.block k hk fun e => hn (hr k e.symm)⟩
theorem own_new {w w' : World} {base n size : Nat} {e : TypeId} {v : Value} {xs : List Value} (h : w.ownsRow base e size v n xs) (hb : Below w.heap.size w w') : w'.ownsRow base e size v n xs :=
  (Off.of_below (S := fun _ => False) hb).own h (fun _ _ h => h)
set_option maxRecDepth 100000 in
set_option maxHeartbeats 3200000 in
theorem takeListS_calls {w : World} {p : Nat} {bv : Value} {l : List UInt8} {st : Option (List UInt8)} (hr : Ready w) (h8 : 8 ≤ p) (h : RdS w p bv l st) :
    Calls Tryz.prog 213 #[.pointer (some ⟨p, 0, none⟩), .func (.func 137) #[.pointer (some ⟨p, 0, none⟩)] #[]] w fun e w' => (∃ v, e = .returned v ∧ w'.ownsRow w.heap.size 9 1 v (listO textO st).1.length (strL (listO textO st).1)) ∧ RdS w' p bv l (listO textO st).2 ∧ OffR p w w' := by
  have HS := Lib.hid h
  have HRD := Lib.hid hr
  have H8 := Lib.hid h8
  have HLT := Lib.hid h.lt
  clear h hr h8
  go_enter Tryz.func213, Tryz.ntmps213
  go_wp2_with fail
  refine (rdU16_calls HS.out).mono ?_
  rintro e w1 ⟨rfl, hs, hb⟩
  have HS1 := Lib.hid hs
  have HO1 := Lib.hid hb
  clear hs hb
  generalize hA : getO 2 st = A at *
  have hAl : A.1 < 65536 := by rw [← hA]; exact getO_lt 2 st
  have HA := Lib.hid hA; clear hA
  obtain ⟨n, s1⟩ := A
  have hnl : n < 65536 := hAl
  have hw : wrap64 (n : Int) = (n : Int) := IntWalk.wrap64_in _ (by omega)
  clear hAl
  dsimp only at HS1
  by_cases h16 : 16 < n
  · have HL := Lib.hid (show listO textO st = ([], none) from by unfold listO; rw [HA.out]; dsimp only; rw [if_pos h16])
    go_wp2_with fail
    refine (fail_calls 33 (by decide) HS1.out).mono ?_
    rintro e w2 ⟨rfl, hs, hb⟩
    have HS2 := Lib.hid hs
    have HO2 := Lib.hid (HO1.out.trans hb)
    clear hs hb
    go_wp2_with fail
    go_ret
    rw [HL.out]
    exact ⟨⟨_, rfl, own_nil _ _ _ _⟩, HS2.out, HO2.out⟩
  · have HL := Lib.hid (show listO textO st = manyO textO n s1 from by unfold listO; rw [HA.out]; dsimp only; rw [if_neg h16])
    go_upto_region 5 with (fail)
    go_upto_region 7 with (fail)
    go_loopw [6, 15] (fun v i wr => ∃ k : Nat, k ≤ n ∧ i = .int .i64 k ∧ wr.ownsRow w.heap.size 9 1 v (manyO textO k s1).1.length (strL (manyO textO k s1).1) ∧ RdS wr p bv l (manyO textO k s1).2 ∧ OffR p w wr) (fun _ i _ => n - (intOf i).toNat)
    case atStart => exact ⟨0, by omega, rfl, own_nil _ _ _ _, HS1.out, HO1.out⟩
    case round =>
      obtain ⟨k, hk, rfl, hv, hs, hb⟩ := hrel
      have HV := Lib.hid hv; clear hv
      have HSR := Lib.hid hs; clear hs
      have HOR := Lib.hid hb; clear hb
      have HKL := Lib.hid (manyO_len textO k s1)
      have HSN := Lib.hid (manyO_snoc textO k s1)
      by_cases hlt : k < n
      · generalize manyO textO k s1 = M at *
        have hv := HV.out
        obtain ⟨A, cap, rfl, hc, hm⟩ := own_len hv
        clear hv
        go_wp2_with fail
        refine (rdText_calls (HRD.out.low (HOR.out.below (B := 8) (fun i hi => by have := H8.out; omega) HRD.out.eight) (Nat.le_refl 8)) H8.out HSR.out).mono ?_
        rintro e w2 ⟨rfl, hs, hb⟩
        have HS2 := Lib.hid hs
        have HO2 := Lib.hid (HOR.out.trans hb)
        have HV2 := Lib.hid (hb.own HV.out (fun j hj hjp => by have h1 := own_ge HV.out j hj; have h2 := HLT.out; omega))
        clear hs hb
        generalize textO M.2 = X at *
        have HS3 := Lib.hid (HS2.out.below ((Below.refl _ _).alloc (Nat.le_refl _) (.cells #[.string X.1] 9)))
        have HO3 := Lib.hid (HO2.out.alloc (.cells #[.string X.1] 9))
        have HV3 := Lib.hid (own_new HV2.out ((Below.refl _ _).alloc (Nat.le_refl _) (.cells #[.string X.1] 9)))
        have HRD3 := Lib.hid (show Reads (w2.alloc (.cells #[.string X.1] 9)) (w2.heap.size + 1) 1 (some ⟨w2.heap.size, 0, none⟩) ([X.1] : List ByteArray).length (strL [X.1]) from readsNew w2 9 [.string X.1] 1 1 rfl)
        have HLN := Lib.hid (show M.1.length + ([X.1] : List ByteArray).length ≤ 8796093022207 from by rw [HKL.out]; simp only [List.length_cons, List.length_nil]; omega)
        have HBS := Lib.hid (show w.heap.size ≤ (w2.alloc (.cells #[.string X.1] 9)).heap.size from HO3.out.size)
        go_wp2_with (at_builtin; refine appStr (.tmp 17) (.tmp 20) rfl rfl w.heap.size _ _ rfl HV3.out (w2.heap.size + 1) _ 1 [X.1] rfl HRD3.out HLN.out HBS.out ?_; intro v4 w4 hown hgr hor; have HV4 := Lib.hid hown; have HO4 := Lib.hid ((HO3.out.mono (S' := fun i => i = p ∨ w.heap.size ≤ i) (fun _ _ h => .inl h)).grown hgr (fun g hg => .inr (own_ge HV3.out g hg))); have HS4 := Lib.hid (HS3.out.off ((Off.refl (fun i => (Value.slice A M.1.length cap).ownBlock = some i) _).grown hgr (fun g hg => hg)) (fun hp => by have h1 := own_ge HV3.out p hp; have h2 := HLT.out; omega) (fun g cur fr hS => own_noT HV3.out (by decide) g cur fr hS)); clear hown hgr hor)
        go_roundw
        case rel =>
          refine ⟨k + 1, by omega, by go_num, ?_, ?_, HO4.out.toR (Nat.le_refl _)⟩
          · rw [HSN.out]
            exact HV4.out
          · rw [HSN.out]
            exact HS4.out
        case measure => simp [intOf]; omega
      · have hkn : k = n := by omega
        subst hkn
        rw [← HL.out] at HV HSR
        have hv := HV.out
        obtain ⟨A, cap, rfl, hc, hm⟩ := own_len hv
        clear hv
        go_wp2_with fail
        go_ret
        exact ⟨⟨_, rfl, HV.out⟩, HSR.out, HOR.out⟩
/-- The closure that reads a qid: it has captured the Reader. -/
theorem lf91_calls {w : World} {p c : Nat} {bv : Value} {l : List UInt8} {st : Option (List UInt8)} (hc : Blk w c 72 #[.pointer (some ⟨p, 0, none⟩)]) (h : RdS w p bv l st) :
    Calls Tryz.prog 226 #[.pointer (some ⟨c, 0, none⟩)] w fun e w' => e = .returned (qdV (qidO st).1) ∧ RdS w' p bv l (qidO st).2 ∧ OffR p w w' := by
  have HN := Lib.hid (Blk.new w 37 #[.int .u8 0, .int .u32 0, .int .u64 0])
  have HS := Lib.hid (h.below ((Below.refl _ _).alloc (Nat.le_refl _) (.cells #[.int .u8 0, .int .u32 0, .int .u64 0] 37)))
  have HO := Lib.hid ((Off.refl (fun i => i = p ∨ w.heap.size ≤ i) w).alloc (.cells #[.int .u8 0, .int .u32 0, .int .u64 0] 37))
  have HC := Lib.hid (hc.alloc (.cells #[.int .u8 0, .int .u32 0, .int .u64 0] 37))
  have HLT := Lib.hid h.lt
  clear h hc
  go_enter Tryz.func226, Tryz.ntmps226
  go_upto_region 1 with (fail)
  generalize w.alloc (.cells #[.int .u8 0, .int .u32 0, .int .u64 0] 37) = w0 at HS HN HO HC ⊢
  generalize hz : w.heap.size = z at HN HLT HO ⊢
  have HZ := Lib.hid hz; clear hz
  have kc : w0.cell? ⟨c, 0, none⟩ = _ := HC.out.cell 0
  go_wp2_with fail
  refine (takeQid_calls HS.out).mono ?_
  rintro e w4 ⟨rfl, hs, hb⟩
  have HS4 := Lib.hid hs
  have HN4 := Lib.hid (hb.blk HN.out (by have := HLT.out; omega))
  have HO4 := Lib.hid (HO.out.trans hb.toN)
  clear hs hb HS HN HO HC
  clear kc
  generalize hq : qidO st = R at *
  have HR := Lib.hid hq; clear hq
  obtain ⟨⟨v1, v2, v3⟩, sx⟩ := R
  dsimp only at HS4 ⊢
  have k0 : w4.cell? ⟨z, 0, none⟩ = some (.int .u8 0) := HN4.out.cell 0
  have k1 : w4.cell? ⟨z, 1, none⟩ = some (.int .u32 0) := HN4.out.cell 1
  have k2 : w4.cell? ⟨z, 2, none⟩ = some (.int .u64 0) := HN4.out.cell 2
  have f0 : w4.frozen? ⟨z, 0, none⟩ = false := HN4.out.frozen 0
  have f1 : w4.frozen? ⟨z, 1, none⟩ = false := HN4.out.frozen 1
  have f2 : w4.frozen? ⟨z, 2, none⟩ = false := HN4.out.frozen 2
  have hso := fun (S : Nat → Prop) (hS : S z) => (((Off.refl S w4).setCell (p := ⟨z, 0, none⟩) hS (.int .u8 (v1 : Int))).setCell (p := ⟨z, 1, none⟩) hS (.int .u32 (v2 : Int))).setCell (p := ⟨z, 2, none⟩) hS (.int .u64 (v3 : Int))
  have HN5 := Lib.hid (show Blk (((w4.setCell ⟨z, 0, none⟩ (.int .u8 (v1 : Int))).setCell ⟨z, 1, none⟩ (.int .u32 (v2 : Int))).setCell ⟨z, 2, none⟩ (.int .u64 (v3 : Int))) z 37 #[.int .u8 (v1 : Int), .int .u32 (v2 : Int), .int .u64 (v3 : Int)] from ((HN4.out.set_ 0 (.int .u8 (v1 : Int))).set_ 1 (.int .u32 (v2 : Int))).set_ 2 (.int .u64 (v3 : Int)))
  have HO5 := Lib.hid (HO4.out.trans (hso (fun i => i = p ∨ z ≤ i) (.inr (Nat.le_refl _))))
  have HS5 := Lib.hid (HS4.out.off (hso (fun i => i = z) rfl) (by have := HLT.out; omega) (blk_noU8 HN4.out (by decide)))
  clear hso
  go_wp2_with fail
  clear k0 k1 k2 f0 f1 f2
  generalize ((w4.setCell ⟨z, 0, none⟩ (.int .u8 (v1 : Int))).setCell ⟨z, 1, none⟩ (.int .u32 (v2 : Int))).setCell ⟨z, 2, none⟩ (.int .u64 (v3 : Int)) = w5 at HN5 HO5 HS5 ⊢
  exact bodyPost_ret (results_row (l := [.int .u8 (v1 : Int), .int .u32 (v2 : Int), .int .u64 (v3 : Int)]) rfl Tryz.underlying37 rfl qid_size rfl HN5.out) rfl ⟨(by rw [HR.out]), (by rw [HR.out]; exact HS5.out), HO5.out.toR (by have := HZ.out; omega)⟩
set_option maxRecDepth 100000 in
set_option maxHeartbeats 3200000 in
theorem takeListQ_calls {w : World} {p c : Nat} {bv : Value} {l : List UInt8} {st : Option (List UInt8)} (hc : Blk w c 72 #[.pointer (some ⟨p, 0, none⟩)]) (h : RdS w p bv l st) :
    Calls Tryz.prog 225 #[.pointer (some ⟨p, 0, none⟩), .func (.func 226) #[] #[.pointer (some ⟨c, 0, none⟩)]] w fun e w' => (∃ v, e = .returned v ∧ w'.ownsRow w.heap.size 37 3 v (listO qidO st).1.length (qidL (listO qidO st).1)) ∧ RdS w' p bv l (listO qidO st).2 ∧ OffR p w w' := by
  have HS := Lib.hid h
  have HC := Lib.hid hc
  have HLT := Lib.hid h.lt
  have HCP := Lib.hid (show c ≠ p from fun hcp => by
    obtain ⟨_, _, h, _⟩ := h
    obtain ⟨_, _, hb⟩ := h.blk
    exact absurd hb (hcp ▸ fun hb => by
      unfold Blk at hc hb
      rw [hc] at hb
      injection hb with hb
      injection hb with _ hb
      exact absurd hb (by decide)))
  clear h hc
  go_enter Tryz.func225, Tryz.ntmps225
  go_wp2_with fail
  refine (rdU16_calls HS.out).mono ?_
  rintro e w1 ⟨rfl, hs, hb⟩
  have HS1 := Lib.hid hs
  have HO1 := Lib.hid hb
  clear hs hb
  generalize hA : getO 2 st = A at *
  have hAl : A.1 < 65536 := by rw [← hA]; exact getO_lt 2 st
  have HA := Lib.hid hA; clear hA
  obtain ⟨n, s1⟩ := A
  have hnl : n < 65536 := hAl
  have hw : wrap64 (n : Int) = (n : Int) := IntWalk.wrap64_in _ (by omega)
  clear hAl
  dsimp only at HS1
  by_cases h16 : 16 < n
  · have HL := Lib.hid (show listO qidO st = ([], none) from by unfold listO; rw [HA.out]; dsimp only; rw [if_pos h16])
    go_wp2_with fail
    refine (fail_calls 33 (by decide) HS1.out).mono ?_
    rintro e w2 ⟨rfl, hs, hb⟩
    have HS2 := Lib.hid hs
    have HO2 := Lib.hid (HO1.out.trans hb)
    clear hs hb
    go_wp2_with fail
    go_ret
    rw [HL.out]
    exact ⟨⟨_, rfl, own_nil _ _ _ _⟩, HS2.out, HO2.out⟩
  · have HL := Lib.hid (show listO qidO st = manyO qidO n s1 from by unfold listO; rw [HA.out]; dsimp only; rw [if_neg h16])
    go_upto_region 5 with (fail)
    go_upto_region 7 with (fail)
    go_loopw [6, 15] (fun v i wr => ∃ k : Nat, k ≤ n ∧ i = .int .i64 k ∧ wr.ownsRow w.heap.size 37 3 v (manyO qidO k s1).1.length (qidL (manyO qidO k s1).1) ∧ RdS wr p bv l (manyO qidO k s1).2 ∧ OffR p w wr) (fun _ i _ => n - (intOf i).toNat)
    case atStart => exact ⟨0, by omega, rfl, own_nil _ _ _ _, HS1.out, HO1.out⟩
    case round =>
      obtain ⟨k, hk, rfl, hv, hs, hb⟩ := hrel
      have HV := Lib.hid hv; clear hv
      have HSR := Lib.hid hs; clear hs
      have HOR := Lib.hid hb; clear hb
      have HKL := Lib.hid (manyO_len qidO k s1)
      have HSN := Lib.hid (manyO_snoc qidO k s1)
      by_cases hlt : k < n
      · generalize manyO qidO k s1 = M at *
        have hv := HV.out
        obtain ⟨A, cap, rfl, hc, hm⟩ := own_len hv
        clear hv
        go_wp2_with fail
        refine (lf91_calls (HOR.out.blk HC.out HCP.out) HSR.out).mono ?_
        rintro e w2 ⟨rfl, hs, hb⟩
        have HS2 := Lib.hid hs
        have HO2 := Lib.hid (HOR.out.trans hb)
        have HV2 := Lib.hid (hb.own HV.out (fun j hj hjp => by have h1 := own_ge HV.out j hj; have h2 := HLT.out; omega))
        clear hs hb
        generalize qidO M.2 = X at *
        obtain ⟨⟨v1, v2, v3⟩, sx⟩ := X
        dsimp only at HS2 HSN ⊢
        have HS3 := Lib.hid (HS2.out.below ((Below.refl _ _).alloc (Nat.le_refl _) (.cells #[.int .u8 (v1 : Int), .int .u32 (v2 : Int), .int .u64 (v3 : Int)] 37)))
        have HO3 := Lib.hid (HO2.out.alloc (.cells #[.int .u8 (v1 : Int), .int .u32 (v2 : Int), .int .u64 (v3 : Int)] 37))
        have HV3 := Lib.hid (own_new HV2.out ((Below.refl _ _).alloc (Nat.le_refl _) (.cells #[.int .u8 (v1 : Int), .int .u32 (v2 : Int), .int .u64 (v3 : Int)] 37)))
        have HRD3 := Lib.hid (show Reads (w2.alloc (.cells #[.int .u8 (v1 : Int), .int .u32 (v2 : Int), .int .u64 (v3 : Int)] 37)) (w2.heap.size + 1) 3 (some ⟨w2.heap.size, 0, none⟩) ([⟨v1, v2, v3⟩] : List Qd).length (qidL [⟨v1, v2, v3⟩]) from readsNew w2 37 [.int .u8 (v1 : Int), .int .u32 (v2 : Int), .int .u64 (v3 : Int)] 1 3 rfl)
        have HLN := Lib.hid (show M.1.length + ([⟨v1, v2, v3⟩] : List Qd).length ≤ 8796093022207 from by rw [HKL.out]; simp only [List.length_cons, List.length_nil]; omega)
        have HBS := Lib.hid (show w.heap.size ≤ (w2.alloc (.cells #[.int .u8 (v1 : Int), .int .u32 (v2 : Int), .int .u64 (v3 : Int)] 37)).heap.size from HO3.out.size)
        go_wp2_with (at_builtin; refine appQid (.tmp 17) (.tmp 20) rfl rfl w.heap.size _ _ rfl HV3.out (w2.heap.size + 1) _ 1 [⟨v1, v2, v3⟩] rfl HRD3.out HLN.out HBS.out ?_; intro v4 w4 hown hgr hor; have HV4 := Lib.hid hown; have HO4 := Lib.hid ((HO3.out.mono (S' := fun i => i = p ∨ w.heap.size ≤ i) (fun _ _ h => .inl h)).grown hgr (fun g hg => .inr (own_ge HV3.out g hg))); have HS4 := Lib.hid (HS3.out.off ((Off.refl (fun i => (Value.slice A M.1.length cap).ownBlock = some i) _).grown hgr (fun g hg => hg)) (fun hp => by have h1 := own_ge HV3.out p hp; have h2 := HLT.out; omega) (fun g cur fr hS => own_noT HV3.out (by decide) g cur fr hS)); clear hown hgr hor)
        go_roundw
        case rel =>
          refine ⟨k + 1, by omega, by go_num, ?_, ?_, HO4.out.toR (Nat.le_refl _)⟩
          · rw [HSN.out]
            exact HV4.out
          · rw [HSN.out]
            exact HS4.out
        case measure => simp [intOf]; omega
      · have hkn : k = n := by omega
        subst hkn
        rw [← HL.out] at HV HSR
        have hv := HV.out
        obtain ⟨A, cap, rfl, hc, hm⟩ := own_len hv
        clear hv
        go_wp2_with fail
        go_ret
        exact ⟨⟨_, rfl, HV.out⟩, HSR.out, HOR.out⟩
end Go.Proofs.YtkblmloobkiloaaGreatDoor
namespace Go.Proofs.YtkblmloobkiloaaGreatDoor
open Go.RowKit
open Go.Lib (decDigits)

theorem join_eq (ws : List (List UInt8)) : Lib.join ws [32] = joinS ws := by
  cases ws with
  | nil => rfl
  | cons x r =>
    rw [Lib.join_cons]
    show x ++ (r.map ([32] ++ ·)).flatten = x ++ r.flatMap fun y => 32 :: y
    rw [List.flatMap_def]
    rfl
theorem joinS_len (ws : List (List UInt8)) (M : Nat) (h : ∀ x ∈ ws, x.length ≤ M) : (joinS ws).length ≤ ws.length * (M + 1) := by
  cases ws with
  | nil => exact Nat.zero_le _
  | cons x r =>
    have h1 := h x (List.mem_cons_self ..)
    have h2 : ∀ r : List (List UInt8), (∀ y ∈ r, y.length ≤ M) → (r.flatMap fun y => 32 :: y).length ≤ r.length * (M + 1) := by
      intro r
      induction r with
      | nil => intro _; exact Nat.zero_le _
      | cons y r ih =>
        intro hy
        have := hy y (List.mem_cons_self ..)
        have := ih (fun z hz => hy z (List.mem_cons_of_mem _ hz))
        rw [List.flatMap_cons, List.length_append, List.length_cons, List.length_cons, Nat.succ_mul]
        omega
    have h3 := h2 r (fun y hy => h y (List.mem_cons_of_mem _ hy))
    show (x ++ r.flatMap fun y => 32 :: y).length ≤ _
    rw [List.length_append, List.length_cons, Nat.succ_mul]
    omega
theorem quoteS_len (s : ByteArray) : (quoteS s).length ≤ 4 * s.size + 2 := by
  show (34 :: (s.data.toList.flatMap quoteC ++ [34])).length ≤ _
  have h1 := quote_len s.data.toList
  have h2 : s.data.toList.length = s.size := Array.length_toList ..
  rw [List.length_cons, List.length_append, List.length_cons, List.length_nil]
  omega
theorem dotL_len (q : Qd) (h : q.kind < 18446744073709551616 ∧ q.vers < 18446744073709551616 ∧ q.path < 18446744073709551616) : (dotL q).length ≤ 62 := by
  have h1 := dig_len _ h.1
  have h2 := dig_len _ h.2.1
  have h3 := dig_len _ h.2.2
  rw [ofL_size] at h1 h2 h3
  unfold dotL
  simp only [List.length_append, List.length_cons]
  omega
/-- What is joined of one's own row. -/
theorem joinRow_calls (v : Value) (ws : List ByteArray) (base : Nat) (w : World) (ho : w.ownsRow base 9 1 v ws.length (strL ws)) (h16 : ws.length ≤ 16) (hl : ∀ x ∈ ws, x.size ≤ 67108866) :
    Calls Tryz.prog 257 #[v, .string ⟨#[32]⟩] w fun e w' => e = .returned (.string (ofL (joinS (ws.map (·.data.toList))))) ∧ Below w.heap.size w w' := by
  rcases ho.2 with ⟨rfl, h0⟩ | ⟨g, cap, cur, rfl, hb, hg, hc, hm, hs, ht⟩
  · have : ws = [] := List.eq_nil_of_length_eq_zero h0
    subst this
    refine (Tryz.strings_Join_none none 0 ⟨#[32]⟩ w).mono ?_
    rintro e w' ⟨rfl, rfl⟩
    exact ⟨rfl, Below.refl _ _⟩
  · have hle : (joinS (ws.map (·.data.toList))).length ≤ 140737488355328 := by
      have h := joinS_len (ws.map (·.data.toList)) 67108866 (by
        intro x hx
        obtain ⟨y, hy, rfl⟩ := List.mem_map.1 hx
        have h1 := hl y hy
        have h2 : y.data.toList.length = y.size := Array.length_toList ..
        omega)
      rw [List.length_map] at h
      have : ws.length * (67108866 + 1) ≤ 16 * (67108866 + 1) := Nat.mul_le_mul_right _ h16
      omega
    refine (Tryz.strings_Join g 0 cap ws ⟨#[32]⟩ w (fun j x hx => ?_) (heap_lt hg) (by omega) hc (by rw [show (⟨#[32]⟩ : ByteArray).data.toList = [32] from rfl, join_eq]; exact hle)).mono ?_
    · have h := ho.cellAt j (by have := (List.getElem?_eq_some_iff.1 hx).1; omega)
      rw [Nat.zero_add]
      rw [h]
      rw [List.getElem?_map, hx]
      rfl
    · rintro e w' ⟨rfl, hb⟩
      rw [show (⟨#[32]⟩ : ByteArray).data.toList = [32] from rfl, join_eq]
      exact ⟨rfl, hb⟩
set_option maxRecDepth 100000 in
set_option maxHeartbeats 3200000 in
theorem listS_calls (v : Value) (l : List ByteArray) (w : World) (hl : Nams w w.heap.size v l) (h16 : l.length ≤ 16) (hok : ∀ x ∈ l, good x = true ∧ x.size ≤ 16777216) :
    Calls Tryz.prog 217 #[v, .func (.func 140) #[] #[]] w fun e w' => e = .returned (.string (ofL (91 :: (joinS (l.map quoteS) ++ [93])))) ∧ Below w.heap.size w w' := by
  have HL := Lib.hid hl
  have HOK := Lib.hid hok
  have HWL := Lib.hid (show ∀ x ∈ l, (ofL (quoteS x)).size ≤ 67108866 from fun x hx => by
    rw [ofL_size]
    have := quoteS_len x; have := (hok x hx).2; omega)
  obtain ⟨A, c, rfl, hc, hm, -⟩ := hl
  clear hok
  go_enter Tryz.func217, Tryz.ntmps217
  go_upto_region 3 with (fail)
  go_loopw [5, 7, 10] (fun v _ i wr => ∃ k : Nat, k ≤ l.length ∧ i = .int .i64 k ∧ wr.ownsRow w.heap.size 9 1 v ((l.take k).map (fun s => ofL (quoteS s))).length (strL ((l.take k).map (fun s => ofL (quoteS s)))) ∧ Below w.heap.size w wr) (fun _ _ i _ => l.length - (intOf i).toNat)
  case atStart => exact ⟨0, by omega, rfl, own_nil _ _ _ _, Below.refl _ _⟩
  case round =>
    obtain ⟨k, hk, rfl, hv, hb⟩ := hrel
    have HV := Lib.hid hv; clear hv
    have HBR := Lib.hid hb; clear hb
    by_cases hlt : k < l.length
    · obtain ⟨x, hx⟩ : ∃ x, l[k]? = some x := ⟨l[k], List.getElem?_eq_getElem _⟩
      obtain ⟨ad, rfl, hab, kx⟩ := (HL.out.below HBR.out).at_ hx
      have HNX := Lib.hid (show (l.take (k + 1)).map (fun s => ofL (quoteS s)) = (l.take k).map (fun s => ofL (quoteS s)) ++ [ofL (quoteS x)] from by
        rw [List.take_add_one, hx, Option.toList_some, List.map_append]
        rfl)
      have HKL := Lib.hid (show ((l.take k).map (fun s => ofL (quoteS s))).length ≤ 16 from by rw [List.length_map, List.length_take]; omega)
      have HXO := Lib.hid (HOK.out x (List.mem_of_getElem? hx))
      generalize (l.take k).map (fun s => ofL (quoteS s)) = M at *
      have hv := HV.out
      obtain ⟨A0, cap, rfl, hc0, hm0⟩ := own_len hv
      clear hv hx hab
      go_wp2_with fail
      refine (quoted_calls x HXO.out.1 HXO.out.2 wr).mono ?_
      rintro e w2 ⟨rfl, hb⟩
      have HB2 := Lib.hid (HBR.out.trans (hb.mono HBR.out.size))
      have HV2 := Lib.hid (own_new HV.out hb)
      clear hb kx
      generalize ofL (quoteS x) = X at *
      have hupB : Below w2.heap.size w2 (w2.alloc (.cells #[.string X] 9)) := (Below.refl _ _).alloc (Nat.le_refl _) _
      have HB3 := Lib.hid (HB2.out.trans (hupB.mono HB2.out.size))
      have HV3 := Lib.hid (own_new HV2.out hupB)
      have HRD3 := Lib.hid (show Reads (w2.alloc (.cells #[.string X] 9)) (w2.heap.size + 1) 1 (some ⟨w2.heap.size, 0, none⟩) ([X] : List ByteArray).length (strL [X]) from readsNew w2 9 [.string X] 1 1 rfl)
      have HLN := Lib.hid (show M.length + ([X] : List ByteArray).length ≤ 8796093022207 from by have := HKL.out; simp only [List.length_cons, List.length_nil]; omega)
      clear hupB
      go_wp2_with (at_builtin; refine appStr (.tmp 14) (.tmp 18) rfl rfl w.heap.size _ _ rfl HV3.out (w2.heap.size + 1) _ 1 [X] rfl HRD3.out HLN.out HB3.out.size ?_; intro v4 w4 hown hgr hor; have HV4 := Lib.hid hown; have HB4 := Lib.hid (HB3.out.grown hgr HB3.out.size (fun g hg => own_ge HV3.out g hg)); clear hown hgr hor)
      go_roundw
      case rel =>
        refine ⟨k + 1, by omega, by go_num, ?_, HB4.out⟩
        rw [HNX.out]
        exact HV4.out
      case measure => simp [intOf]; omega
    · have hkl : k = l.length := by omega
      subst hkl
      rw [List.take_length] at HV
      have HV0 := Lib.hid (show wr.ownsRow w.heap.size 9 1 _ l.length (strL (l.map (fun s => ofL (quoteS s)))) from by have h := HV.out; rw [List.length_map] at h; exact h)
      clear HV
      have HMM := Lib.hid (show ofL (91 :: (joinS (l.map quoteS) ++ [93])) = ⟨#[91]⟩ ++ ofL (joinS ((l.map (fun s => ofL (quoteS s))).map (·.data.toList))) ++ ⟨#[93]⟩ from by
        rw [List.map_map, show ((fun x : ByteArray => x.data.toList) ∘ (fun s => ofL (quoteS s))) = quoteS from by funext y; simp [ofL]]
        apply ByteArray.ext
        rw [← Array.toList_inj]
        simp [ofL, ByteArray.data_append])
      have HJS := Lib.hid (show ((l.map (fun s => ofL (quoteS s))).length ≤ 16) from by rw [List.length_map]; exact h16)
      have HJL := Lib.hid (show ∀ y ∈ l.map (fun s => ofL (quoteS s)), y.size ≤ 67108866 from fun y hy => by
        obtain ⟨x, hx, rfl⟩ := List.mem_map.1 hy
        exact HWL.out x hx)
      have HJC := Lib.hid (joinRow_calls _ _ _ wr (show wr.ownsRow w.heap.size 9 1 _ (l.map (fun s => ofL (quoteS s))).length (strL (l.map (fun s => ofL (quoteS s)))) from by rw [List.length_map]; exact HV0.out) HJS.out HJL.out)
      have hjs : (ofL (joinS ((l.map (fun s => ofL (quoteS s))).map (·.data.toList)))).size ≤ 1073741872 := by
        rw [ofL_size]
        have h := joinS_len ((l.map (fun s => ofL (quoteS s))).map (·.data.toList)) 67108866 (by
          intro x hx
          obtain ⟨y, hy, rfl⟩ := List.mem_map.1 hx
          have h1 := HJL.out y hy
          have h2 : y.data.toList.length = y.size := Array.length_toList ..
          omega)
        rw [List.length_map] at h
        have h3 : (l.map (fun s => ofL (quoteS s))).length * (67108866 + 1) ≤ 16 * (67108866 + 1) := Nat.mul_le_mul_right _ HJS.out
        omega
      generalize ofL (joinS ((l.map (fun s => ofL (quoteS s))).map (·.data.toList))) = J at *
      obtain ⟨K1, hK1⟩ : ∃ K1, K1 = ⟨#[91]⟩ ++ J := ⟨_, rfl⟩
      obtain ⟨K2, hK2⟩ : ∃ K2, K2 = K1 ++ ⟨#[93]⟩ := ⟨_, rfl⟩
      have ha1 : ∀ w, (Op.stringOp .add ⟨#[91]⟩ J).run Tryz.prog w = .ok (.string K1) w := fun w => by
        rw [hK1]
        exact run_string_add_sum w _ _ (by show 1 + J.size ≤ _; omega)
      have ha2 : ∀ w, (Op.stringOp .add K1 ⟨#[93]⟩).run Tryz.prog w = .ok (.string K2) w := fun w => by
        rw [hK2]
        exact run_string_add_sum w _ _ (by rw [hK1, ByteArray.size_append]; show 1 + J.size + 1 ≤ _; omega)
      have HKK := Lib.hid (show ofL (91 :: (joinS (l.map quoteS) ++ [93])) = K2 from by rw [HMM.out, hK2, hK1])
      clear hjs hK1 hK2 HMM
      have hv := HV0.out
      obtain ⟨A0, cap, rfl, hc0, hm0⟩ := own_len hv
      clear hv
      go_wp2_with fail
      refine HJC.out.mono ?_
      rintro e w3 ⟨rfl, hb⟩
      have HB3 := Lib.hid (HBR.out.trans (hb.mono HBR.out.size))
      clear hb
      go_wp2_with fail
      go_ret
      rw [HKK.out]
      exact ⟨rfl, HB3.out⟩
set_option maxRecDepth 100000 in
set_option maxHeartbeats 3200000 in
theorem listQ_calls (v : Value) (l : List Qd) (w : World) (hl : Qids w w.heap.size v l) (h16 : l.length ≤ 16) (hok : ∀ x ∈ l, x.kind < 18446744073709551616 ∧ x.vers < 18446744073709551616 ∧ x.path < 18446744073709551616) (ht : TP w) (h8 : 8 ≤ w.heap.size) :
    Calls Tryz.prog 230 #[v, .func (.func 176) #[] #[]] w fun e w' => e = .returned (.string (ofL (91 :: (joinS (l.map dotL) ++ [93])))) ∧ Below w.heap.size w w' := by
  have HL := Lib.hid hl
  have HOK := Lib.hid hok
  have HWL := Lib.hid (show ∀ x ∈ l, (ofL (dotL x)).size ≤ 67108866 from fun x hx => by
    rw [ofL_size]
    have := dotL_len x (hok x hx); omega)
  have HT := Lib.hid (And.intro ht h8)
  clear ht h8
  obtain ⟨A, c, rfl, hc, hm, -⟩ := hl
  clear hok
  go_enter Tryz.func230, Tryz.ntmps230
  go_upto_region 3 with (fail)
  go_loopw [5, 7, 10] (fun v _ i wr => ∃ k : Nat, k ≤ l.length ∧ i = .int .i64 k ∧ wr.ownsRow w.heap.size 9 1 v ((l.take k).map (fun s => ofL (dotL s))).length (strL ((l.take k).map (fun s => ofL (dotL s)))) ∧ Below w.heap.size w wr) (fun _ _ i _ => l.length - (intOf i).toNat)
  case atStart => exact ⟨0, by omega, rfl, own_nil _ _ _ _, Below.refl _ _⟩
  case round =>
    obtain ⟨k, hk, rfl, hv, hb⟩ := hrel
    have HV := Lib.hid hv; clear hv
    have HBR := Lib.hid hb; clear hb
    by_cases hlt : k < l.length
    · obtain ⟨x, hx⟩ : ∃ x, l[k]? = some x := ⟨l[k], List.getElem?_eq_getElem _⟩
      obtain ⟨ad, rfl, hab, kx0, kx1, kx2⟩ := (HL.out.below HBR.out).at_ hx
      have HNX := Lib.hid (show (l.take (k + 1)).map (fun s => ofL (dotL s)) = (l.take k).map (fun s => ofL (dotL s)) ++ [ofL (dotL x)] from by
        rw [List.take_add_one, hx, Option.toList_some, List.map_append]
        rfl)
      have HKL := Lib.hid (show ((l.take k).map (fun s => ofL (dotL s))).length ≤ 16 from by rw [List.length_map, List.length_take]; omega)
      have HXO := Lib.hid (HOK.out x (List.mem_of_getElem? hx))
      generalize (l.take k).map (fun s => ofL (dotL s)) = M at *
      have hv := HV.out
      obtain ⟨A0, cap, rfl, hc0, hm0⟩ := own_len hv
      clear hv hx hab
      have hwz : w.heap.size ≤ wr.heap.size := HBR.out.size
      have hupA : Below wr.heap.size wr (wr.alloc (.cells #[.int .u8 (x.kind : Int), .int .u32 (x.vers : Int), .int .u64 (x.path : Int)] 37)) := (Below.refl _ _).alloc (Nat.le_refl _) _
      have HBA := Lib.hid (HBR.out.trans (hupA.mono hwz))
      have HVA := Lib.hid (own_new HV.out hupA)
      have HN := Lib.hid (Blk.new wr 37 #[.int .u8 (x.kind : Int), .int .u32 (x.vers : Int), .int .u64 (x.path : Int)])
      clear hupA hwz
      go_upto_region 5 with (fail)
      generalize wr.alloc (.cells #[.int .u8 (x.kind : Int), .int .u32 (x.vers : Int), .int .u64 (x.path : Int)] 37) = wa at HBA HVA HN ⊢
      clear kx0 kx1 kx2
      generalize wr.heap.size = z at HN ⊢
      have k0 : wa.cell? ⟨z, 0, none⟩ = _ := HN.out.cell 0
      have k1 : wa.cell? ⟨z, 1, none⟩ = _ := HN.out.cell 1
      have k2 : wa.cell? ⟨z, 2, none⟩ = _ := HN.out.cell 2
      go_wp2_with fail
      refine (dot_calls x HXO.out wa (HT.out.1.low (HBA.out.mono HT.out.2) (Nat.le_refl 8)) (Nat.le_trans HT.out.2 HBA.out.size)).mono ?_
      rintro e w2 ⟨rfl, hb⟩
      have HB2 := Lib.hid (HBA.out.trans (hb.mono HBA.out.size))
      have HV2 := Lib.hid (own_new HVA.out hb)
      clear hb k0 k1 k2
      generalize ofL (dotL x) = X at *
      have hupB : Below w2.heap.size w2 (w2.alloc (.cells #[.string X] 9)) := (Below.refl _ _).alloc (Nat.le_refl _) _
      have HB3 := Lib.hid (HB2.out.trans (hupB.mono HB2.out.size))
      have HV3 := Lib.hid (own_new HV2.out hupB)
      have HRD3 := Lib.hid (show Reads (w2.alloc (.cells #[.string X] 9)) (w2.heap.size + 1) 1 (some ⟨w2.heap.size, 0, none⟩) ([X] : List ByteArray).length (strL [X]) from readsNew w2 9 [.string X] 1 1 rfl)
      have HLN := Lib.hid (show M.length + ([X] : List ByteArray).length ≤ 8796093022207 from by have := HKL.out; simp only [List.length_cons, List.length_nil]; omega)
      clear hupB
      go_wp2_with (at_builtin; refine appStr (.tmp 14) (.tmp 18) rfl rfl w.heap.size _ _ rfl HV3.out (w2.heap.size + 1) _ 1 [X] rfl HRD3.out HLN.out HB3.out.size ?_; intro v4 w4 hown hgr hor; have HV4 := Lib.hid hown; have HB4 := Lib.hid (HB3.out.grown hgr HB3.out.size (fun g hg => own_ge HV3.out g hg)); clear hown hgr hor)
      go_roundw
      case rel =>
        refine ⟨k + 1, by omega, by go_num, ?_, HB4.out⟩
        rw [HNX.out]
        exact HV4.out
      case measure => simp [intOf]; omega
    · have hkl : k = l.length := by omega
      subst hkl
      rw [List.take_length] at HV
      have HV0 := Lib.hid (show wr.ownsRow w.heap.size 9 1 _ l.length (strL (l.map (fun s => ofL (dotL s)))) from by have h := HV.out; rw [List.length_map] at h; exact h)
      clear HV
      have HMM := Lib.hid (show ofL (91 :: (joinS (l.map dotL) ++ [93])) = ⟨#[91]⟩ ++ ofL (joinS ((l.map (fun s => ofL (dotL s))).map (·.data.toList))) ++ ⟨#[93]⟩ from by
        rw [List.map_map, show ((fun x : ByteArray => x.data.toList) ∘ (fun s => ofL (dotL s))) = dotL from by funext y; simp [ofL]]
        apply ByteArray.ext
        rw [← Array.toList_inj]
        simp [ofL, ByteArray.data_append])
      have HJS := Lib.hid (show ((l.map (fun s => ofL (dotL s))).length ≤ 16) from by rw [List.length_map]; exact h16)
      have HJL := Lib.hid (show ∀ y ∈ l.map (fun s => ofL (dotL s)), y.size ≤ 67108866 from fun y hy => by
        obtain ⟨x, hx, rfl⟩ := List.mem_map.1 hy
        exact HWL.out x hx)
      have HJC := Lib.hid (joinRow_calls _ _ _ wr (show wr.ownsRow w.heap.size 9 1 _ (l.map (fun s => ofL (dotL s))).length (strL (l.map (fun s => ofL (dotL s)))) from by rw [List.length_map]; exact HV0.out) HJS.out HJL.out)
      have hjs : (ofL (joinS ((l.map (fun s => ofL (dotL s))).map (·.data.toList)))).size ≤ 1073741872 := by
        rw [ofL_size]
        have h := joinS_len ((l.map (fun s => ofL (dotL s))).map (·.data.toList)) 67108866 (by
          intro x hx
          obtain ⟨y, hy, rfl⟩ := List.mem_map.1 hx
          have h1 := HJL.out y hy
          have h2 : y.data.toList.length = y.size := Array.length_toList ..
          omega)
        rw [List.length_map] at h
        have h3 : (l.map (fun s => ofL (dotL s))).length * (67108866 + 1) ≤ 16 * (67108866 + 1) := Nat.mul_le_mul_right _ HJS.out
        omega
      generalize ofL (joinS ((l.map (fun s => ofL (dotL s))).map (·.data.toList))) = J at *
      obtain ⟨K1, hK1⟩ : ∃ K1, K1 = ⟨#[91]⟩ ++ J := ⟨_, rfl⟩
      obtain ⟨K2, hK2⟩ : ∃ K2, K2 = K1 ++ ⟨#[93]⟩ := ⟨_, rfl⟩
      have ha1 : ∀ w, (Op.stringOp .add ⟨#[91]⟩ J).run Tryz.prog w = .ok (.string K1) w := fun w => by
        rw [hK1]
        exact run_string_add_sum w _ _ (by show 1 + J.size ≤ _; omega)
      have ha2 : ∀ w, (Op.stringOp .add K1 ⟨#[93]⟩).run Tryz.prog w = .ok (.string K2) w := fun w => by
        rw [hK2]
        exact run_string_add_sum w _ _ (by rw [hK1, ByteArray.size_append]; show 1 + J.size + 1 ≤ _; omega)
      have HKK := Lib.hid (show ofL (91 :: (joinS (l.map dotL) ++ [93])) = K2 from by rw [HMM.out, hK2, hK1])
      clear hjs hK1 hK2 HMM
      have hv := HV0.out
      obtain ⟨A0, cap, rfl, hc0, hm0⟩ := own_len hv
      clear hv
      go_wp2_with fail
      refine HJC.out.mono ?_
      rintro e w3 ⟨rfl, hb⟩
      have HB3 := Lib.hid (HBR.out.trans (hb.mono HBR.out.size))
      clear hb
      go_wp2_with fail
      go_ret
      rw [HKK.out]
      exact ⟨rfl, HB3.out⟩
end Go.Proofs.YtkblmloobkiloaaGreatDoor
