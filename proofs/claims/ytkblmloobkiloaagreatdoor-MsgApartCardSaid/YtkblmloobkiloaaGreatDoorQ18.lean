/-
  MC MC2: what the laws of package msg need of them.
-/
import Derived.Test.YtkblmloobkiloaaGreatDoorQ17
import Derived.Deep.RegionHeld3
import Derived.WalkSpells
namespace Go.Proofs.YtkblmloobkiloaaGreatDoor
open Go.RowKit

set_option maxRecDepth 100000 in
theorem cloneU8_calls {w : World} (v : Value) (l : List UInt8) (hx : Bys w w.heap.size v l) (hl : l.length ≤ 16777216) :
    Calls Tryz.prog 165 #[v] w fun e w' => (∃ v', e = .returned v' ∧ w'.ownsRow w.heap.size 5 1 v' l.length (byteL l)) ∧ Below w.heap.size w w' := by
  obtain ⟨A, c, rfl, hc, hm, hr⟩ := hx
  cases A with
  | none =>
    have h0 : l = [] := by
      cases l with
      | nil => rfl
      | cons x l =>
        obtain ⟨ad, h, -⟩ := hr.2 (by simp)
        cases h
    subst h0
    clear hr
    have qn : ∀ (w : World) (a : Option Addr) (n c n' c' : Nat), (binOp .eql 22 (.slice a n c) (.slice none n' c')).run Tryz.prog w = .ok (.bool a.isNone) w := fun w a n c n' c' => Lib.run_eql_slice_nil w _ _ a n c n' c' Tryz.underlying22
    go_enter Tryz.func165, Tryz.ntmps165
    go_wp2_with fail
    go_ret
    exact ⟨⟨_, rfl, own_nil _ _ _ _⟩, Below.refl _ _⟩
  | some ad =>
    have hup : Below w.heap.size w (w.alloc (.cells #[] 5)) := (Below.refl _ _).alloc (Nat.le_refl _) _
    have HR := Lib.hid (hr.below hup)
    have HB := Lib.hid hup
    have HL := Lib.hid (show ([] : List UInt8).length + l.length ≤ 140737488355327 from by simp only [List.length_nil]; omega)
    have HOWN := Lib.hid (show (w.alloc (.cells #[] 5)).ownsRow w.heap.size 5 1 (.slice (some ⟨w.heap.size, 0, none⟩) 0 0) ([] : List UInt8).length (byteL []) from ⟨rfl, .inr ⟨w.heap.size, 0, #[], rfl, Nat.le_refl _, Blk.new w 5 #[], Nat.le_refl _, Nat.zero_le _, rfl, rfl⟩⟩)
    clear hr hup
    have qn : ∀ (w : World) (a : Option Addr) (n c n' c' : Nat), (binOp .eql 22 (.slice a n c) (.slice none n' c')).run Tryz.prog w = .ok (.bool a.isNone) w := fun w a n c n' c' => Lib.run_eql_slice_nil w _ _ a n c n' c' Tryz.underlying22
    go_enter Tryz.func165, Tryz.ntmps165
    go_wp2_with (at_builtin; refine appU8 (.tmp 5) (.tmp 6) rfl rfl w.heap.size _ [] rfl HOWN.out w.heap.size _ c l rfl HR.out HL.out HB.out.size ?_; intro v2 w2 hown hgr hor; have HO := Lib.hid hown; have HB2 := Lib.hid (HB.out.trans ((Below.refl w.heap.size (w.alloc (.cells #[] 5))).grown hgr HB.out.size (fun k hk => own_ge HOWN.out k hk))); clear hown hgr hor; obtain ⟨A2, cap2, rfl, hc2, hm2⟩ := own_len HO.out)
    go_ret
    exact ⟨⟨_, rfl, by have h := HO.out; rw [List.nil_append] at h; exact h⟩, HB2.out⟩
set_option maxRecDepth 100000 in
theorem cloneStr_calls {w : World} (v : Value) (l : List ByteArray) (hx : Nams w w.heap.size v l) (hl : l.length ≤ 16777216) :
    Calls Tryz.prog 215 #[v] w fun e w' => (∃ v', e = .returned v' ∧ w'.ownsRow w.heap.size 9 1 v' l.length (strL l)) ∧ Below w.heap.size w w' := by
  obtain ⟨A, c, rfl, hc, hm, hr⟩ := hx
  cases A with
  | none =>
    have h0 : l = [] := by
      cases l with
      | nil => rfl
      | cons x l =>
        obtain ⟨ad, h, -⟩ := hr.2 (by simp)
        cases h
    subst h0
    clear hr
    have qn : ∀ (w : World) (a : Option Addr) (n c n' c' : Nat), (binOp .eql 33 (.slice a n c) (.slice none n' c')).run Tryz.prog w = .ok (.bool a.isNone) w := fun w a n c n' c' => Lib.run_eql_slice_nil w _ _ a n c n' c' Tryz.underlying33
    go_enter Tryz.func215, Tryz.ntmps215
    go_wp2_with fail
    go_ret
    exact ⟨⟨_, rfl, own_nil _ _ _ _⟩, Below.refl _ _⟩
  | some ad =>
    have hup : Below w.heap.size w (w.alloc (.cells #[] 9)) := (Below.refl _ _).alloc (Nat.le_refl _) _
    have HR := Lib.hid (hr.below hup)
    have HB := Lib.hid hup
    have HL := Lib.hid (show ([] : List ByteArray).length + l.length ≤ 8796093022207 from by simp only [List.length_nil]; omega)
    have HOWN := Lib.hid (show (w.alloc (.cells #[] 9)).ownsRow w.heap.size 9 1 (.slice (some ⟨w.heap.size, 0, none⟩) 0 0) ([] : List ByteArray).length (strL []) from ⟨rfl, .inr ⟨w.heap.size, 0, #[], rfl, Nat.le_refl _, Blk.new w 9 #[], Nat.le_refl _, Nat.zero_le _, rfl, rfl⟩⟩)
    clear hr hup
    have qn : ∀ (w : World) (a : Option Addr) (n c n' c' : Nat), (binOp .eql 33 (.slice a n c) (.slice none n' c')).run Tryz.prog w = .ok (.bool a.isNone) w := fun w a n c n' c' => Lib.run_eql_slice_nil w _ _ a n c n' c' Tryz.underlying33
    go_enter Tryz.func215, Tryz.ntmps215
    go_wp2_with (at_builtin; refine appStr (.tmp 5) (.tmp 6) rfl rfl w.heap.size _ [] rfl HOWN.out w.heap.size _ c l rfl HR.out HL.out HB.out.size ?_; intro v2 w2 hown hgr hor; have HO := Lib.hid hown; have HB2 := Lib.hid (HB.out.trans ((Below.refl w.heap.size (w.alloc (.cells #[] 9))).grown hgr HB.out.size (fun k hk => own_ge HOWN.out k hk))); clear hown hgr hor; obtain ⟨A2, cap2, rfl, hc2, hm2⟩ := own_len HO.out)
    go_ret
    exact ⟨⟨_, rfl, by have h := HO.out; rw [List.nil_append] at h; exact h⟩, HB2.out⟩
set_option maxRecDepth 100000 in
theorem cloneQid_calls {w : World} (v : Value) (l : List Qd) (hx : Qids w w.heap.size v l) (hl : l.length ≤ 16777216) :
    Calls Tryz.prog 228 #[v] w fun e w' => (∃ v', e = .returned v' ∧ w'.ownsRow w.heap.size 37 3 v' l.length (qidL l)) ∧ Below w.heap.size w w' := by
  obtain ⟨A, c, rfl, hc, hm, hr⟩ := hx
  cases A with
  | none =>
    have h0 : l = [] := by
      cases l with
      | nil => rfl
      | cons x l =>
        obtain ⟨ad, h, -⟩ := hr.2 (by simp)
        cases h
    subst h0
    clear hr
    have qn : ∀ (w : World) (a : Option Addr) (n c n' c' : Nat), (binOp .eql 34 (.slice a n c) (.slice none n' c')).run Tryz.prog w = .ok (.bool a.isNone) w := fun w a n c n' c' => Lib.run_eql_slice_nil w _ _ a n c n' c' Tryz.underlying34
    go_enter Tryz.func228, Tryz.ntmps228
    go_wp2_with fail
    go_ret
    exact ⟨⟨_, rfl, own_nil _ _ _ _⟩, Below.refl _ _⟩
  | some ad =>
    have hup : Below w.heap.size w (w.alloc (.cells #[] 37)) := (Below.refl _ _).alloc (Nat.le_refl _) _
    have HR := Lib.hid (hr.below hup)
    have HB := Lib.hid hup
    have HL := Lib.hid (show ([] : List Qd).length + l.length ≤ 8796093022207 from by simp only [List.length_nil]; omega)
    have HOWN := Lib.hid (show (w.alloc (.cells #[] 37)).ownsRow w.heap.size 37 3 (.slice (some ⟨w.heap.size, 0, none⟩) 0 0) ([] : List Qd).length (qidL []) from ⟨rfl, .inr ⟨w.heap.size, 0, #[], rfl, Nat.le_refl _, Blk.new w 37 #[], Nat.le_refl _, Nat.zero_le _, rfl, rfl⟩⟩)
    clear hr hup
    have qn : ∀ (w : World) (a : Option Addr) (n c n' c' : Nat), (binOp .eql 34 (.slice a n c) (.slice none n' c')).run Tryz.prog w = .ok (.bool a.isNone) w := fun w a n c n' c' => Lib.run_eql_slice_nil w _ _ a n c n' c' Tryz.underlying34
    go_enter Tryz.func228, Tryz.ntmps228
    go_wp2_with (at_builtin; refine appQid (.tmp 5) (.tmp 6) rfl rfl w.heap.size _ [] rfl HOWN.out w.heap.size _ c l rfl HR.out HL.out HB.out.size ?_; intro v2 w2 hown hgr hor; have HO := Lib.hid hown; have HB2 := Lib.hid (HB.out.trans ((Below.refl w.heap.size (w.alloc (.cells #[] 37))).grown hgr HB.out.size (fun k hk => own_ge HOWN.out k hk))); clear hown hgr hor; obtain ⟨A2, cap2, rfl, hc2, hm2⟩ := own_len HO.out)
    go_ret
    exact ⟨⟨_, rfl, by have h := HO.out; rw [List.nil_append] at h; exact h⟩, HB2.out⟩
theorem cell_far (w : World) {b o c i : Nat} (h : b ≠ c) (v : Value) : (w.setCell ⟨c, i, none⟩ v).cell? ⟨b, o, none⟩ = w.cell? ⟨b, o, none⟩ :=
  World.cell?_of_block (Below.heap_setCell _ _ _ _ h)
set_option maxHeartbeats 1600000 in
theorem num323_calls {w : World} {c q b o K : Nat} {old : Value} {x : Nat} (hent : ∀ args w, Sem.run Tryz.prog (callFunc K args) w = .ok (.enter K args) w) (hat : ∀ q w, Calls Tryz.prog K #[.pointer (some ⟨q, 0, none⟩)] w fun e w' => e = .returned (.pointer (some ⟨q, o, none⟩)) ∧ w = w') (hcq : q ≠ c) (hcb : b ≠ c) (kb : w.cell? ⟨b, 0, none⟩ = some (fv K #[])) (kq : w.cell? ⟨q, o, none⟩ = some (.int .u32 (x : Int))) (kc : w.cell? ⟨c, o, none⟩ = some old) (zc : w.frozen? ⟨c, o, none⟩ = false) :
    Calls Tryz.prog 129 #[.pointer (some ⟨c, 0, none⟩), .pointer (some ⟨q, 0, none⟩), .pointer (some ⟨b, 0, none⟩)] w fun e w' => e = .returned (.tuple #[]) ∧ ∃ w1, Below w.heap.size w w1 ∧ w' = w1.setCell ⟨c, o, none⟩ (.int .u32 (x : Int)) := by
  have HAT := Lib.hid hat
  have HC := Lib.hid (show w.drew.cell? ⟨c, o, none⟩ = some old ∧ w.drew.frozen? ⟨c, o, none⟩ = false from ⟨kc, zc⟩)
  have HSET := Lib.hid (show ∀ wx : World, (wx.cell? ⟨b, 0, none⟩ = some (fv K #[]) ∧ wx.cell? ⟨q, o, none⟩ = some (.int .u32 (x : Int))) → ((wx.setCell ⟨c, o, none⟩ (.int .u32 (x : Int))).cell? ⟨b, 0, none⟩ = some (fv K #[]) ∧ (wx.setCell ⟨c, o, none⟩ (.int .u32 (x : Int))).cell? ⟨q, o, none⟩ = some (.int .u32 (x : Int))) from fun wx h => ⟨(cell_far wx hcb _).trans h.1, (cell_far wx hcq _).trans h.2⟩)
  have HFIN := Lib.hid (show ∃ w1, Below w.heap.size w w1 ∧ w.drew.setCell ⟨c, o, none⟩ (.int .u32 (x : Int)) = w1.setCell ⟨c, o, none⟩ (.int .u32 (x : Int)) from ⟨_, below_drew w, rfl⟩)
  clear hat
  go_enter Tryz.func129, Tryz.ntmps129
  go_upto_region 0 with (fail)
  refine wp_region_held_drew (S := fun wx => wx.cell? ⟨b, 0, none⟩ = some (fv K #[]) ∧ wx.cell? ⟨q, o, none⟩ = some (.int .u32 (x : Int))) (by kernel_rfl) ⟨kb, kq⟩ (fun hHeld => ?_)
  clear kb kq kc zc hcq hcb
  generalize w.drew = wd at hHeld HC HFIN ⊢
  refine wpAnyH_takeD 5 (i := 0) (v := .func (.func K) #[] #[]) rfl rfl (by kernel_rfl) (by kernel_rfl) (by kernel_rfl) (fun _ _ _ h => h) (Or.inl ⟨by rfl, fun wq hSw => by have kb := hSw.1; go_simp⟩) (by assumption) ?_
  simp only [Act.put, List.setIfInBounds_toArray, List.set_cons_zero, List.set_cons_succ]
  refine wpAnyH_takeD 6 (i := 1) (v := .pointer (some ⟨c, 0, none⟩)) rfl rfl (by kernel_rfl) (by kernel_rfl) (by kernel_rfl) (fun _ _ _ h => h) (Or.inl ⟨by rfl, fun wq hSw => by go_simp⟩) (by assumption) ?_
  simp only [Act.put, List.setIfInBounds_toArray, List.set_cons_zero, List.set_cons_succ]
  refine wpAnyH_takeD 8 (i := 3) (v := .func (.func K) #[] #[]) rfl rfl (by kernel_rfl) (by kernel_rfl) (by kernel_rfl) (fun _ _ _ h => h) (Or.inl ⟨by rfl, fun wq hSw => by have kb := hSw.1; go_simp⟩) (by assumption) ?_
  simp only [Act.put, List.setIfInBounds_toArray, List.set_cons_zero, List.set_cons_succ]
  refine wpAnyH_takeD 9 (i := 4) (v := .pointer (some ⟨q, 0, none⟩)) rfl rfl (by kernel_rfl) (by kernel_rfl) (by kernel_rfl) (fun _ _ _ h => h) (Or.inl ⟨by rfl, fun wq hSw => by go_simp⟩) (by assumption) ?_
  simp only [Act.put, List.setIfInBounds_toArray, List.set_cons_zero, List.set_cons_succ]
  refine wpAnyH_ready (rs := [2]) (by kernel_rfl) (by simp) ?_
  refine AllReadyH.cons rfl (fun K hK => ?_) AllReadyH.nil
  rw [if_pos (by rfl)]
  go_simp
  (with_reducible refine (HAT.out c wd).mono ?_)
  rintro e w' ⟨rfl, rfl⟩
  dsimp only
  refine hK.out _ _ hHeld (fun hHeld => ?_)
  clear hK
  refine wpAnyH_ready (rs := [5]) (by kernel_rfl) (by simp) ?_
  refine AllReadyH.cons rfl (fun K hK => ?_) AllReadyH.nil
  rw [if_pos (by rfl)]
  go_simp
  (with_reducible refine (HAT.out q wd).mono ?_)
  rintro e w' ⟨rfl, rfl⟩
  dsimp only
  refine hK.out _ _ hHeld (fun hHeld => ?_)
  clear hK
  refine wpAnyH_takeD 11 (i := 6) (v := .pointer (some ⟨q, o, none⟩)) rfl rfl (by kernel_rfl) (by kernel_rfl) (by kernel_rfl) (fun _ _ _ h => h) (Or.inl ⟨by rfl, fun wq hSw => by go_simp⟩) (by assumption) ?_
  simp only [Act.put, List.setIfInBounds_toArray, List.set_cons_zero, List.set_cons_succ]
  refine wpAnyH_takeD 12 (i := 7) (v := .int .u32 (x : Int)) rfl rfl (by kernel_rfl) (by kernel_rfl) (by kernel_rfl) (fun _ _ _ h => h) (Or.inl ⟨by rfl, fun wq hSw => by have kq := hSw.2; go_simp⟩) (by assumption) ?_
  simp only [Act.put, List.setIfInBounds_toArray, List.set_cons_zero, List.set_cons_succ]
  refine wpAnyH_takeD 13 (i := 8) (v := .pointer (some ⟨c, o, none⟩)) rfl rfl (by kernel_rfl) (by kernel_rfl) (by kernel_rfl) (fun _ _ _ h => h) (Or.inl ⟨by rfl, fun wq hSw => by go_simp⟩) (by assumption) ?_
  simp only [Act.put, List.setIfInBounds_toArray, List.set_cons_zero, List.set_cons_succ]
  refine wpAnyH_ready (rs := [9]) (by kernel_rfl) (by simp) ?_
  refine AllReadyH.cons rfl (fun K hK => ?_) AllReadyH.nil
  rw [if_pos (by rfl)]
  have kc := HC.out.1
  have zc := HC.out.2
  go_simp
  refine hK.out _ _ (HSET.out _ hHeld) (fun hHeld => ?_)
  clear hK
  refine wpAnyH_done (by kernel_rfl) ?_ _
  go_wp2_with fail
  go_end0
  exact ⟨rfl, HFIN.out⟩
set_option maxHeartbeats 1600000 in
theorem text4_calls {w : World} {c q b o K : Nat} {old : Value} {x : ByteArray} (hent : ∀ args w, Sem.run Tryz.prog (callFunc K args) w = .ok (.enter K args) w) (hat : ∀ q w, Calls Tryz.prog K #[.pointer (some ⟨q, 0, none⟩)] w fun e w' => e = .returned (.pointer (some ⟨q, o, none⟩)) ∧ w = w') (hcq : q ≠ c) (hcb : b ≠ c) (kb : w.cell? ⟨b, 0, none⟩ = some (fv K #[])) (kq : w.cell? ⟨q, o, none⟩ = some (.string x)) (kc : w.cell? ⟨c, o, none⟩ = some old) (zc : w.frozen? ⟨c, o, none⟩ = false) :
    Calls Tryz.prog 138 #[.pointer (some ⟨c, 0, none⟩), .pointer (some ⟨q, 0, none⟩), .pointer (some ⟨b, 0, none⟩)] w fun e w' => e = .returned (.tuple #[]) ∧ ∃ w1, Below w.heap.size w w1 ∧ w' = w1.setCell ⟨c, o, none⟩ (.string x) := by
  have HAT := Lib.hid hat
  have HC := Lib.hid (show w.drew.cell? ⟨c, o, none⟩ = some old ∧ w.drew.frozen? ⟨c, o, none⟩ = false from ⟨kc, zc⟩)
  have HSET := Lib.hid (show ∀ wx : World, (wx.cell? ⟨b, 0, none⟩ = some (fv K #[]) ∧ wx.cell? ⟨q, o, none⟩ = some (.string x)) → ((wx.setCell ⟨c, o, none⟩ (.string x)).cell? ⟨b, 0, none⟩ = some (fv K #[]) ∧ (wx.setCell ⟨c, o, none⟩ (.string x)).cell? ⟨q, o, none⟩ = some (.string x)) from fun wx h => ⟨(cell_far wx hcb _).trans h.1, (cell_far wx hcq _).trans h.2⟩)
  have HFIN := Lib.hid (show ∃ w1, Below w.heap.size w w1 ∧ w.drew.setCell ⟨c, o, none⟩ (.string x) = w1.setCell ⟨c, o, none⟩ (.string x) from ⟨_, below_drew w, rfl⟩)
  clear hat
  go_enter Tryz.func138, Tryz.ntmps138
  go_upto_region 0 with (fail)
  refine wp_region_held_drew (S := fun wx => wx.cell? ⟨b, 0, none⟩ = some (fv K #[]) ∧ wx.cell? ⟨q, o, none⟩ = some (.string x)) (by kernel_rfl) ⟨kb, kq⟩ (fun hHeld => ?_)
  clear kb kq kc zc hcq hcb
  generalize w.drew = wd at hHeld HC HFIN ⊢
  refine wpAnyH_takeD 5 (i := 0) (v := .func (.func K) #[] #[]) rfl rfl (by kernel_rfl) (by kernel_rfl) (by kernel_rfl) (fun _ _ _ h => h) (Or.inl ⟨by rfl, fun wq hSw => by have kb := hSw.1; go_simp⟩) (by assumption) ?_
  simp only [Act.put, List.setIfInBounds_toArray, List.set_cons_zero, List.set_cons_succ]
  refine wpAnyH_takeD 6 (i := 1) (v := .pointer (some ⟨c, 0, none⟩)) rfl rfl (by kernel_rfl) (by kernel_rfl) (by kernel_rfl) (fun _ _ _ h => h) (Or.inl ⟨by rfl, fun wq hSw => by go_simp⟩) (by assumption) ?_
  simp only [Act.put, List.setIfInBounds_toArray, List.set_cons_zero, List.set_cons_succ]
  refine wpAnyH_takeD 8 (i := 3) (v := .func (.func K) #[] #[]) rfl rfl (by kernel_rfl) (by kernel_rfl) (by kernel_rfl) (fun _ _ _ h => h) (Or.inl ⟨by rfl, fun wq hSw => by have kb := hSw.1; go_simp⟩) (by assumption) ?_
  simp only [Act.put, List.setIfInBounds_toArray, List.set_cons_zero, List.set_cons_succ]
  refine wpAnyH_takeD 9 (i := 4) (v := .pointer (some ⟨q, 0, none⟩)) rfl rfl (by kernel_rfl) (by kernel_rfl) (by kernel_rfl) (fun _ _ _ h => h) (Or.inl ⟨by rfl, fun wq hSw => by go_simp⟩) (by assumption) ?_
  simp only [Act.put, List.setIfInBounds_toArray, List.set_cons_zero, List.set_cons_succ]
  refine wpAnyH_ready (rs := [2]) (by kernel_rfl) (by simp) ?_
  refine AllReadyH.cons rfl (fun K hK => ?_) AllReadyH.nil
  rw [if_pos (by rfl)]
  go_simp
  (with_reducible refine (HAT.out c wd).mono ?_)
  rintro e w' ⟨rfl, rfl⟩
  dsimp only
  refine hK.out _ _ hHeld (fun hHeld => ?_)
  clear hK
  refine wpAnyH_ready (rs := [5]) (by kernel_rfl) (by simp) ?_
  refine AllReadyH.cons rfl (fun K hK => ?_) AllReadyH.nil
  rw [if_pos (by rfl)]
  go_simp
  (with_reducible refine (HAT.out q wd).mono ?_)
  rintro e w' ⟨rfl, rfl⟩
  dsimp only
  refine hK.out _ _ hHeld (fun hHeld => ?_)
  clear hK
  refine wpAnyH_takeD 11 (i := 6) (v := .pointer (some ⟨q, o, none⟩)) rfl rfl (by kernel_rfl) (by kernel_rfl) (by kernel_rfl) (fun _ _ _ h => h) (Or.inl ⟨by rfl, fun wq hSw => by go_simp⟩) (by assumption) ?_
  simp only [Act.put, List.setIfInBounds_toArray, List.set_cons_zero, List.set_cons_succ]
  refine wpAnyH_takeD 12 (i := 7) (v := .string x) rfl rfl (by kernel_rfl) (by kernel_rfl) (by kernel_rfl) (fun _ _ _ h => h) (Or.inl ⟨by rfl, fun wq hSw => by have kq := hSw.2; go_simp⟩) (by assumption) ?_
  simp only [Act.put, List.setIfInBounds_toArray, List.set_cons_zero, List.set_cons_succ]
  refine wpAnyH_takeD 13 (i := 8) (v := .pointer (some ⟨c, o, none⟩)) rfl rfl (by kernel_rfl) (by kernel_rfl) (by kernel_rfl) (fun _ _ _ h => h) (Or.inl ⟨by rfl, fun wq hSw => by go_simp⟩) (by assumption) ?_
  simp only [Act.put, List.setIfInBounds_toArray, List.set_cons_zero, List.set_cons_succ]
  refine wpAnyH_ready (rs := [9]) (by kernel_rfl) (by simp) ?_
  refine AllReadyH.cons rfl (fun K hK => ?_) AllReadyH.nil
  rw [if_pos (by rfl)]
  have kc := HC.out.1
  have zc := HC.out.2
  go_simp
  refine hK.out _ _ (HSET.out _ hHeld) (fun hHeld => ?_)
  clear hK
  refine wpAnyH_done (by kernel_rfl) ?_ _
  go_wp2_with fail
  go_end0
  exact ⟨rfl, HFIN.out⟩
end Go.Proofs.YtkblmloobkiloaaGreatDoor
namespace Go.Proofs.YtkblmloobkiloaaGreatDoor
open Go.RowKit

/-- What a field's move leaves: the message at c is k now. -/
def MoveR (c base : Nat) (k : Mg) (w w' : World) : Prop := (∃ xn xq xd, MBlk w' c k xn xq xd ∧ OL w' base k xn xq xd) ∧ Off (fun i => i = c) w w'
theorem MoveR.end_ {w w1 w' : World} {c base : Nat} {k k' : Mg} {xn xq xd yn yq yd : Value} (hk : MBlk w1 c k xn xq xd) (ho : OL w1 base k' yn yq yd) (h1 : Below w.heap.size w w1) (hb : MBlk w' c k' yn yq yd) (hoff : Off (fun i => i = c) w1 w') : MoveR c base k' w w' :=
  ⟨⟨_, _, _, hb, ho.mblk hk hoff⟩, (Off.of_below h1).trans hoff⟩
theorem sum_len (l : List ByteArray) : l.length ≤ (l.map fun s => 2 + s.size).sum := by
  induction l with
  | nil => exact Nat.le_refl _
  | cons x l ih =>
    simp only [List.length_cons, List.map_cons, List.sum_cons]
    omega
theorem Mg.small.names {m : Mg} (h : m.small) : m.names.length ≤ 16777216 := by
  have h1 : 2 + (m.names.map fun s => 2 + s.size).sum ≤ 16777216 := h .names
  have := sum_len m.names
  omega
theorem Mg.small.qids {m : Mg} (h : m.small) : m.qids.length ≤ 16777216 := by
  have h1 : 2 + 13 * m.qids.length ≤ 16777216 := h .qids
  omega
theorem Mg.small.data {m : Mg} (h : m.small) : m.data.length ≤ 16777216 := by
  have h1 : 4 + m.data.length ≤ 16777216 := h .data
  omega
theorem move_oldtag {w : World} {c q base : Nat} {k m : Mg} {xn xq xd vn vq vd : Value} (hk : MBlk w c k xn xq xd) (ho : OL w base k xn xq xd) (hm : MBlk w q m vn vq vd) :
    Calls Tryz.prog 145 #[.pointer (some ⟨c, 0, none⟩), .pointer (some ⟨q, 0, none⟩)] w fun e w' => e = .returned (.tuple #[]) ∧ MoveR c base (k.move m .oldtag) w w' := by
  have HE := Lib.hid (MoveR.end_ (k' := k.move m .oldtag) hk ⟨ho.n, ho.q, ho.d⟩ (Below.refl _ w) (MBlk.set_ hk _ _ (set_oldtag k m.oldtag xn xq xd)) (set_off w c _ _))
  have k0 : w.cell? ⟨q, 8, none⟩ = some (.int .u16 (m.oldtag : Int)) := Blk.cell hm 8
  have k1 : w.cell? ⟨c, 8, none⟩ = some (.int .u16 (k.oldtag : Int)) := Blk.cell hk 8
  have z1 : w.frozen? ⟨c, 8, none⟩ = false := Blk.frozen hk 8
  clear hk ho hm
  go_enter Tryz.func145, Tryz.ntmps145
  go_wp2_with fail
  go_end0
  exact ⟨rfl, HE.out⟩
theorem move_mode {w : World} {c q base : Nat} {k m : Mg} {xn xq xd vn vq vd : Value} (hk : MBlk w c k xn xq xd) (ho : OL w base k xn xq xd) (hm : MBlk w q m vn vq vd) :
    Calls Tryz.prog 150 #[.pointer (some ⟨c, 0, none⟩), .pointer (some ⟨q, 0, none⟩)] w fun e w' => e = .returned (.tuple #[]) ∧ MoveR c base (k.move m .mode) w w' := by
  have HE := Lib.hid (MoveR.end_ (k' := k.move m .mode) hk ⟨ho.n, ho.q, ho.d⟩ (Below.refl _ w) (MBlk.set_ hk _ _ (set_mode k m.mode xn xq xd)) (set_off w c _ _))
  have k0 : w.cell? ⟨q, 16, none⟩ = some (.int .u8 (m.mode : Int)) := Blk.cell hm 16
  have k1 : w.cell? ⟨c, 16, none⟩ = some (.int .u8 (k.mode : Int)) := Blk.cell hk 16
  have z1 : w.frozen? ⟨c, 16, none⟩ = false := Blk.frozen hk 16
  clear hk ho hm
  go_enter Tryz.func150, Tryz.ntmps150
  go_wp2_with fail
  go_end0
  exact ⟨rfl, HE.out⟩
theorem move_offset {w : World} {c q base : Nat} {k m : Mg} {xn xq xd vn vq vd : Value} (hk : MBlk w c k xn xq xd) (ho : OL w base k xn xq xd) (hm : MBlk w q m vn vq vd) :
    Calls Tryz.prog 157 #[.pointer (some ⟨c, 0, none⟩), .pointer (some ⟨q, 0, none⟩)] w fun e w' => e = .returned (.tuple #[]) ∧ MoveR c base (k.move m .offset) w w' := by
  have HE := Lib.hid (MoveR.end_ (k' := k.move m .offset) hk ⟨ho.n, ho.q, ho.d⟩ (Below.refl _ w) (MBlk.set_ hk _ _ (set_offset k m.offset xn xq xd)) (set_off w c _ _))
  have k0 : w.cell? ⟨q, 20, none⟩ = some (.int .u64 (m.offset : Int)) := Blk.cell hm 20
  have k1 : w.cell? ⟨c, 20, none⟩ = some (.int .u64 (k.offset : Int)) := Blk.cell hk 20
  have z1 : w.frozen? ⟨c, 20, none⟩ = false := Blk.frozen hk 20
  clear hk ho hm
  go_enter Tryz.func157, Tryz.ntmps157
  go_wp2_with fail
  go_end0
  exact ⟨rfl, HE.out⟩
theorem move_qid {w : World} {c q base : Nat} {k m : Mg} {xn xq xd vn vq vd : Value} (hk : MBlk w c k xn xq xd) (ho : OL w base k xn xq xd) (hm : MBlk w q m vn vq vd) :
    Calls Tryz.prog 174 #[.pointer (some ⟨c, 0, none⟩), .pointer (some ⟨q, 0, none⟩)] w fun e w' => e = .returned (.tuple #[]) ∧ MoveR c base (k.move m .qid) w w' := by
  have HE := Lib.hid (MoveR.end_ (k' := k.move m .qid) hk ⟨ho.n, ho.q, ho.d⟩ (Below.refl _ w) (w' := ((w.setCell ⟨c, 13, none⟩ (.int .u8 (m.qid.kind : Int))).setCell ⟨c, 14, none⟩ (.int .u32 (m.qid.vers : Int))).setCell ⟨c, 15, none⟩ (.int .u64 (m.qid.path : Int))) (yn := xn) (yq := xq) (yd := xd) (by
    have h := ((Blk.set_ hk 13 (.int .u8 (m.qid.kind : Int))).set_ 14 (.int .u32 (m.qid.vers : Int))).set_ 15 (.int .u64 (m.qid.path : Int))
    rw [set_qid] at h
    exact h) (((set_off w c 13 _).trans (set_off _ c 14 _)).trans (set_off _ c 15 _)))
  have j0 : w.cell? ⟨q, 13, none⟩ = some (.int .u8 (m.qid.kind : Int)) := Blk.cell hm 13
  have j1 : w.cell? ⟨q, 14, none⟩ = some (.int .u32 (m.qid.vers : Int)) := Blk.cell hm 14
  have j2 : w.cell? ⟨q, 15, none⟩ = some (.int .u64 (m.qid.path : Int)) := Blk.cell hm 15
  have k0 : w.cell? ⟨c, 13, none⟩ = some (.int .u8 (k.qid.kind : Int)) := Blk.cell hk 13
  have k1 : w.cell? ⟨c, 14, none⟩ = some (.int .u32 (k.qid.vers : Int)) := Blk.cell hk 14
  have k2 : w.cell? ⟨c, 15, none⟩ = some (.int .u64 (k.qid.path : Int)) := Blk.cell hk 15
  have z0 : w.frozen? ⟨c, 13, none⟩ = false := Blk.frozen hk 13
  have z1 : w.frozen? ⟨c, 14, none⟩ = false := Blk.frozen hk 14
  have z2 : w.frozen? ⟨c, 15, none⟩ = false := Blk.frozen hk 15
  clear hk ho hm
  go_enter Tryz.func174, Tryz.ntmps174
  go_wp2_with fail
  go_end0
  exact ⟨rfl, HE.out⟩
set_option maxRecDepth 100000 in
theorem move_names {w : World} {c q base : Nat} {k m : Mg} {xn xq xd vn vq vd : Value} (hk : MBlk w c k xn xq xd) (ho : OL w base k xn xq xd) (hm : MBlk w q m vn vq vd) (hl : Lists w w.heap.size m vn vq vd) (hz : m.small) (hbase : base ≤ w.heap.size) :
    Calls Tryz.prog 214 #[.pointer (some ⟨c, 0, none⟩), .pointer (some ⟨q, 0, none⟩)] w fun e w' => e = .returned (.tuple #[]) ∧ MoveR c base (k.move m .names) w w' := by
  have HC := Lib.hid (cloneStr_calls vn m.names hl.n hz.names)
  have HK := Lib.hid (And.intro hk (And.intro ho hbase))
  have k0 : w.cell? ⟨q, 11, none⟩ = some vn := Blk.cell hm 11
  obtain ⟨A0, c0, e0, -, -, -⟩ := hl.n
  rw [e0] at HC k0
  clear hk ho hm hl hz hbase e0
  go_enter Tryz.func214, Tryz.ntmps214
  go_wp2_with fail
  refine HC.out.mono ?_
  rintro e w1 ⟨⟨v, rfl, hv⟩, hb⟩
  have HK1 := Lib.hid (Blk.below HK.out.1 hb (Blk.lt HK.out.1))
  have HOL := Lib.hid (HK.out.2.1.below hb)
  have HV := Lib.hid (own_down hv HK.out.2.2)
  have HB := Lib.hid hb
  have k1 : w1.cell? ⟨c, 11, none⟩ = some xn := Blk.cell HK1.out 11
  have z1 : w1.frozen? ⟨c, 11, none⟩ = false := Blk.frozen HK1.out 11
  obtain ⟨A, cap, rfl, hc, hmx⟩ := own_len hv
  clear hb hv hc hmx k0
  go_wp2_with fail
  go_end0
  exact ⟨rfl, MoveR.end_ (k' := k.move m .names) HK1.out ⟨HV.out, HOL.out.q, HOL.out.d⟩ HB.out (MBlk.set_ HK1.out _ _ (set_names ..)) (set_off ..)⟩
set_option maxRecDepth 100000 in
theorem move_qids {w : World} {c q base : Nat} {k m : Mg} {xn xq xd vn vq vd : Value} (hk : MBlk w c k xn xq xd) (ho : OL w base k xn xq xd) (hm : MBlk w q m vn vq vd) (hl : Lists w w.heap.size m vn vq vd) (hz : m.small) (hbase : base ≤ w.heap.size) :
    Calls Tryz.prog 227 #[.pointer (some ⟨c, 0, none⟩), .pointer (some ⟨q, 0, none⟩)] w fun e w' => e = .returned (.tuple #[]) ∧ MoveR c base (k.move m .qids) w w' := by
  have HC := Lib.hid (cloneQid_calls vq m.qids hl.q hz.qids)
  have HK := Lib.hid (And.intro hk (And.intro ho hbase))
  have k0 : w.cell? ⟨q, 12, none⟩ = some vq := Blk.cell hm 12
  obtain ⟨A0, c0, e0, -, -, -⟩ := hl.q
  rw [e0] at HC k0
  clear hk ho hm hl hz hbase e0
  go_enter Tryz.func227, Tryz.ntmps227
  go_wp2_with fail
  refine HC.out.mono ?_
  rintro e w1 ⟨⟨v, rfl, hv⟩, hb⟩
  have HK1 := Lib.hid (Blk.below HK.out.1 hb (Blk.lt HK.out.1))
  have HOL := Lib.hid (HK.out.2.1.below hb)
  have HV := Lib.hid (own_down hv HK.out.2.2)
  have HB := Lib.hid hb
  have k1 : w1.cell? ⟨c, 12, none⟩ = some xq := Blk.cell HK1.out 12
  have z1 : w1.frozen? ⟨c, 12, none⟩ = false := Blk.frozen HK1.out 12
  obtain ⟨A, cap, rfl, hc, hmx⟩ := own_len hv
  clear hb hv hc hmx k0
  go_wp2_with fail
  go_end0
  exact ⟨rfl, MoveR.end_ (k' := k.move m .qids) HK1.out ⟨HOL.out.n, HV.out, HOL.out.d⟩ HB.out (MBlk.set_ HK1.out _ _ (set_qids ..)) (set_off ..)⟩
set_option maxRecDepth 100000 in
theorem move_data {w : World} {c q base : Nat} {k m : Mg} {xn xq xd vn vq vd : Value} (hk : MBlk w c k xn xq xd) (ho : OL w base k xn xq xd) (hm : MBlk w q m vn vq vd) (hl : Lists w w.heap.size m vn vq vd) (hz : m.small) (hbase : base ≤ w.heap.size) :
    Calls Tryz.prog 164 #[.pointer (some ⟨c, 0, none⟩), .pointer (some ⟨q, 0, none⟩)] w fun e w' => e = .returned (.tuple #[]) ∧ MoveR c base (k.move m .data) w w' := by
  have HC := Lib.hid (cloneU8_calls vd m.data hl.d hz.data)
  have HK := Lib.hid (And.intro hk (And.intro ho hbase))
  have k0 : w.cell? ⟨q, 22, none⟩ = some vd := Blk.cell hm 22
  obtain ⟨A0, c0, e0, -, -, -⟩ := hl.d
  rw [e0] at HC k0
  clear hk ho hm hl hz hbase e0
  go_enter Tryz.func164, Tryz.ntmps164
  go_wp2_with fail
  refine HC.out.mono ?_
  rintro e w1 ⟨⟨v, rfl, hv⟩, hb⟩
  have HK1 := Lib.hid (Blk.below HK.out.1 hb (Blk.lt HK.out.1))
  have HOL := Lib.hid (HK.out.2.1.below hb)
  have HV := Lib.hid (own_down hv HK.out.2.2)
  have HB := Lib.hid hb
  have k1 : w1.cell? ⟨c, 22, none⟩ = some xd := Blk.cell HK1.out 22
  have z1 : w1.frozen? ⟨c, 22, none⟩ = false := Blk.frozen HK1.out 22
  obtain ⟨A, cap, rfl, hc, hmx⟩ := own_len hv
  clear hb hv hc hmx k0
  go_wp2_with fail
  go_end0
  exact ⟨rfl, MoveR.end_ (k' := k.move m .data) HK1.out ⟨HOL.out.n, HOL.out.q, HV.out⟩ HB.out (MBlk.set_ HK1.out _ _ (set_data ..)) (set_off ..)⟩
set_option maxRecDepth 100000 in
theorem move_stat {w : World} {c q base : Nat} {k m : Mg} {xn xq xd vn vq vd : Value} (hk : MBlk w c k xn xq xd) (ho : OL w base k xn xq xd) (hm : MBlk w q m vn vq vd) :
    Calls Tryz.prog 238 #[.pointer (some ⟨c, 0, none⟩), .pointer (some ⟨q, 0, none⟩)] w fun e w' => e = .returned (.tuple #[]) ∧ MoveR c base (k.move m .stat) w w' := by
  have HK := Lib.hid (And.intro hk ho)
  have HM := Lib.hid hm
  clear hk ho hm
  go_enter Tryz.func238, Tryz.ntmps238
  go_wp2_with (first | (refine wlw HM.out 23 (stL m.stat) rfl rfl _ _ rfl rfl _ Tryz.underlying39 rfl stat_size ?_) | (refine wstK HK.out.1 23 (stL m.stat) _ (over_stat ..) (Nat.le_refl 36) (stL_one _) rfl _ _ _ rfl rfl rfl stat_size ?_; intro w2 hs hoo; have HMX := Lib.hid hs; have HOX := Lib.hid (hoo (fun i => i = c) rfl w (Off.refl _ _)); clear hs hoo))
  go_end0
  exact ⟨rfl, MoveR.end_ (k' := k.move m .stat) HK.out.1 ⟨HK.out.2.n, HK.out.2.q, HK.out.2.d⟩ (Below.refl _ _) HMX.out HOX.out⟩
theorem blk_ne {w : World} {a b : Nat} {t t' : TypeId} {xs ys : Array Value} (h : Blk w a t xs) (h' : Blk w b t' ys) (ht : t ≠ t') : a ≠ b := fun e => Blk.noT h ht b _ _ e.symm h'
/-- A field is moved. -/
theorem fmove_calls (f : Fld) {w : World} {c q base : Nat} {k m : Mg} {xn xq xd vn vq vd : Value} (hk : MBlk w c k xn xq xd) (ho : OL w base k xn xq xd) (hm : MBlk w q m vn vq vd) {b : Nat} (hqc : q ≠ c) (hl : Lists w w.heap.size m vn vq vd) (hz : m.small) (hbase : base ≤ w.heap.size) (hc : FCap w f b) :
    Calls Tryz.prog f.km (#[.pointer (some ⟨c, 0, none⟩), .pointer (some ⟨q, 0, none⟩)] ++ f.cap b) w fun e w' => e = .returned (.tuple #[]) ∧ MoveR c base (k.move m f) w w' := by
  cases f
  case msize =>
    refine (num323_calls (x := m.msize) (at_enters .msize rfl) (fun q w => at_calls .msize rfl q w) hqc (blk_ne (hc.2 rfl rfl) hk (by decide)) (Blk.cell (hc.2 rfl rfl) 0) (Blk.cell hm 2) (Blk.cell hk 2) (Blk.frozen hk 2)).mono ?_
    rintro e w' ⟨rfl, w1, hb, rfl⟩
    have hk1 : MBlk w1 c k xn xq xd := Blk.below hk hb (Blk.lt hk)
    have ho1 := ho.below hb
    exact ⟨rfl, MoveR.end_ (k' := k.move m .msize) hk1 ⟨ho1.n, ho1.q, ho1.d⟩ hb (MBlk.set_ hk1 _ _ (set_msize ..)) (set_off ..)⟩
  case version =>
    refine (text4_calls (x := m.version) (at_enters .version rfl) (fun q w => at_calls .version rfl q w) hqc (blk_ne (hc.1 rfl) hk (by decide)) (Blk.cell (hc.1 rfl) 0) (Blk.cell hm 3) (Blk.cell hk 3) (Blk.frozen hk 3)).mono ?_
    rintro e w' ⟨rfl, w1, hb, rfl⟩
    have hk1 : MBlk w1 c k xn xq xd := Blk.below hk hb (Blk.lt hk)
    have ho1 := ho.below hb
    exact ⟨rfl, MoveR.end_ (k' := k.move m .version) hk1 ⟨ho1.n, ho1.q, ho1.d⟩ hb (MBlk.set_ hk1 _ _ (set_version ..)) (set_off ..)⟩
  case afid =>
    refine (num323_calls (x := m.afid) (at_enters .afid rfl) (fun q w => at_calls .afid rfl q w) hqc (blk_ne (hc.2 rfl rfl) hk (by decide)) (Blk.cell (hc.2 rfl rfl) 0) (Blk.cell hm 4) (Blk.cell hk 4) (Blk.frozen hk 4)).mono ?_
    rintro e w' ⟨rfl, w1, hb, rfl⟩
    have hk1 : MBlk w1 c k xn xq xd := Blk.below hk hb (Blk.lt hk)
    have ho1 := ho.below hb
    exact ⟨rfl, MoveR.end_ (k' := k.move m .afid) hk1 ⟨ho1.n, ho1.q, ho1.d⟩ hb (MBlk.set_ hk1 _ _ (set_afid ..)) (set_off ..)⟩
  case uname =>
    refine (text4_calls (x := m.uname) (at_enters .uname rfl) (fun q w => at_calls .uname rfl q w) hqc (blk_ne (hc.1 rfl) hk (by decide)) (Blk.cell (hc.1 rfl) 0) (Blk.cell hm 5) (Blk.cell hk 5) (Blk.frozen hk 5)).mono ?_
    rintro e w' ⟨rfl, w1, hb, rfl⟩
    have hk1 : MBlk w1 c k xn xq xd := Blk.below hk hb (Blk.lt hk)
    have ho1 := ho.below hb
    exact ⟨rfl, MoveR.end_ (k' := k.move m .uname) hk1 ⟨ho1.n, ho1.q, ho1.d⟩ hb (MBlk.set_ hk1 _ _ (set_uname ..)) (set_off ..)⟩
  case aname =>
    refine (text4_calls (x := m.aname) (at_enters .aname rfl) (fun q w => at_calls .aname rfl q w) hqc (blk_ne (hc.1 rfl) hk (by decide)) (Blk.cell (hc.1 rfl) 0) (Blk.cell hm 6) (Blk.cell hk 6) (Blk.frozen hk 6)).mono ?_
    rintro e w' ⟨rfl, w1, hb, rfl⟩
    have hk1 : MBlk w1 c k xn xq xd := Blk.below hk hb (Blk.lt hk)
    have ho1 := ho.below hb
    exact ⟨rfl, MoveR.end_ (k' := k.move m .aname) hk1 ⟨ho1.n, ho1.q, ho1.d⟩ hb (MBlk.set_ hk1 _ _ (set_aname ..)) (set_off ..)⟩
  case ename =>
    refine (text4_calls (x := m.ename) (at_enters .ename rfl) (fun q w => at_calls .ename rfl q w) hqc (blk_ne (hc.1 rfl) hk (by decide)) (Blk.cell (hc.1 rfl) 0) (Blk.cell hm 7) (Blk.cell hk 7) (Blk.frozen hk 7)).mono ?_
    rintro e w' ⟨rfl, w1, hb, rfl⟩
    have hk1 : MBlk w1 c k xn xq xd := Blk.below hk hb (Blk.lt hk)
    have ho1 := ho.below hb
    exact ⟨rfl, MoveR.end_ (k' := k.move m .ename) hk1 ⟨ho1.n, ho1.q, ho1.d⟩ hb (MBlk.set_ hk1 _ _ (set_ename ..)) (set_off ..)⟩
  case oldtag => exact move_oldtag hk ho hm
  case fid =>
    refine (num323_calls (x := m.fid) (at_enters .fid rfl) (fun q w => at_calls .fid rfl q w) hqc (blk_ne (hc.2 rfl rfl) hk (by decide)) (Blk.cell (hc.2 rfl rfl) 0) (Blk.cell hm 9) (Blk.cell hk 9) (Blk.frozen hk 9)).mono ?_
    rintro e w' ⟨rfl, w1, hb, rfl⟩
    have hk1 : MBlk w1 c k xn xq xd := Blk.below hk hb (Blk.lt hk)
    have ho1 := ho.below hb
    exact ⟨rfl, MoveR.end_ (k' := k.move m .fid) hk1 ⟨ho1.n, ho1.q, ho1.d⟩ hb (MBlk.set_ hk1 _ _ (set_fid ..)) (set_off ..)⟩
  case newfid =>
    refine (num323_calls (x := m.newfid) (at_enters .newfid rfl) (fun q w => at_calls .newfid rfl q w) hqc (blk_ne (hc.2 rfl rfl) hk (by decide)) (Blk.cell (hc.2 rfl rfl) 0) (Blk.cell hm 10) (Blk.cell hk 10) (Blk.frozen hk 10)).mono ?_
    rintro e w' ⟨rfl, w1, hb, rfl⟩
    have hk1 : MBlk w1 c k xn xq xd := Blk.below hk hb (Blk.lt hk)
    have ho1 := ho.below hb
    exact ⟨rfl, MoveR.end_ (k' := k.move m .newfid) hk1 ⟨ho1.n, ho1.q, ho1.d⟩ hb (MBlk.set_ hk1 _ _ (set_newfid ..)) (set_off ..)⟩
  case names => exact move_names hk ho hm hl hz hbase
  case qids => exact move_qids hk ho hm hl hz hbase
  case qid => exact move_qid hk ho hm
  case mode => exact move_mode hk ho hm
  case iounit =>
    refine (num323_calls (x := m.iounit) (at_enters .iounit rfl) (fun q w => at_calls .iounit rfl q w) hqc (blk_ne (hc.2 rfl rfl) hk (by decide)) (Blk.cell (hc.2 rfl rfl) 0) (Blk.cell hm 17) (Blk.cell hk 17) (Blk.frozen hk 17)).mono ?_
    rintro e w' ⟨rfl, w1, hb, rfl⟩
    have hk1 : MBlk w1 c k xn xq xd := Blk.below hk hb (Blk.lt hk)
    have ho1 := ho.below hb
    exact ⟨rfl, MoveR.end_ (k' := k.move m .iounit) hk1 ⟨ho1.n, ho1.q, ho1.d⟩ hb (MBlk.set_ hk1 _ _ (set_iounit ..)) (set_off ..)⟩
  case name =>
    refine (text4_calls (x := m.name) (at_enters .name rfl) (fun q w => at_calls .name rfl q w) hqc (blk_ne (hc.1 rfl) hk (by decide)) (Blk.cell (hc.1 rfl) 0) (Blk.cell hm 18) (Blk.cell hk 18) (Blk.frozen hk 18)).mono ?_
    rintro e w' ⟨rfl, w1, hb, rfl⟩
    have hk1 : MBlk w1 c k xn xq xd := Blk.below hk hb (Blk.lt hk)
    have ho1 := ho.below hb
    exact ⟨rfl, MoveR.end_ (k' := k.move m .name) hk1 ⟨ho1.n, ho1.q, ho1.d⟩ hb (MBlk.set_ hk1 _ _ (set_name ..)) (set_off ..)⟩
  case perm =>
    refine (num323_calls (x := m.perm) (at_enters .perm rfl) (fun q w => at_calls .perm rfl q w) hqc (blk_ne (hc.2 rfl rfl) hk (by decide)) (Blk.cell (hc.2 rfl rfl) 0) (Blk.cell hm 19) (Blk.cell hk 19) (Blk.frozen hk 19)).mono ?_
    rintro e w' ⟨rfl, w1, hb, rfl⟩
    have hk1 : MBlk w1 c k xn xq xd := Blk.below hk hb (Blk.lt hk)
    have ho1 := ho.below hb
    exact ⟨rfl, MoveR.end_ (k' := k.move m .perm) hk1 ⟨ho1.n, ho1.q, ho1.d⟩ hb (MBlk.set_ hk1 _ _ (set_perm ..)) (set_off ..)⟩
  case offset => exact move_offset hk ho hm
  case count =>
    refine (num323_calls (x := m.count) (at_enters .count rfl) (fun q w => at_calls .count rfl q w) hqc (blk_ne (hc.2 rfl rfl) hk (by decide)) (Blk.cell (hc.2 rfl rfl) 0) (Blk.cell hm 21) (Blk.cell hk 21) (Blk.frozen hk 21)).mono ?_
    rintro e w' ⟨rfl, w1, hb, rfl⟩
    have hk1 : MBlk w1 c k xn xq xd := Blk.below hk hb (Blk.lt hk)
    have ho1 := ho.below hb
    exact ⟨rfl, MoveR.end_ (k' := k.move m .count) hk1 ⟨ho1.n, ho1.q, ho1.d⟩ hb (MBlk.set_ hk1 _ _ (set_count ..)) (set_off ..)⟩
  case data => exact move_data hk ho hm hl hz hbase
  case stat => exact move_stat hk ho hm
/-- What Clean gives: the clean message, its lists its owner's. -/
def CleanR (m : Mg) (w : World) (e : Ending) (w' : World) : Prop :=
  (∃ vn vq vd, e = .returned (msgV m vn vq vd) ∧ OL w' w.heap.size m vn vq vd) ∧ Below w.heap.size w w'
/-- rowOf, whatever the kind. -/
theorem rowOf_any (k : Nat) (w : World) : Calls Tryz.prog 43 #[.int .u8 (k : Int)] w fun e w' => Below w.heap.size w w' ∧ ∃ kv : Int, ∃ s v b, e = .returned (.tuple #[.agg #[.int .u8 kv, .string s, v], .bool b]) ∧ FldsIn w' w.heap.size w'.heap.size v ((kindF k).getD []) := by
  refine (rowOf_in k w).mono ?_
  rintro e w' ⟨hb, hr⟩
  refine ⟨hb, ?_⟩
  unfold RowS at hr
  cases hk : kindF k with
  | none =>
    rw [hk] at hr
    exact ⟨0, ⟨#[]⟩, .slice none 0 0, false, hr, none, 0, rfl, Nat.le_refl _, Nat.zero_le _, fun k f hf => by simp at hf⟩
  | some fs =>
    rw [hk] at hr
    obtain ⟨v, he, hf⟩ := hr
    exact ⟨(k : Int), _, v, true, he, hf⟩
theorem fs_len {k : Nat} : ((kindF k).getD []).length ≤ 20 := by
  unfold kindF
  split <;> decide
set_option maxRecDepth 100000 in
set_option maxHeartbeats 6400000 in
theorem clean_calls (m : Mg) (vn vq vd : Value) (w : World) (hl : Lists w w.heap.size m vn vq vd) (hz : m.small) :
    Calls Tryz.prog 32 #[msgV m vn vq vd] w (CleanR (clean m) w) := by
  obtain ⟨wq, hwq⟩ : ∃ wq, wq = w.alloc (.cells (msgL m vn vq vd).toArray 41) := ⟨_, rfl⟩
  have hupq : Below w.heap.size w wq := by rw [hwq]; exact (Below.refl _ _).alloc (Nat.le_refl _) _
  have hszq : wq.heap.size = w.heap.size + 1 := by rw [hwq]; exact World.size_alloc _ _
  obtain ⟨w0, hw0⟩ : ∃ w0, w0 = wq.alloc (.cells (mgN (head 0 0)).toArray 41) := ⟨_, rfl⟩
  have hup0 : Below wq.heap.size wq w0 := by rw [hw0]; exact (Below.refl _ _).alloc (Nat.le_refl _) _
  have hsz0 : w0.heap.size = wq.heap.size + 1 := by rw [hw0]; exact World.size_alloc _ _
  have HQ := Lib.hid (show MBlk w0 w.heap.size m vn vq vd from by rw [hw0, hwq]; exact Blk.alloc (Blk.new w _ _) _)
  have HZ := Lib.hid (show MBlk w0 (w.heap.size + 1) (head 0 0) (.slice none 0 0) (.slice none 0 0) (.slice none 0 0) from by rw [← hszq, hw0]; exact Blk.new wq _ _)
  have HB := Lib.hid (hupq.trans (hup0.mono (by omega)))
  have HL := Lib.hid (hl.below HB.out)
  have HSM := Lib.hid hz
  have HSZ := Lib.hid (show w0.heap.size = w.heap.size + 2 from by omega)
  clear hl hz hupq hup0 hsz0 hszq
  unfold msgV
  go_enter Tryz.func32, Tryz.ntmps32
  go_upto_region 1 with (fail)
  change Code.wp _ _ _ _ ((w.alloc (.cells (msgL m vn vq vd).toArray 41)).alloc (.cells (mgN (head 0 0)).toArray 41))
  rw [← hwq, ← hw0]
  clear hwq hw0
  generalize hq : w.heap.size = q at HQ HZ HB HL HSZ ⊢
  have HQQ := Lib.hid hq; clear hq
  have k0 : w0.cell? ⟨q, 0, none⟩ = some (.int .u8 (m.kind : Int)) := Blk.cell HQ.out 0
  have k1 : w0.cell? ⟨q, 1, none⟩ = some (.int .u16 (m.tag : Int)) := Blk.cell HQ.out 1
  have HAL := Lib.hid (World.size_alloc w0 (.cells (mgN (head 0 0)).toArray 41))
  go_upto_region 2 with (change wpList _ _ _ _ _ (w0.alloc (.cells (mgN (head 0 0)).toArray 41)); have HC1 := Lib.hid (show MBlk (w0.alloc (.cells (mgN (head 0 0)).toArray 41)) w0.heap.size (head 0 0) (.slice none 0 0) (.slice none 0 0) (.slice none 0 0) from Blk.new w0 _ _); have HZ1 := Lib.hid (Blk.alloc HZ.out (.cells (mgN (head 0 0)).toArray 41)); have HQ1 := Lib.hid (Blk.alloc HQ.out (.cells (mgN (head 0 0)).toArray 41)); have HB1 := Lib.hid (HB.out.alloc (by have := HSZ.out; omega) (.cells (mgN (head 0 0)).toArray 41)); have HL1 := Lib.hid (HL.out.below ((Below.refl q w0).alloc (by have := HSZ.out; omega) (.cells (mgN (head 0 0)).toArray 41))); clear k0 k1; generalize w0.alloc (.cells (mgN (head 0 0)).toArray 41) = w1 at HC1 HZ1 HQ1 HB1 HL1 HAL ⊢; generalize w0.heap.size = c at HC1 HSZ HAL ⊢; refine wstK HC1.out 0 (mgN (head m.kind m.tag)) _ (over_msg ..) (Nat.le_refl 36) (msg_one _ rfl rfl rfl) rfl _ _ _ rfl rfl rfl msg_size ?_; intro w2 hs ho; have HC2 := Lib.hid (show MBlk w2 c (head m.kind m.tag) (.slice none 0 0) (.slice none 0 0) (.slice none 0 0) from hs); have HZ2 := Lib.hid ((ho (fun i => i = c) rfl w1 (Off.refl _ _)).blk HZ1.out (by have := HSZ.out; omega)); have HQ2 := Lib.hid ((ho (fun i => i = c) rfl w1 (Off.refl _ _)).blk HQ1.out (by have := HSZ.out; omega)); have hbb : Below q w1 w2 := (ho (fun i => i = c) rfl w1 (Off.refl _ _)).below (fun i hi => by have := HSZ.out; omega) (by have := HSZ.out; have := HAL.out; omega); have HB2 := Lib.hid (HB1.out.trans hbb); have HL2 := Lib.hid (HL1.out.below hbb); have HCL := Lib.hid (show c < w2.heap.size from Blk.lt hs); clear hs ho hbb HC1 HZ1 HQ1 HB1 HL1)
  have k0 : w2.cell? ⟨q, 0, none⟩ = some (.int .u8 (m.kind : Int)) := Blk.cell HQ2.out 0
  clear HQ HZ HB HL
  go_wp2_with fail
  refine (rowOf_any m.kind w2).mono ?_
  rintro e w3 ⟨hb, kv, s, v, bb, rfl, hf⟩
  have hup : Below w2.heap.size w2 (w3.alloc (.cells #[.int .u8 kv, .string s, v] 79)) := hb.alloc hb.size _
  have HR4 := Lib.hid (Blk.new w3 79 #[.int .u8 kv, .string s, v])
  have HC4 := Lib.hid (Blk.below HC2.out hup (Blk.lt HC2.out))
  have HZ4 := Lib.hid (Blk.below HZ2.out hup (Blk.lt HZ2.out))
  have HQ4 := Lib.hid (Blk.below HQ2.out hup (Blk.lt HQ2.out))
  have hq2 : q ≤ w2.heap.size := by have := Blk.lt HQ2.out; omega
  have HB4 := Lib.hid (HB2.out.trans (hup.mono hq2))
  have HL4 := Lib.hid (HL2.out.below (hup.mono hq2))
  have HF4 := Lib.hid (hf.keep fun i _ hi => Below.heap_alloc w3 (.cells #[.int .u8 kv, .string s, v] 79) i hi)
  have HS4 := Lib.hid (World.size_alloc w3 (.cells #[.int .u8 kv, .string s, v] 79))
  have HW3 := Lib.hid (show q < c ∧ q + 1 < c ∧ c < w2.heap.size ∧ w2.heap.size ≤ w3.heap.size from by have := HSZ.out; have := HCL.out; have := hb.size; omega)
  obtain ⟨fA, fc, rfl, hfc, hfm, -⟩ := hf
  have hfl20 := fs_len (k := m.kind)
  generalize hfs : (kindF m.kind).getD [] = fs at *
  have HFS := Lib.hid (show clean m = fs.foldl (fun c f => c.move m f) (head m.kind m.tag) from by rw [← hfs]; rfl)
  clear hb hup hq2 k0 hfs HC2 HZ2 HQ2 HB2 HL2
  go_upto_region 3 with (fail)
  generalize w3.alloc (.cells #[.int .u8 kv, .string s, .slice fA fs.length fc] 79) = w4 at HR4 HC4 HZ4 HQ4 HB4 HL4 HF4 HS4 ⊢
  generalize w3.heap.size = rb at HR4 HF4 HS4 HW3 ⊢
  have k2 : w4.cell? ⟨rb, 2, none⟩ = some (.slice fA fs.length fc) := Blk.cell HR4.out 2
  go_upto_region 4 with (fail)
  clear k2
  go_loopw [7, 22] (fun _ i wr => ∃ j : Nat, j ≤ fs.length ∧ i = .int .i64 j ∧ MoveR c q ((fs.take j).foldl (fun c f => c.move m f) (head m.kind m.tag)) w4 wr) (fun _ i _ => fs.length - (intOf i).toNat)
  case atStart => exact ⟨0, by omega, rfl, ⟨_, _, _, HC4.out, OL.nil_ ..⟩, Off.refl _ _⟩
  case round =>
    obtain ⟨j, hj, rfl, ⟨xn, xq, xd, hmb, hol⟩, ho⟩ := hrel
    have HMR := Lib.hid hmb
    have HOL := Lib.hid hol
    have HOR := Lib.hid ho
    have HBQ := Lib.hid (ho.below (B := q) (fun i hi => by have := HW3.out; have hi : i = c := hi; omega) (by have := HW3.out; have := HS4.out; omega))
    clear hmb hol ho
    by_cases hlt : j < fs.length
    · obtain ⟨f, hf⟩ : ∃ f, fs[j]? = some f := ⟨fs[j], List.getElem?_eq_getElem _⟩
      obtain ⟨ad, rfl, kx⟩ := (HF4.out.keep fun i hlo hi => HOR.out.block i (by have := HS4.out; omega) (by have := HW3.out; omega)).at_ hf
      have HFF := Lib.hid (show (fs.take (j + 1)).foldl (fun c f => c.move m f) (head m.kind m.tag) = ((fs.take j).foldl (fun c f => c.move m f) (head m.kind m.tag)).move m f from by
        rw [List.take_add_one, hf, Option.toList_some, List.foldl_append]
        rfl)
      generalize (fs.take j).foldl (fun c f => c.move m f) (head m.kind m.tag) = T at HMR HOL HFF ⊢
      clear hf
      go_wp2_with fail
      refine (fieldOf_plain f wr).mono ?_
      rintro e w5 ⟨rfl, hb, hcap⟩
      have hent := km_enters f
      have hfd := fun a b c d e f' g w => (fld_at a b c d e f' g w).2.2.2.2.1
      have hqw : q ≤ wr.heap.size := by have := HBQ.out.size; have := HW3.out; have := HS4.out; omega
      have HMV := Lib.hid (fmove_calls f (Blk.below HMR.out hb (Blk.lt HMR.out)) (HOL.out.below hb) (Blk.below (HOR.out.blk HQ4.out (by have := HW3.out; omega)) hb (Blk.lt (HOR.out.blk HQ4.out (by have := HW3.out; omega)))) (by have := HW3.out; omega) (((HL4.out.below HBQ.out).below (hb.mono hqw)).more (by have := hb.size; omega)) HSM.out (by have := hb.size; omega) hcap)
      have HO5 := Lib.hid (HOR.out.trans (Off.of_below hb))
      clear hb hcap kx HMR HOL hqw
      go_wp2_with fail
      refine HMV.out.mono ?_
      rintro e w6 ⟨rfl, hmm, ho⟩
      have HM6 := Lib.hid hmm
      have HO6 := Lib.hid (HO5.out.trans ho)
      clear hmm ho hent hfd
      go_wp2_with fail
      go_roundw
      case rel =>
        refine ⟨j + 1, by omega, by go_num, ?_, HO6.out⟩
        rw [HFF.out]
        exact HM6.out
      case measure => simp [intOf]; omega
    · have hjl : j = fs.length := by omega
      subst hjl
      rw [List.take_length, ← HFS.out] at HMR HOL
      have HON := Lib.hid (And.intro (own_one HOL.out.n) (And.intro (own_one HOL.out.q) (own_one HOL.out.d)))
      have HZR := Lib.hid (HOR.out.blk HZ4.out (by have := HW3.out; omega))
      have HBR := Lib.hid (HB4.out.trans HBQ.out)
      clear HOR HBQ HFS HF4 HR4 HC4 HZ4 HQ4 HL4 HB4
      generalize hT : clean m = T at HMR HOL ⊢
      have HT := Lib.hid hT; clear hT
      go_wp2_with (first | (refine wlw HMR.out 0 (msgL T xn xq xd) rfl rfl _ _ rfl rfl _ Tryz.underlying41 rfl msg_size ?_) | (refine wstK HZR.out 0 (msgL T xn xq xd) _ (over_msg ..) (Nat.le_refl 36) (msg_one _ HON.out.1 HON.out.2.1 HON.out.2.2) rfl _ _ _ rfl rfl rfl msg_size ?_; intro wz hs ho; have HZF := Lib.hid hs; have HBF := Lib.hid (HBR.out.trans ((ho (fun i => i = q + 1) rfl wr (Off.refl _ _)).below (fun i hi => by omega) (by have := Blk.lt HZR.out; omega))); have HLF := Lib.hid (HOL.out.mblk HZR.out (ho (fun i => i = q + 1) rfl wr (Off.refl _ _))); clear hs ho))
      refine bodyPost_ret (results_row (l := msgL T xn xq xd) rfl Tryz.underlying41 rfl msg_size rfl HZF.out) rfl ?_
      have hq := HQQ.out
      rw [HT.out]
      exact ⟨⟨_, _, _, rfl, by rw [hq]; exact HLF.out⟩, by rw [hq]; exact HBF.out⟩
set_option maxRecDepth 100000 in
theorem size_calls (m : Mg) (vn vq vd : Value) (w : World) (ho : m.ok) (hl : Lists w w.heap.size m vn vq vd) (hr : Ready w) (hz : m.small) :
    Calls Tryz.prog 31 #[msgV m vn vq vd] w fun e w' => e = .returned (.int .i64 ((enc m).1.length : Int)) ∧ Below w.heap.size w w' := by
  obtain ⟨wq, hwq⟩ : ∃ wq, wq = w.alloc (.cells (msgL m vn vq vd).toArray 41) := ⟨_, rfl⟩
  have hupq : Below w.heap.size w wq := by rw [hwq]; exact (Below.refl _ _).alloc (Nat.le_refl _) _
  have HQ := Lib.hid (show MBlk wq w.heap.size m vn vq vd from by rw [hwq]; exact Blk.new w _ _)
  have HE := Lib.hid (encode_calls m vn vq vd wq ho ((hl.below hupq).more hupq.size) (hr.below hupq (Nat.le_refl _)) hz)
  have HB := Lib.hid hupq
  clear ho hl hr hz hupq
  unfold msgV
  go_enter Tryz.func31, Tryz.ntmps31
  go_upto_region 1 with (fail)
  change Code.wp _ _ _ _ (w.alloc (.cells (msgL m vn vq vd).toArray 41))
  rw [← hwq]
  clear hwq
  generalize hq : w.heap.size = q at HQ HB ⊢
  have HQQ := Lib.hid hq; clear hq
  go_wp2_with (refine wlw HQ.out 0 (msgL m vn vq vd) rfl rfl _ _ rfl rfl _ Tryz.underlying41 rfl msg_size ?_)
  refine HE.out.mono ?_
  rintro e w1 ⟨⟨v, rfl, hv⟩, hb⟩
  have HB1 := Lib.hid (HB.out.trans (hb.mono (by have := HB.out.size; have := HQQ.out; omega)))
  obtain ⟨A, c, rfl, -⟩ := own_len hv
  have hq := HQQ.out
  clear hb hv
  rw [← hq] at HB1
  clear hq HB HQQ
  go_wp2_with fail
  go_ret
  exact ⟨rfl, HB1.out⟩
end Go.Proofs.YtkblmloobkiloaaGreatDoor
