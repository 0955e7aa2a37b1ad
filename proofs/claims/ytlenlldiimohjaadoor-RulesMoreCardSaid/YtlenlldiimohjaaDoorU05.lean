/-
  Package users: account.
-/
import Derived.Test.YtlenlldiimohjaaDoorU04
import Derived.Test.YtlenlldiimohjaaDoorUCut
import Derived.Test.YtlenlldiimohjaaDoorR06e
namespace Go.Proofs.YtlenlldiimohjaaDoor
open Go.ChangeShapes Go.WideShapes Go.ChangeAt Go.RowKit

theorem cut_size_le (c : UInt8) (s : ByteArray) : (cut c s).length ≤ s.size + 1 := by
  have h := cutL_sum c s.data.toList
  have key : ∀ l : List (List UInt8), l.length ≤ (l.map (fun x => x.length + 1)).sum := by
    intro l
    induction l with
    | nil => simp
    | cons a l ih => simp; omega
  have := key (cutL c s.data.toList)
  rw [h] at this
  unfold cut
  simpa using this

theorem split_calls (s : ByteArray) (c : UInt8) (w : World) (hr : Ready w) (hs : s.size ≤ 16777216) :
    Calls Tryd.prog 60 #[.string s, .string ⟨#[c]⟩] w fun e w' => ∃ v, e = .returned v ∧ Strs w' v (cut c s) ∧ Below w.heap.size w w' := by
  obtain ⟨-, m, hm⟩ := hr
  refine (Tryd.strings_Split s ⟨#[c]⟩ m w (by omega) hm (Nat.le_refl _)).mono ?_
  rintro e w' ⟨rfl, rfl⟩
  have hl : (cut c s).length = Lib.countB s ⟨#[c]⟩ + 1 := by
    rw [← splitB_cut, Lib.splitB_all _ (Nat.le_refl _) 0 _ s rfl]
  refine ⟨_, rfl, ?_, (Below.refl _ _).alloc (Nat.le_refl _) _⟩
  rw [← hl, splitB_cut]
  have hc := cut_size_le c s
  refine Strs.new w _ _ _ _ (Nat.le_refl _) (by unfold maxLen; omega) ?_
  intro j u hu
  simpa using hu

/-- What the program's reader of a line does. -/
def UAns (line : ByteArray) (w : World) (e : Ending) (w' : World) : Prop :=
  Below w.heap.size w w' ∧ match account line with
    | none => e = gaveUp 60
    | some a => ∃ mv, e = .returned (acctV a mv) ∧ Strs w' mv a.members
theorem UAns.none_ {line : ByteArray} {w w' : World} (h : account line = none) (hb : Below w.heap.size w w') : UAns line w (gaveUp 60) w' := by
  refine ⟨hb, ?_⟩
  rw [h]

set_option maxRecDepth 100000 in
set_option maxHeartbeats 1600000 in
theorem account_calls (line : ByteArray) (w : World) (hr : Ready w) (hs : line.size ≤ 16777216) :
    Calls Tryd.prog 61 #[.string line] w (UAns line w) := by
  have HR := Lib.hid hr; clear hr
  go_enter Tryd.func61, Tryd.ntmps61
  go_wp2_with fail
  refine (split_calls line 58 _ (HR.out.alloc _) hs).mono ?_
  rintro e w1 ⟨v, rfl, hv, hb⟩
  rw [World.size_alloc] at hb
  have hb1 : Below w.heap.size w w1 := ((Below.refl _ _).alloc (Nat.le_refl _) _).trans (hb.mono (by omega))
  have hr0 : Blk w1 w.heap.size 104 #[.string ⟨#[]⟩, .string ⟨#[]⟩, .slice none 0 0, .string ⟨#[]⟩] := (hb.block _ (by omega)).trans (Blk.new _ _ _)
  have hz1 : w.heap.size + 1 ≤ w1.heap.size := by have := hb.size; simpa using this
  clear hb
  have HB1 := Lib.hid hb1; clear hb1
  have HR0 := Lib.hid hr0; clear hr0
  have HV := Lib.hid hv; clear hv
  have HRY1 := Lib.hid (HR.out.below HB1.out (Nat.le_refl _))
  generalize hcut : cut 58 line = l at HV
  have HCUT := Lib.hid hcut; clear hcut
  obtain ⟨A, c, rfl, hlc, hcm, -⟩ := HV.out
  unfold maxLen at hcm
  by_cases h4 : l.length = 4
  · obtain ⟨x0, x1, x2, x3, rfl⟩ : ∃ x0 x1 x2 x3, l = [x0, x1, x2, x3] := by
      match l, h4 with
      | [a, b, c, d], _ => exact ⟨a, b, c, d, rfl⟩
    clear h4
    obtain ⟨g, o, c', hv, _, c0⟩ := HV.out.at_ (k := 0) rfl
    injection hv with e1 _ e3
    subst e1; subst e3
    obtain ⟨g', o', c', hv, _, c1⟩ := HV.out.at_ (k := 1) rfl
    injection hv with e1 _ e3
    injection e1 with e1
    injection e1 with e1 e2
    subst e1; subst e2; clear e3
    obtain ⟨g', o', c', hv, _, c2⟩ := HV.out.at_ (k := 2) rfl
    injection hv with e1 _ e3
    injection e1 with e1
    injection e1 with e1 e2
    subst e1; subst e2; clear e3
    obtain ⟨g', o', c', hv, _, c3⟩ := HV.out.at_ (k := 3) rfl
    injection hv with e1 _ e3
    injection e1 with e1
    injection e1 with e1 e2
    subst e1; subst e2; clear e3
    simp only [List.length_cons, List.length_nil, Nat.zero_add, Nat.reduceAdd, Nat.add_zero] at hlc c0 ⊢
    have hgl : g < w1.heap.size := World.block_lt_of_cell? w1 _ c0
    go_wp2_with (go_at_call 62; refine (need_t 60 _).mono ?_; rintro e w' ⟨rfl, rfl⟩)
    go_region
    have hb2 : Below w.heap.size w (w1.alloc (Obj.cells #[.string x0, .string x1, .slice none 0 0, .string x3] 104)).drew := (HB1.out.alloc HB1.out.size _).drew
    have ha2 : Blk (w1.alloc (Obj.cells #[.string x0, .string x1, .slice none 0 0, .string x3] 104)).drew w1.heap.size 104 #[.string x0, .string x1, .slice none 0 0, .string x3] := Blk.new w1 _ _
    have hr2 : Blk (w1.alloc (Obj.cells #[.string x0, .string x1, .slice none 0 0, .string x3] 104)).drew w.heap.size 104 #[.string ⟨#[]⟩, .string ⟨#[]⟩, .slice none 0 0, .string ⟨#[]⟩] := HR0.out.alloc _
    have hc2 : (w1.alloc (Obj.cells #[.string x0, .string x1, .slice none 0 0, .string x3] 104)).drew.cell? ⟨g, o + 2, none⟩ = some (.string x2) := (World.cell?_alloc_lt _ _ _ hgl).trans c2
    have HRY2 := Lib.hid (show Ready (w1.alloc (Obj.cells #[.string x0, .string x1, .slice none 0 0, .string x3] 104)).drew from HRY1.out.alloc _)
    clear c0 c1 c2 c3 HR0 HV HRY1
    generalize (w1.alloc (Obj.cells #[.string x0, .string x1, .slice none 0 0, .string x3] 104)).drew = w2 at hb2 ha2 hr2 hc2 HRY2 ⊢
    generalize hB1 : w1.heap.size = b1 at ha2 hgl hz1 ⊢
    have hwb : w.heap.size < b1 := hz1
    clear hB1 HB1 hz1 hgl
    have HB2 := Lib.hid hb2; clear hb2
    have HA2 := Lib.hid ha2; clear ha2
    have HR2 := Lib.hid hr2; clear hr2
    have hx2s : x2.size ≤ 16777216 := Nat.le_trans (cut_size (c := 58) (s := line) (by rw [HCUT.out]; simp)) hs
    go_upto_if 24 with (fail)
    go_cut [] (fun wx => ∃ mv, Blk wx b1 104 #[.string x0, .string x1, mv, .string x3] ∧ Strs wx mv (if x2.size = 0 then [] else cut 44 x2) ∧ Blk wx w.heap.size 104 #[.string ⟨#[]⟩, .string ⟨#[]⟩, .slice none 0 0, .string ⟨#[]⟩] ∧ Below w.heap.size w wx)
    case first =>
      by_cases hz : x2.size = 0
      · have he := empty_t hz
        have HZ := Lib.hid hz; clear hz
        rw [he]
        clear he
        go_wp2_with fail
        go_meet
        case rel => exact ⟨.slice none 0 0, HA2.out, by rw [if_pos HZ.out]; exact Strs.nil_ _, HR2.out, HB2.out⟩
      · have he := empty_f hz
        have HZ := Lib.hid hz; clear hz
        rw [he]
        clear he
        go_wp2_with fail
        refine (split_calls x2 44 _ HRY2.out hx2s).mono ?_
        rintro e w3 ⟨v3, rfl, hv3, hb3⟩
        have HA3 := Lib.hid (HA2.out.below hb3 HA2.out.lt)
        have HR3 := Lib.hid (HR2.out.below hb3 HR2.out.lt)
        have HB3 := Lib.hid (HB2.out.trans (hb3.mono HB2.out.size))
        clear hb3 hc2 HA2 HR2 HB2
        obtain ⟨A3, c3, rfl, -⟩ := id hv3
        have HV3 := Lib.hid hv3; clear hv3
        have d2 : w3.cell? ⟨b1, 2, none⟩ = some (.slice none 0 0) := HA3.out.cell 2
        have f2 := HA3.out.frozen 2
        go_wp2_with fail
        go_meet
        case rel =>
          refine ⟨_, HA3.out.set_ 2 _, ?_, HR3.out.far (by show w.heap.size ≠ b1; omega) _, HB3.out.setCell (Nat.le_of_lt hwb) _⟩
          rw [if_neg HZ.out]
          exact HV3.out.set_acct HA3.out _ _
    case rest =>
      obtain ⟨mv, ha3, hm3, hr3, hb3⟩ := hcut
      clear HB2 HA2 HR2 hc2
      generalize hms : (if x2.size = 0 then [] else cut 44 x2) = ms at hm3
      have hacc : account line = if formed ⟨x0, x1, ms, x3⟩ then some ⟨x0, x1, ms, x3⟩ else none := by
        unfold account
        rw [HCUT.out, ← hms]
      have hx3s : x3.size ≤ 1099511627776 := by
        have := cut_size (c := 58) (s := line) (x := x3) (by rw [HCUT.out]; simp)
        omega
      have HACC := Lib.hid hacc; clear hacc
      clear hms HCUT
      have hwc : b1 < wc.heap.size := ha3.lt
      have HA3 := Lib.hid ha3; clear ha3
      have HR3 := Lib.hid hr3; clear hr3
      have HB3 := Lib.hid hb3; clear hb3
      obtain ⟨Am, cm, hmv, -⟩ := id hm3
      subst hmv
      have HM3 := Lib.hid hm3; clear hm3
      have HRYC := Lib.hid (HR.out.below HB3.out (Nat.le_refl _))
      have a0 : wc.cell? ⟨b1, 0, none⟩ = some (.string x0) := HA3.out.cell 0
      have a1 : wc.cell? ⟨b1, 1, none⟩ = some (.string x1) := HA3.out.cell 1
      have a2 : wc.cell? ⟨b1, 2, none⟩ = some (.slice Am ms.length cm) := HA3.out.cell 2
      have a3 : wc.cell? ⟨b1, 3, none⟩ = some (.string x3) := HA3.out.cell 3
      go_wp2_with fail
      refine (formed_calls ⟨x0, x1, ms, x3⟩ (.slice Am ms.length cm) _ HM3.out HRYC.out hx3s).mono ?_
      rintro e w4 ⟨rfl, hb4⟩
      clear a0 a1 a2 a3
      have HA4 := Lib.hid (HA3.out.below hb4 HA3.out.lt)
      have HR4 := Lib.hid (HR3.out.below hb4 HR3.out.lt)
      have HM4 := Lib.hid (HM3.out.below hb4 (Nat.le_refl _))
      have HB4 := Lib.hid (HB3.out.trans (hb4.mono HB3.out.size))
      clear hb4 HA3 HR3 HM3 HB3
      have a0 : w4.cell? ⟨b1, 0, none⟩ = some (.string x0) := HA4.out.cell 0
      have a1 : w4.cell? ⟨b1, 1, none⟩ = some (.string x1) := HA4.out.cell 1
      have a2 : w4.cell? ⟨b1, 2, none⟩ = some (.slice Am ms.length cm) := HA4.out.cell 2
      have a3 : w4.cell? ⟨b1, 3, none⟩ = some (.string x3) := HA4.out.cell 3
      have r0 : w4.cell? ⟨w.heap.size, 0, none⟩ = some (.string ⟨#[]⟩) := HR4.out.cell 0
      have r1 : w4.cell? ⟨w.heap.size, 1, none⟩ = some (.string ⟨#[]⟩) := HR4.out.cell 1
      have r2 : w4.cell? ⟨w.heap.size, 2, none⟩ = some (.slice none 0 0) := HR4.out.cell 2
      have r3 : w4.cell? ⟨w.heap.size, 3, none⟩ = some (.string ⟨#[]⟩) := HR4.out.cell 3
      have f0 := HR4.out.frozen 0
      have f1 := HR4.out.frozen 1
      have f2 := HR4.out.frozen 2
      have f3 := HR4.out.frozen 3
      cases hfm : formed ⟨x0, x1, ms, x3⟩ with
      | false =>
        have HN := Lib.hid (show account line = none from by rw [HACC.out, hfm]; rfl)
        clear hfm HACC
        exact ⟨rfl, UAns.none_ HN.out HB4.out⟩
      | true =>
        have HN := Lib.hid (show account line = some ⟨x0, x1, ms, x3⟩ from by rw [HACC.out, hfm]; rfl)
        clear hfm HACC
        rw [← said_t (b := true) rfl 60]
        go_wp2_with fail
        refine bodyPost_ret (v := .agg #[.string x0, .string x1, .slice Am ms.length cm, .string x3]) (by simp [results, Tryd.results61, go_sem, r0, r1, r2, r3]) rfl ?_
        refine ⟨(((HB4.out.setCell (Nat.le_refl _) _).setCell (Nat.le_refl _) _).setCell (Nat.le_refl _) _).setCell (Nat.le_refl _) _, ?_⟩
        rw [HN.out]
        exact ⟨_, rfl, (((HM4.out.set_acct HR4.out _ _).set_acct (HR4.out.set_ _ _) _ _).set_acct ((HR4.out.set_ _ _).set_ _ _) _ _).set_acct (((HR4.out.set_ _ _).set_ _ _).set_ _ _) _ _⟩
  · have hacc : account line = none := by
      unfold account
      rw [HCUT.out]
      match l, h4 with
      | [], _ => rfl
      | [_], _ => rfl
      | [_, _], _ => rfl
      | [_, _, _], _ => rfl
      | [_, _, _, _], h => exact absurd rfl h
      | _ :: _ :: _ :: _ :: _ :: _, _ => rfl
    have HACC := Lib.hid hacc; clear hacc
    have hne : ((l.length : Int) == 4) = false := by rw [beq_eq_false_iff_ne]; omega
    clear HCUT
    go_wp2_with fail
    refine (need_f 60 _).mono ?_
    rintro e w2 ⟨rfl, rfl⟩
    exact ⟨rfl, UAns.none_ HACC.out HB1.out⟩
end Go.Proofs.YtlenlldiimohjaaDoor
