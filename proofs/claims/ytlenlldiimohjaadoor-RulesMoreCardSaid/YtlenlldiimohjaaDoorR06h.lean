/-
  The reference of layer 6: Parse. Condition: none.
-/
import Derived.Test.YtlenlldiimohjaaDoorR06g
import Derived.Test.YtlenlldiimohjaaDoorUOwn
import Derived.StillTailTactics
import Derived.OwnWalk
namespace Go.Proofs.YtlenlldiimohjaaDoor
open Go.ChangeShapes Go.WideShapes Go.ChangeAt Go.RowKit

theorem acct_info : (Tryd.prog.info? 104).map (fun i => (i.zero, i.size, i.bytes)) = some (some (.agg #[.string ByteArray.empty, .string ByteArray.empty, .slice none 0 0, .string ByteArray.empty]), 4, 72) := by kernel_rfl
theorem int_info : (Tryd.prog.info? 3).map (fun i => (i.zero, i.size, i.bytes)) = some (some (.int .i64 0), 1, 8) := by kernel_rfl

/-- The reference's table of the accounts L lies at g. -/
def RTab (w : World) (g : Nat) (L : List Acct) : Prop := ∃ v, Blk w g 117 #[v] ∧ Accts w v L

/-- What the reference's Parse gives back. -/
def RParsed (s : ByteArray) (w : World) (e : Ending) (w' : World) : Prop :=
  Below w.heap.size w w' ∧ match parse s with
    | .error (er, ln) => e = .returned (.tuple #[.pointer none, .int .i64 er, .int .i64 (ln : Int)])
    | .ok L => ∃ g, w.heap.size ≤ g ∧ e = .returned (.tuple #[.pointer (some ⟨g, 0, none⟩), .int .i64 0, .int .i64 0]) ∧ RTab w' g L

theorem readLines_skip {l : ByteArray} {rest : List ByteArray} {i : Nat} {L : List Acct} {P : List Nat} (h : l.size = 0 ∨ l.data.toList.head? = some 35) : readLines (l :: rest) i L P = readLines rest (i + 1) L P := by
  rw [readLines, if_pos h]
theorem readLines_bad {l : ByteArray} {rest : List ByteArray} {i : Nat} {L : List Acct} {P : List Nat} (h : ¬ (l.size = 0 ∨ l.data.toList.head? = some 35)) (ha : account l = none) : readLines (l :: rest) i L P = .error (60, i + 1) := by
  rw [readLines, if_neg h, ha]
theorem readLines_twice {l : ByteArray} {rest : List ByteArray} {i : Nat} {L : List Acct} {P : List Nat} {a : Acct} (h : ¬ (l.size = 0 ∨ l.data.toList.head? = some 35)) (ha : account l = some a) (ht : known L a.name = true ∨ twice a.members = true) : readLines (l :: rest) i L P = .error (61, i + 1) := by
  rw [readLines, if_neg h, ha]
  simp only [if_pos ht]
theorem readLines_more {l : ByteArray} {rest : List ByteArray} {i : Nat} {L : List Acct} {P : List Nat} {a : Acct} (h : ¬ (l.size = 0 ∨ l.data.toList.head? = some 35)) (ha : account l = some a) (hk : known L a.name = false) (ht : twice a.members = false) : readLines (l :: rest) i L P = readLines rest (i + 1) (L ++ [a]) (P ++ [i + 1]) := by
  rw [readLines, if_neg h, ha]
  simp only [hk, ht, Bool.false_eq_true, or_self, if_false]

theorem cut_length (c : UInt8) (s : ByteArray) : (cut c s).length ≤ s.size + 1 := by
  have key : ∀ l : List UInt8, (cutL c l).length ≤ l.length + 1 := by
    intro l
    induction l with
    | nil => simp [cutL]
    | cons b l ih =>
      unfold cutL
      split
      · simp; omega
      · split
        · simp
        · rename_i h t he
          rw [he] at ih
          simp at ih ⊢
          omega
  have := key s.data.toList
  unfold cut
  simpa using this

theorem head35 {x : ByteArray} (h : 0 < x.size) (hb : ((x[0].toNat : Int) == 35) = true) : x.data.toList.head? = some 35 := by
  have e : x[0].toNat = 35 := by have := beq_iff_eq.1 hb; omega
  have e2 : x[0] = 35 := UInt8.toNat_inj.1 (by rw [e]; rfl)
  rw [List.head?_eq_getElem?, List.getElem?_eq_getElem (by simpa using h)]
  congr 1
theorem head35_no {x : ByteArray} (h : 0 < x.size) (hb : ((x[0].toNat : Int) == 35) = false) : ¬ (x.size = 0 ∨ x.data.toList.head? = some 35) := by
  rintro (h0 | h0)
  · omega
  · rw [List.head?_eq_getElem?, List.getElem?_eq_getElem (by simpa using h)] at h0
    injection h0 with h0
    have : x[0].toNat = 35 := by
      have e : x[0] = 35 := h0
      rw [e]; rfl
    rw [beq_eq_false_iff_ne] at hb
    exact hb (by omega)

theorem parse_err {s : ByteArray} {e : Int × Nat} (h : ¬ 65536 < s.size) (hr : readLines (cut 10 s) 0 [] [] = .error e) : parse s = .error e := by
  unfold parse; rw [if_neg h, hr]
theorem parse_none {s : ByteArray} {L : List Acct} {P : List Nat} {p : Nat} (h : ¬ 65536 < s.size) (hr : readLines (cut 10 s) 0 [] [] = .ok (L, P)) (hc : checkNames L L P = some p) : parse s = .error (62, p) := by
  unfold parse; rw [if_neg h, hr]; simp only [hc]
theorem parse_long {s : ByteArray} {L : List Acct} {P : List Nat} (h : ¬ 65536 < s.size) (hr : readLines (cut 10 s) 0 [] [] = .ok (L, P)) (hc : checkNames L L P = none) (hl : 65536 < (textL L).length) : parse s = .error (1, 0) := by
  unfold parse; rw [if_neg h, hr]; simp only [hc, if_pos hl]
theorem parse_ok {s : ByteArray} {L : List Acct} {P : List Nat} (h : ¬ 65536 < s.size) (hr : readLines (cut 10 s) 0 [] [] = .ok (L, P)) (hc : checkNames L L P = none) (hl : ¬ 65536 < (textL L).length) : parse s = .ok L := by
  unfold parse; rw [if_neg h, hr]; simp only [hc, if_neg hl]

theorem RParsed.err {s : ByteArray} {w w' : World} {er : Int} {ln : Nat} (hb : Below w.heap.size w w') (h : parse s = .error (er, ln)) : RParsed s w (.returned (.tuple #[.pointer none, .int .i64 er, .int .i64 (ln : Int)])) w' := by
  refine ⟨hb, ?_⟩
  rw [h]

theorem checkNames_step {all L : List Acct} {P : List Nat} {k : Nat} {a : Acct} {p : Nat} (ha : L[k]? = some a) (hp : P[k]? = some p) :
    checkNames all (L.drop k) (P.drop k) = if knows all a then checkNames all (L.drop (k + 1)) (P.drop (k + 1)) else some p := by
  obtain ⟨h1, rfl⟩ := List.getElem?_eq_some_iff.1 ha
  obtain ⟨h2, rfl⟩ := List.getElem?_eq_some_iff.1 hp
  rw [List.drop_eq_getElem_cons h1, List.drop_eq_getElem_cons h2, checkNames]

set_option maxRecDepth 100000 in
theorem refParse_calls (s : ByteArray) (w : World) : Calls Tryd.prog 41 #[.string s] w (RParsed s w) := by
  by_cases hbig : 65536 < s.size
  · have HP := Lib.hid (show parse s = .error (1, 0) from by unfold parse; rw [if_pos hbig])
    go_enter Tryd.func41, Tryd.ntmps41
    go_wp2_with fail
    go_ret3
    exact RParsed.err (Below.refl _ _) HP.out
  have hcl := cut_length 10 s
  have hcs : ∀ x ∈ cut 10 s, x.size ≤ 65536 := fun x hx => by have := cut_size hx; omega
  obtain ⟨i0, hi0, hz0, hz1, hz2⟩ := info_parts acct_info
  have HI := Lib.hid hi0; clear hi0
  have HZ0 := Lib.hid hz0; clear hz0
  have HZ1 := Lib.hid hz1; clear hz1
  have HZ2 := Lib.hid hz2; clear hz2
  obtain ⟨j0, hi0, hz0, hz1, hz2⟩ := info_parts int_info
  have JI := Lib.hid hi0; clear hi0
  have JZ0 := Lib.hid hz0; clear hz0
  have JZ1 := Lib.hid hz1; clear hz1
  have JZ2 := Lib.hid hz2; clear hz2
  go_enter Tryd.func41, Tryd.ntmps41
  go_wp2_with (go_at_call 67; refine (cuts_calls s 10 _ (by omega)).mono ?_; rintro e w1 ⟨v5, rfl, hv5, hb1⟩; have HV5 := Lib.hid hv5; clear hv5; have HB1 := Lib.hid hb1; clear hb1)
  generalize hlines : cut 10 s = lines at HV5 hcl hcs
  have HLN := Lib.hid hlines; clear hlines
  have hln : lines.length ≤ 65537 := by omega
  have HCS := Lib.hid hcs; clear hcs
  clear hcl
  have HBIG := Lib.hid hbig; clear hbig
  obtain ⟨A, c, rfl, hlc, hcm, -⟩ := id HV5.out
  unfold maxLen at hcm
  go_loopw [6, 7, 8] (fun vl va i wr => ∃ (L : List Acct) (P : List Nat) (k : Nat), i = .int .i64 k ∧ k ≤ lines.length ∧ L.length ≤ k ∧ P.length = L.length ∧ OwnAccts wr w.heap.size vl L ∧ wr.ownsRow w.heap.size 3 1 va P.length (P.map fun p : Nat => Value.int .i64 (p : Int)) ∧ Strs wr (.slice A lines.length c) lines ∧ Shorts L ∧ Below w.heap.size w wr ∧ readLines lines 0 [] [] = readLines (lines.drop k) k L P) (fun _ _ i _ => lines.length - (intOf i).toNat)
  case atStart => exact ⟨[], [], 0, rfl, by omega, by simp, rfl, OwnAccts.nil_ _ _, World.ownsRow_nil _ _ _ _, HV5.out, (by intro a ha; cases ha), HB1.out, rfl⟩
  case round =>
    obtain ⟨L, P, k, rfl, hk, hLk, hPL, hoa, hoi, hst, hsh, hb, hrd⟩ := hrel
    have HPL := Lib.hid hPL; clear hPL
    have HOA := Lib.hid hoa; clear hoa
    have HOI := Lib.hid hoi; clear hoi
    have HST := Lib.hid hst; clear hst
    have HSH := Lib.hid hsh; clear hsh
    have HB := Lib.hid hb; clear hb
    have HRD := Lib.hid hrd; clear hrd
    clear HV5 HB1
    by_cases hlt : k < lines.length
    · obtain ⟨x, hkx⟩ : ∃ x, lines[k]? = some x := ⟨lines[k], List.getElem?_eq_getElem hlt⟩
      obtain ⟨g, o, c', hv, _, h0⟩ := HST.out.at_ hkx
      injection hv with e1 _ e3
      subst e1; subst e3
      have hxs := HCS.out x (List.mem_of_getElem? hkx)
      have hdr : lines.drop k = x :: lines.drop (k + 1) := by
        obtain ⟨h1, rfl⟩ := List.getElem?_eq_some_iff.1 hkx
        exact List.drop_eq_getElem_cons h1
      clear hkx
      have HDR := Lib.hid hdr; clear hdr
      by_cases hz : x.size = 0
      · have hem := empty_t hz
        have HZ := Lib.hid hz; clear hz
        go_wp2_with fail
        go_roundw
        case rel => exact ⟨L, P, k + 1, by go_num, by omega, by omega, HPL.out, HOA.out, HOI.out, HST.out, HSH.out, HB.out, by rw [HRD.out, HDR.out, readLines_skip (.inl HZ.out)]⟩
        case measure => simp [intOf]; omega
      · have hem := empty_f hz
        have hpos : 0 < x.size := by omega
        cases hb35 : ((x[0].toNat : Int) == 35) with
        | true =>
          go_wp2_with fail
          go_roundw
          case rel => exact ⟨L, P, k + 1, by go_num, by omega, by omega, HPL.out, HOA.out, HOI.out, HST.out, HSH.out, HB.out, by rw [HRD.out, HDR.out, readLines_skip (.inr (head35 hpos hb35))]⟩
          case measure => simp [intOf]; omega
        | false =>
          have HNO := Lib.hid (head35_no hpos hb35)
          cases hacc : account x with
          | none =>
            have HACC := Lib.hid hacc; clear hacc
            go_wp2_with (go_at_call 68; refine (refAccount_calls x _ (by omega)).mono ?_; rintro e w2 ⟨hb2, he2⟩; rw [HACC.out] at he2; dsimp only at he2; subst he2; have HB2 := Lib.hid hb2; clear hb2)
            go_ret3
            refine RParsed.err (er := 60) (ln := k + 1) ?_ (parse_err HBIG.out (by rw [HLN.out, HRD.out, HDR.out, readLines_bad HNO.out HACC.out]))
            have hb3 : Below w.heap.size w w2 := HB.out.trans (HB2.out.mono HB.out.size)
            exact hb3.alloc hb3.size _
          | some a =>
            have HACC := Lib.hid hacc; clear hacc
            go_wp2_with (go_at_call 68; refine (refAccount_calls x _ (by omega)).mono ?_; rintro e w2 ⟨hb2, he2⟩; rw [HACC.out] at he2; dsimp only at he2; obtain ⟨mv, rfl, hmv⟩ := he2; obtain ⟨Am, cm, rfl, hm1, hm2, -⟩ := id hmv; unfold maxLen at hm2; have HB2 := Lib.hid hb2; clear hb2; have HMV := Lib.hid hmv; clear hmv; unfold acctV)
            have HOA2 := Lib.hid (HOA.out.below HB2.out); clear HOA
            have HOI2 := Lib.hid (own_below HOI.out HB2.out); clear HOI
            have HST2 := Lib.hid (HST.out.below HB2.out (Nat.le_refl _)); clear HST
            have HB3 := Lib.hid (HB.out.trans (HB2.out.mono HB.out.size)); clear HB HB2 h0
            rcases findZ_known L a.name with ⟨hn, hz1⟩ | ⟨hn, hz1⟩
            · have HN := Lib.hid hn; clear hn
              refine (find_calls _ L _ _ (HOA2.out.accts.alloc _)).mono ?_
              rintro e w3 ⟨rfl, rfl⟩
              go_wp2_with fail
              go_ret3
              exact RParsed.err (er := 61) (ln := k + 1) (HB3.out.alloc HB3.out.size _) (parse_err HBIG.out (by rw [HLN.out, HRD.out, HDR.out, readLines_twice HNO.out HACC.out (.inl HN.out)]))
            · have HN := Lib.hid hn; clear hn
              refine (find_calls _ L _ _ (HOA2.out.accts.alloc _)).mono ?_
              rintro e w3 ⟨rfl, rfl⟩
              go_wp2_with fail
              refine (twice_calls _ a.members _ (HMV.out.alloc _)).mono ?_
              rintro e w4 ⟨rfl, hd⟩
              have hbk : Blk w4 w2.heap.size 104 #[.string a.name, .string a.leader, .slice Am a.members.length cm, .string a.key] := by
                obtain ⟨q, rfl⟩ := hd
                exact (Blk.new w2 _ _).drewN q
              have HMV4 := Lib.hid ((HMV.out.alloc (Obj.cells #[.string a.name, .string a.leader, .slice Am a.members.length cm, .string a.key] 104)).drawn hd)
              have HOA4 := Lib.hid ((HOA2.out.alloc (Obj.cells #[.string a.name, .string a.leader, .slice Am a.members.length cm, .string a.key] 104)).below (hd.below _))
              have HOI4 := Lib.hid (own_below (HOI2.out.alloc (Obj.cells #[.string a.name, .string a.leader, .slice Am a.members.length cm, .string a.key] 104)) (hd.below _))
              have HST4 := Lib.hid ((HST2.out.alloc (Obj.cells #[.string a.name, .string a.leader, .slice Am a.members.length cm, .string a.key] 104)).drawn hd)
              have HB4 := Lib.hid ((HB3.out.alloc HB3.out.size (Obj.cells #[.string a.name, .string a.leader, .slice Am a.members.length cm, .string a.key] 104)).trans (hd.below _))
              clear HOA2 HOI2 HST2 HB3 HMV hd
              have d0 : w4.cell? ⟨w2.heap.size, 0, none⟩ = some (.string a.name) := hbk.cell 0
              have d1 : w4.cell? ⟨w2.heap.size, 1, none⟩ = some (.string a.leader) := hbk.cell 1
              have d2 : w4.cell? ⟨w2.heap.size, 2, none⟩ = some (.slice Am a.members.length cm) := hbk.cell 2
              have d3 : w4.cell? ⟨w2.heap.size, 3, none⟩ = some (.string a.key) := hbk.cell 3
              clear hbk
              cases htw : twice a.members with
              | true =>
                have HTW := Lib.hid htw; clear htw
                go_wp2_with fail
                go_ret3
                exact RParsed.err (er := 61) (ln := k + 1) HB4.out (parse_err HBIG.out (by rw [HLN.out, HRD.out, HDR.out, readLines_twice HNO.out HACC.out (.inr HTW.out)]))
              | false =>
                have HTW := Lib.hid htw; clear htw
                obtain ⟨xs, hox, hxx⟩ := HOA4.out
                have HOX := Lib.hid hox; clear hox
                have HXX := Lib.hid hxx; clear hxx
                clear HOA4
                have hpl : P.length ≤ 65537 := by have := HPL.out; omega
                go_wp2_with (first
                  | (at_builtin; refine wpList_append_any _ rfl (.tmp 60) (.tmp 62) _ rfl w.heap.size 104 i0 _ 4 72 Tryd.underlying96 HI.out HZ0.out HZ1.out HZ2.out rfl (by omega) _ L.length xs rfl (HOX.out.alloc _) (w4.heap.size + 1) (some ⟨w4.heap.size, 0, none⟩) 1 1 [.string a.name, .string a.leader, .slice Am a.members.length cm, .string a.key] rfl (reads_new4 _ _ _ _ _ _) (by intro u hu; simp at hu; rcases hu with rfl | rfl | rfl | rfl <;> rfl) (by simp only [maxLen]; omega) (by omega) (by have := HB4.out.size; simp; omega) ?_; intro v6 w5 hown5 hg5 hat5; have HO5 := Lib.hid hown5; clear hown5; have HG5 := Lib.hid hg5; clear hg5; clear hat5
                     have HOI5 := Lib.hid (own_grown (HOI4.out.alloc _) (HOX.out.alloc _) HG5.out (by decide))
                     have HST5 := Lib.hid ((HST4.out.alloc _).grown (HOX.out.alloc _) HG5.out (by decide))
                     have HOA5 := Lib.hid (OwnAccts.snoc (a := a) (HOX.out.alloc _) HG5.out (fun k b hb => by obtain ⟨mv, hm, r⟩ := HXX.out k b hb; exact ⟨mv, hm.alloc _, r⟩) (HMV4.out.alloc _) HO5.out)
                     have HB5 := Lib.hid ((HB4.out.alloc HB4.out.size _).grown HG5.out (by have := HB4.out.size; simp; omega) (fun b hb => (HOX.out.lt b hb).1))
                     clear HOX HXX HOI4 HST4 HB4 HG5 HO5 HMV4)
                  | (at_builtin; refine wpList_append_any _ rfl (.tmp 64) (.tmp 67) _ rfl w.heap.size 3 j0 _ 1 8 Tryd.underlying24 JI.out JZ0.out JZ1.out JZ2.out rfl (by omega) _ P.length _ rfl (HOI5.out.alloc _) (w5.heap.size + 1) (some ⟨w5.heap.size, 0, none⟩) 1 1 [.int .i64 ((k : Int) + 1)] rfl (reads_new _ _ _) (by intro u hu; simp at hu; subst hu; rfl) (by simp only [maxLen]; omega) (by omega) (by have := HB5.out.size; simp; omega) ?_; intro v7 w6 hown6 hg6 hat6; have HO6 := Lib.hid hown6; clear hown6; have HG6 := Lib.hid hg6; clear hg6; clear hat6
                     have HST6 := Lib.hid ((HST5.out.alloc _).grown (HOI5.out.alloc _) HG6.out (by decide))
                     have HOA6 := Lib.hid ((HOA5.out.alloc _).grown (HOI5.out.alloc _) HG6.out (by decide) (by decide))
                     have HB6 := Lib.hid ((HB5.out.alloc HB5.out.size _).grown HG6.out (by have := HB5.out.size; simp; omega) (fun b hb => (HOI5.out.lt b hb).1))
                     clear HOI5 HOA5 HST5 HB5 HG6))
                go_roundw
                case rel =>
                  refine ⟨L ++ [a], P ++ [k + 1], k + 1, by go_num, by omega, by simp; omega, by simp [HPL.out], HOA6.out, ?_, HST6.out, ?_, HB6.out, ?_⟩
                  · simpa using HO6.out
                  · intro b hb
                    rcases List.mem_append.1 hb with h1 | h1
                    · exact HSH.out b h1
                    · rw [List.mem_singleton.1 h1, lineL_account_len HACC.out]
                      omega
                  · rw [HRD.out, HDR.out, readLines_more HNO.out HACC.out HN.out HTW.out]
                case measure => simp [intOf]; omega
    · have HR := Lib.hid (show readLines (cut 10 s) 0 [] [] = .ok (L, P) from by rw [HLN.out, HRD.out, List.drop_eq_nil_of_le (by omega)]; rfl)
      clear HRD HLN HCS HST HI HZ0 HZ1 HZ2 JI JZ0 JZ1 JZ2
      have HAC := Lib.hid HOA.out.accts; clear HOA
      obtain ⟨A6, c6, e6, hc6, hm6⟩ := HAC.out.len
      subst e6
      unfold maxLen at hm6
      have hpl : P.length = L.length := HPL.out
      clear HPL
      go_wp2_with fail
      go_loopw [11] (fun i wq => ∃ j : Nat, i = .int .i64 j ∧ j ≤ L.length ∧ Below wr.heap.size wr wq ∧ checkNames L L P = checkNames L (L.drop j) (P.drop j)) (fun i _ => L.length - (intOf i).toNat)
      case atStart => exact ⟨0, rfl, by omega, Below.refl _ _, rfl⟩
      case round =>
        obtain ⟨j, rfl, hj, hq, hcn⟩ := hrel
        have HQ := Lib.hid hq; clear hq
        have HCN := Lib.hid hcn; clear hcn
        by_cases hlt2 : j < L.length
        · obtain ⟨a, hja⟩ : ∃ a, L[j]? = some a := ⟨L[j], List.getElem?_eq_getElem hlt2⟩
          obtain ⟨p, hjp⟩ : ∃ p, P[j]? = some p := ⟨P[j]'(by omega), List.getElem?_eq_getElem (by omega)⟩
          have HAC2 := Lib.hid (HAC.out.below HQ.out (Nat.le_refl _))
          obtain ⟨g, o, c', mv, hv, _, hms, h0, h1, h2, h3, _⟩ := HAC2.out.at_ hja
          injection hv with e1 _ e3
          subst e1; subst e3
          have HMS := Lib.hid hms; clear hms
          have HOI2 := Lib.hid (own_below HOI.out HQ.out)
          obtain ⟨g7, c7, e7, _, hg7⟩ := HOI2.out.form (by omega)
          subst e7
          have hjp2 : j < P.length := by omega
          have HPL := Lib.hid hpl; clear hpl
          have hxp : (P.map fun p : Nat => Value.int .i64 (p : Int))[j]? = some (.int .i64 (p : Int)) := by rw [List.getElem?_map, hjp]; rfl
          have HXP := Lib.hid hxp; clear hxp
          have HSTEP := Lib.hid (checkNames_step (all := L) hja hjp)
          clear hja hjp
          have hc7 : j < c7 := by
            have := (World.ownsRow.lt HOI2.out)
            rcases HOI2.out.2 with ⟨he, _⟩ | ⟨_, cap, _, hv, _, _, hcap, _⟩
            · cases he
            · injection hv with _ _ h3
              subst h3
              omega
          obtain ⟨Am, cm, rfl, hm1, hm2, -⟩ := id HMS.out
          unfold maxLen at hm2
          cases hkn : knows L a with
          | false =>
            have HKN := Lib.hid hkn
            go_wp2_with (go_at_call 71; refine (knows_calls _ L a _ _ HAC2.out HMS.out).mono ?_; rintro e w8 ⟨rfl, hb8⟩; rw [HKN.out])
            have h8 : w8.cell? ⟨g7, j, none⟩ = some (.int .i64 (p : Int)) := by
              rw [World.ownsRow.cellAt (own_below HOI2.out hb8) j (by have := HPL.out; omega)]
              exact HXP.out
            have HB8 := Lib.hid hb8; clear hb8
            go_region
            go_wp2_with fail
            go_ret3
            refine RParsed.err (er := 62) (ln := p) ?_ (parse_none HBIG.out HR.out (by rw [HCN.out, HSTEP.out, if_neg (by rw [HKN.out]; exact Bool.false_ne_true)]))
            exact (HB.out.trans ((HQ.out.trans (HB8.out.mono HQ.out.size)).mono HB.out.size)).drew
          | true =>
            have HKN := Lib.hid hkn
            go_wp2_with (go_at_call 71; refine (knows_calls _ L a _ _ HAC2.out HMS.out).mono ?_; rintro e w8 ⟨rfl, hb8⟩; rw [HKN.out]; have HB8 := Lib.hid hb8; clear hb8)
            go_roundw
            case rel => exact ⟨j + 1, by go_num, by omega, HQ.out.trans (HB8.out.mono HQ.out.size), by rw [HCN.out, HSTEP.out, if_pos HKN.out]⟩
            case measure => simp [intOf]; omega
        · have HC := Lib.hid (show checkNames L L P = none from by rw [HCN.out, List.drop_eq_nil_of_le (show L.length ≤ j by omega)]; rfl)
          clear HCN
          have HAC2 := Lib.hid (HAC.out.below HQ.out (Nat.le_refl _))
          have HB2 := Lib.hid (HB.out.trans (HQ.out.mono HB.out.size))
          clear HQ HB HAC HOI
          go_wp2_with fail
          refine (length_calls _ L _ HAC2.out HSH.out).mono ?_
          rintro e w8 ⟨⟨n, rfl, hn⟩, hb8⟩
          have HN := Lib.hid hn; clear hn
          have HB8 := Lib.hid (HB2.out.trans (hb8.mono HB2.out.size))
          have HAC8 := Lib.hid (HAC2.out.below hb8 (Nat.le_refl _))
          clear hb8 HB2 HAC2
          by_cases hbig : 65536 < n
          · go_wp2_with fail
            go_ret3
            exact RParsed.err (er := 1) (ln := 0) HB8.out (parse_long HBIG.out HR.out HC.out (HN.out.1 hbig))
          · go_wp2_with fail
            go_ret3
            refine ⟨HB8.out.alloc HB8.out.size _, ?_⟩
            rw [parse_ok HBIG.out HR.out HC.out (fun h => hbig (HN.out.2 h))]
            exact ⟨_, HB8.out.size, rfl, _, Blk.new _ _ _, HAC8.out.alloc _⟩
end Go.Proofs.YtlenlldiimohjaaDoor
