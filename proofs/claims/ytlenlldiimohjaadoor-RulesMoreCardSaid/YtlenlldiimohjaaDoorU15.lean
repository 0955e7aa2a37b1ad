/-
  Package users: Parse's inner function.
-/
import Derived.Test.YtlenlldiimohjaaDoorU14
namespace Go.Proofs.YtlenlldiimohjaaDoor
open Go.ChangeShapes Go.WideShapes Go.ChangeAt Go.RowKit

set_option maxRecDepth 100000 in
set_option maxHeartbeats 6400000 in
theorem parse1_calls (text : ByteArray) (w0 W : World) (g b pt pa pv pp : Nat) (hr : Ready w0) (hsz : ¬ 65536 < text.size)
    (ht : Blk W pt 9 #[.string text]) (hB : Build W w0.heap.size g b []) (hp : Blk W pp 24 #[.slice none 0 0]) (ha : Blk W pa 3 #[.int .i64 0]) (hv : Blk W pv 40 #[.pointer (some ⟨g, 0, none⟩)])
    (hlow : Below w0.heap.size w0 W) (hpa : w0.heap.size ≤ pa) (hpp : w0.heap.size ≤ pp) :
    Calls Tryd.prog 59 #[.pointer (some ⟨pt, 0, none⟩), .pointer (some ⟨pa, 0, none⟩), .pointer (some ⟨pv, 0, none⟩), .pointer (some ⟨pp, 0, none⟩)] W (P1Post text w0 W g pa) := by
  obtain ⟨j0, hi0, hz0, hz1, hz2⟩ := info_parts int_info
  have JI := Lib.hid hi0; clear hi0
  have JZ0 := Lib.hid hz0; clear hz0
  have JZ1 := Lib.hid hz1; clear hz1
  have JZ2 := Lib.hid hz2; clear hz2
  have hcl := cut_length 10 text
  have hsl := sumL_cut 10 text
  have hcs : ∀ x ∈ cut 10 text, x.size ≤ 65536 := fun x hx => by have := cut_size hx; omega
  have c0 : W.cell? ⟨pt, 0, none⟩ = some (.string text) := ht.cell 0
  have HR := Lib.hid hr; clear hr
  have HPA := Lib.hid hpa; clear hpa
  have HPP := Lib.hid hpp; clear hpp
  have hsz2 : text.size ≤ 16777216 := by omega
  have HRW := Lib.hid (HR.out.below hlow (Nat.le_refl _))
  go_enter Tryd.func59, Tryd.ntmps59
  go_wp2_with fail
  refine (split_calls text 10 _ HRW.out hsz2).mono ?_
  rintro e w1 ⟨vl, rfl, hvl, hb1⟩
  have HA := Lib.hid (show At1 w0 W g b pa pv pp vl (cut 10 text) [] [] (.slice none 0 0) 0 w1 from
    ⟨hB.below hb1, hp.below hb1 hp.lt, World.ownsRow_nil _ _ _ _, by simp [Value.ownBlock], ha.below hb1 ha.lt, hv.below hb1 hv.lt, hvl, hlow.trans (hb1.mono hlow.size), KeptP.of_below hb1⟩)
  clear hB hp ha hv ht hlow hb1 c0 HRW
  generalize hlines : cut 10 text = lines at HA hcl hcs hsl hvl
  have HLN := Lib.hid hlines; clear hlines
  have hln : lines.length ≤ 65537 := by omega
  have HCS := Lib.hid hcs; clear hcs
  have HSL := Lib.hid (show sumL lines ≤ 65537 by omega); clear hsl
  clear hcl
  have HBIG := Lib.hid hsz; clear hsz
  obtain ⟨A, c, rfl, hlc, hcm, -⟩ := hvl
  unfold maxLen at hcm
  go_wp2_with fail
  go_loopw [14] (fun i wr => ∃ (L : List Acct) (P : List Nat) (vp : Value) (k n : Nat), i = .int .i64 k ∧ k ≤ lines.length ∧ L.length ≤ k ∧ P.length = L.length ∧ At1 w0 W g b pa pv pp (.slice A lines.length c) lines L P vp n wr ∧ (textL L).length ≤ sumL (lines.take k) ∧ readLines lines 0 [] [] = readLines (lines.drop k) k L P) (fun i _ => lines.length - (intOf i).toNat)
  case atStart => exact ⟨[], [], _, 0, 0, rfl, by omega, by simp, rfl, HA.out, by simp [textL], rfl⟩
  case round =>
    obtain ⟨L, P, vp, k, n, rfl, hk, hLk, hPL, hat, htx, hrd⟩ := hrel
    clear HA
    have HPL := Lib.hid hPL; clear hPL
    have HA := Lib.hid hat; clear hat
    have HTX := Lib.hid htx; clear htx
    have HRD := Lib.hid hrd; clear hrd
    by_cases hlt : k < lines.length
    · obtain ⟨x, hkx⟩ : ∃ x, lines[k]? = some x := ⟨lines[k], List.getElem?_eq_getElem hlt⟩
      obtain ⟨g', o, c', hv, _, h0⟩ := HA.out.strs.at_ hkx
      injection hv with e1 _ e3
      subst e1; subst e3
      have hxs := HCS.out x (List.mem_of_getElem? hkx)
      have HST := Lib.hid (sumL_take_succ hkx)
      have hdr : lines.drop k = x :: lines.drop (k + 1) := by
        obtain ⟨h1, rfl⟩ := List.getElem?_eq_some_iff.1 hkx
        exact List.drop_eq_getElem_cons h1
      clear hkx
      have HDR := Lib.hid hdr; clear hdr
      have ca := HA.out.ca
      have fa := HA.out.fa
      have HA1 := Lib.hid (show At1 w0 W g b pa pv pp (.slice (some ⟨g', o, none⟩) lines.length c) lines L P vp (k + 1) (wr.setCell ⟨pa, 0, none⟩ (.int .i64 ((k : Int) + 1))) from HA.out.set_ (k + 1) HPA.out); clear HA
      have hk63 : (k : Int) + 1 ≤ 9223372036854775807 := by omega
      go_upto_region 4 with (fail)
      clear h0 ca fa
      generalize wr.setCell ⟨pa, 0, none⟩ (.int .i64 ((k : Int) + 1)) = w2 at HA1 ⊢
      by_cases hz : x.size = 0
      · have hem := empty_t hz
        have HZ := Lib.hid hz; clear hz
        go_wp2_with fail
        go_roundw
        case rel => exact ⟨L, P, vp, k + 1, k + 1, by go_num, by omega, by omega, HPL.out, HA1.out, by have := HTX.out; rw [HST.out]; omega, by rw [HRD.out, HDR.out, readLines_skip (.inl HZ.out)]⟩
        case measure => simp [intOf]; omega
      · have hem := empty_f hz
        have hpos : 0 < x.size := by omega
        cases hb35 : ((x[0].toNat : Int) == 35) with
        | true =>
          go_wp2_with fail
          go_roundw
          case rel => exact ⟨L, P, vp, k + 1, k + 1, by go_num, by omega, by omega, HPL.out, HA1.out, by have := HTX.out; rw [HST.out]; omega, by rw [HRD.out, HDR.out, readLines_skip (.inr (head35 hpos hb35))]⟩
          case measure => simp [intOf]; omega
        | false =>
          have HNO := Lib.hid (head35_no hpos hb35)
          have hxz : x.size ≤ 16777216 := by omega
          have HRY := Lib.hid (HA1.out.ready HR.out)
          cases hacc : account x with
          | none =>
            have HACC := Lib.hid hacc; clear hacc
            go_wp2_with fail
            refine (account_calls x _ HRY.out hxz).mono ?_
            rintro e w3 ⟨hb3, he3⟩
            rw [HACC.out] at he3
            dsimp only at he3
            subst he3
            have HA3 := Lib.hid (HA1.out.below hb3)
            exact ⟨rfl, P1Post.err (parse_err HBIG.out (by rw [HLN.out, HRD.out, HDR.out, readLines_bad HNO.out HACC.out])) HA3.out.low HA3.out.kept HA3.out.blk⟩
          | some a =>
            have HACC := Lib.hid hacc; clear hacc
            go_wp2_with fail
            refine (account_calls x _ HRY.out hxz).mono ?_
            rintro e w3 ⟨hb3, he3⟩
            rw [HACC.out] at he3
            dsimp only at he3
            obtain ⟨mv, rfl, hmv⟩ := he3
            have HA3 := Lib.hid (HA1.out.below hb3)
            generalize (x[0]'hpos).toNat = y0 at hb35 ⊢
            clear hb3 HA1 HRY hb35 hem hpos hxz
            obtain ⟨Am, cm, rfl, hm1, hm2, -⟩ := id hmv
            unfold maxLen at hm2
            unfold acctV
            have HMV := Lib.hid (hmv.alloc (Obj.cells #[.string a.name, .string a.leader, .slice Am a.members.length cm, .string a.key] 104)); clear hmv
            have HA4 := Lib.hid (HA3.out.below ((Below.refl _ _).alloc (Nat.le_refl _) (Obj.cells #[.string a.name, .string a.leader, .slice Am a.members.length cm, .string a.key] 104))); clear HA3
            have HQ := Lib.hid (Blk.new w3 104 #[.string a.name, .string a.leader, .slice Am a.members.length cm, .string a.key])
            have hll := lineL_account_len HACC.out
            have hsl := HSL.out
            have hst := HST.out
            have hst2 := sumL_take_le lines (k + 1)
            have htx := HTX.out
            have HTX2 := Lib.hid (show (textL (L ++ [a])).length ≤ sumL (lines.take (k + 1)) from by
              have h1 : textL (L ++ [a]) = textL L ++ lineL a := by simp [textL]
              rw [h1, List.length_append]
              omega)
            have HSM := Lib.hid (small_of_line (a := a) (by omega))
            clear hll hsl hst hst2 htx
            go_wp2_with fail
            generalize w3.alloc (Obj.cells #[.string a.name, .string a.leader, .slice Am a.members.length cm, .string a.key] 104) = w4 at HMV HA4 HQ ⊢
            generalize w3.heap.size = q at HQ ⊢
            have HA5 := Lib.hid (HA4.out.below (below_drew w4))
            have HMV5 := Lib.hid (HMV.out.drew)
            have HQ5 := Lib.hid (show Blk w4.drew q 104 #[.string a.name, .string a.leader, .slice Am a.members.length cm, .string a.key] from HQ.out)
            clear HA4 HMV HQ
            have cv := HA5.out.cv
            have g1 : w4.drew.cell? ⟨g, 1, none⟩ = some (.map (some b)) := by
              obtain ⟨vl, b1, -⟩ := HA5.out.build
              exact b1.cell 1
            have hlook := HA5.out.build.look a.name HSM.out.1
            have q0 : w4.drew.cell? ⟨q, 0, none⟩ = some (.string a.name) := HQ5.out.cell 0
            rcases known_of_find L a.name with hkn | hkn
            · rw [hkn] at hlook
              have HKN := Lib.hid hkn; clear hkn
              go_region
              generalize w4.drew = w5 at HA5 HMV5 HQ5 ⊢
              clear cv g1 hlook q0
              go_wp2_with fail
              refine (need_f 61 _).mono ?_
              rintro e w6 ⟨rfl, rfl⟩
              exact ⟨rfl, P1Post.err (parse_err HBIG.out (by rw [HLN.out, HRD.out, HDR.out, readLines_twice HNO.out HACC.out (.inl HKN.out)])) HA5.out.low HA5.out.kept HA5.out.blk⟩
            · rw [hkn] at hlook
              have HKN := Lib.hid hkn; clear hkn
              go_region
              generalize w4.drew = w5 at HA5 HMV5 HQ5 ⊢
              clear cv g1 hlook q0
              have q0 : w5.cell? ⟨q, 0, none⟩ = some (.string a.name) := HQ5.out.cell 0
              have q1 : w5.cell? ⟨q, 1, none⟩ = some (.string a.leader) := HQ5.out.cell 1
              have q2 : w5.cell? ⟨q, 2, none⟩ = some (.slice Am a.members.length cm) := HQ5.out.cell 2
              have q3 : w5.cell? ⟨q, 3, none⟩ = some (.string a.key) := HQ5.out.cell 3
              go_wp2_with fail
              refine (need_t 61 _).mono ?_
              rintro e w6 ⟨rfl, rfl⟩
              go_wp2_with fail
              clear q0 q1 q2 q3
              refine (once_calls a (.slice Am a.members.length cm) _ HMV5.out (HA5.out.ready HR.out)).mono ?_
              rintro e w6 ⟨rfl, hb6⟩
              have HA6 := Lib.hid (HA5.out.below hb6)
              have HMV6 := Lib.hid (HMV5.out.below hb6 (Nat.le_refl _))
              have HQ6 := Lib.hid (HQ5.out.below hb6 HQ5.out.lt)
              clear hb6 HA5 HMV5 HQ5
              cases htw : twice a.members with
              | true =>
                have HTW := Lib.hid htw; clear htw
                exact ⟨rfl, P1Post.err (parse_err HBIG.out (by rw [HLN.out, HRD.out, HDR.out, readLines_twice HNO.out HACC.out (.inr HTW.out)])) HA6.out.low HA6.out.kept HA6.out.blk⟩
              | false =>
                have HTW := Lib.hid htw; clear htw
                rw [← said_t (b := !false) rfl 61]
                have cv := HA6.out.cv
                have q0 : w6.cell? ⟨q, 0, none⟩ = some (.string a.name) := HQ6.out.cell 0
                have q1 : w6.cell? ⟨q, 1, none⟩ = some (.string a.leader) := HQ6.out.cell 1
                have q2 : w6.cell? ⟨q, 2, none⟩ = some (.slice Am a.members.length cm) := HQ6.out.cell 2
                have q3 : w6.cell? ⟨q, 3, none⟩ = some (.string a.key) := HQ6.out.cell 3
                go_wp2_with fail
                clear q0 q1 q2 q3 cv
                refine (add_calls w0.heap.size g b L a (.slice Am a.members.length cm) _ HA6.out.build HMV6.out HKN.out HSM.out.1 (by omega) HA6.out.low.size).mono ?_
                rintro e w7 ⟨rfl, hB7, hl7, hk7⟩
                have HA7 := Lib.hid (HA6.out.add hB7 hl7 hk7)
                clear hB7 hl7 hk7 HA6 HMV6 HQ6
                have cp := HA7.out.cp
                have ca : w7.cell? ⟨pa, 0, none⟩ = some (.int .i64 ((k : Int) + 1)) := HA7.out.ca
                have hpl : P.length ≤ 65537 := by have := HPL.out; omega
                have HOW := Lib.hid (HA7.out.own.alloc (Obj.cells #[.int .i64 ((k : Int) + 1)] 3))
                have HB1 := Lib.hid (show P.length + 1 ≤ maxLen ∧ (P.length + 1) * 8 ≤ 140737488355328 ∧ w0.heap.size ≤ (w7.alloc (Obj.cells #[.int .i64 ((k : Int) + 1)] 3)).heap.size from ⟨by unfold maxLen; omega, by omega, Nat.le_trans HA7.out.low.size (by rw [World.size_alloc]; omega)⟩)
                go_wp2_with (at_builtin; refine wpList_append_any _ rfl (.tmp 48) (.tmp 50) _ rfl w0.heap.size 3 j0 _ 1 8 Tryd.underlying24 JI.out JZ0.out JZ1.out JZ2.out rfl (by omega) _ P.length _ rfl HOW.out (w7.heap.size + 1) (some ⟨w7.heap.size, 0, none⟩) 1 1 [.int .i64 ((k : Int) + 1)] rfl (reads_new _ _ _) (by intro u hu; simp at hu; subst hu; rfl) HB1.out.1 HB1.out.2.1 HB1.out.2.2 ?_; intro v8 w8 hown8 hg8 hat8; obtain ⟨g9, c9, rfl, -, -⟩ := hown8.form (by omega)
                             have k8 := Blk.grown (HA7.out.below ((Below.refl _ _).alloc (Nat.le_refl _) (Obj.cells #[.int .i64 ((k : Int) + 1)] 3))).2.1 hg8 (own_apart HOW.out (HA7.out.below ((Below.refl _ _).alloc (Nat.le_refl _) (Obj.cells #[.int .i64 ((k : Int) + 1)] 3))).2.1 (by decide))
                             have cp8 := k8.cell 0
                             have fp8 := k8.frozen 0
                             have HA8 := Lib.hid (HA7.out.grow (n := k + 1) hown8 hg8 hat8 HPP.out)
                             clear k8 hown8 hg8 hat8 HOW HA7)
                go_roundw
                case rel => exact ⟨L ++ [a], P ++ [k + 1], _, k + 1, k + 1, by go_num, by omega, by simp; omega, by simp [HPL.out], HA8.out, HTX2.out, by rw [HRD.out, HDR.out, readLines_more HNO.out HACC.out HKN.out HTW.out]⟩
                case measure => simp [intOf]; omega
    · have HRL := Lib.hid (show readLines (cut 10 text) 0 [] [] = .ok (L, P) from by rw [HLN.out, HRD.out, List.drop_eq_nil_of_le (by omega)]; rfl)
      have HTX2 := Lib.hid (show (textL L).length ≤ 65537 from by
        have h1 := HTX.out
        have h2 := sumL_take_le lines k
        have h3 := HSL.out
        omega)
      have hLn : L.length ≤ 65537 := by omega
      clear HTX HSL HRD HLN HCS JI JZ0 JZ1 JZ2
      obtain ⟨vl, hvl⟩ : ∃ vl, Hid (wr.cell? ⟨g, 0, none⟩ = some vl ∧ Accts wr vl L) := by
        obtain ⟨vl, b1, b2, -⟩ := HA.out.build
        exact ⟨vl, b1.cell 0, b2.accts⟩
      obtain ⟨Al, cl, rfl, hlc2, hcm2⟩ := hvl.out.2.len
      unfold maxLen at hcm2
      have g0 := hvl.out.1
      have cv := HA.out.cv
      go_wp2_with fail
      clear g0 cv
      go_loopw [58] (fun i wr => ∃ j n : Nat, i = .int .i64 j ∧ j ≤ L.length ∧ At1 w0 W g b pa pv pp (.slice A lines.length c) lines L P vp n wr ∧ Accts wr (.slice Al L.length cl) L ∧ checkNames L L P = checkNames L (L.drop j) (P.drop j)) (fun i _ => L.length - (intOf i).toNat)
      case atStart => exact ⟨0, n, rfl, by omega, HA.out, hvl.out.2, rfl⟩
      case round =>
        obtain ⟨j, m, rfl, hj, hat, hac, hcn⟩ := hrel
        clear HA hvl
        have HA := Lib.hid hat; clear hat
        have HAC := Lib.hid hac; clear hac
        have HCN := Lib.hid hcn; clear hcn
        by_cases hlt2 : j < L.length
        · obtain ⟨a, hja⟩ : ∃ a, L[j]? = some a := ⟨L[j], List.getElem?_eq_getElem hlt2⟩
          obtain ⟨p, hjp⟩ : ∃ p, P[j]? = some p := ⟨P[j]'(by have := HPL.out; omega), List.getElem?_eq_getElem (by have := HPL.out; omega)⟩
          have hjP : j < P.length := by have := HPL.out; omega
          have HST := Lib.hid (checkNames_step (all := L) hja hjp)
          obtain ⟨g', o, c', mv, hv, _, hms, h0, h1, h2, h3, _⟩ := HAC.out.at_ hja
          injection hv with e1 _ e3
          subst e1; subst e3
          obtain ⟨Am, cm, rfl, hm1, hm2, -⟩ := id hms
          unfold maxLen at hm2
          have hll := lineL_get hja
          have HSM := Lib.hid (small_of_line (a := a) (by have := HTX2.out; omega))
          clear hll
          have HMS := Lib.hid (hms.alloc (Obj.cells #[.string a.name, .string a.leader, .slice Am a.members.length cm, .string a.key] 104)); clear hms
          have hpre : Below wr.heap.size wr (wr.alloc (Obj.cells #[.string a.name, .string a.leader, .slice Am a.members.length cm, .string a.key] 104)) := (Below.refl _ _).alloc (Nat.le_refl _) _
          have HA2 := Lib.hid (HA.out.below hpre)
          have HAC2 := Lib.hid (HAC.out.below hpre (Nat.le_refl _))
          have HQ := Lib.hid (Blk.new wr 104 #[.string a.name, .string a.leader, .slice Am a.members.length cm, .string a.key])
          clear hpre
          go_upto_region 15 with (fail)
          clear h0 h1 h2 h3
          generalize wr.alloc (Obj.cells #[.string a.name, .string a.leader, .slice Am a.members.length cm, .string a.key] 104) = w2 at HMS HA2 HAC2 HQ ⊢
          generalize wr.heap.size = q at HQ ⊢
          clear HA HAC
          obtain ⟨g7, c7, e7, -, -⟩ := HA2.out.own.form (by omega)
          subst e7
          have cp := HA2.out.cp
          have fa := HA2.out.fa
          have ca := HA2.out.ca
          have cj : w2.cell? ⟨g7, j, none⟩ = some (.int .i64 (p : Int)) := by
            rw [HA2.out.own.cellAt j (by omega), List.getElem?_map, hjp]
            rfl
          clear hja hjp
          have HA3 := Lib.hid (HA2.out.set_ p HPA.out)
          have HAC3 := Lib.hid (HAC2.out.setCell (k := 0) (v := .int .i64 (p : Int)) HA2.out.blk (by decide) (by decide))
          have HMS3 := Lib.hid (HMS.out.setCell (k := 0) (u := .int .i64 (p : Int)) HA2.out.blk (by decide))
          have HQ3 := Lib.hid (HQ.out.setOther (k := 0) (v := .int .i64 (p : Int)) HA2.out.blk (by decide))
          go_upto_region 16 with (fail)
          clear cp fa ca cj
          generalize w2.setCell ⟨pa, 0, none⟩ (.int .i64 (p : Int)) = w3 at HA3 HAC3 HMS3 HQ3 ⊢
          clear HA2 HAC2 HMS HQ
          have cv := HA3.out.cv
          have q0 : w3.cell? ⟨q, 0, none⟩ = some (.string a.name) := HQ3.out.cell 0
          have q1 : w3.cell? ⟨q, 1, none⟩ = some (.string a.leader) := HQ3.out.cell 1
          have q2 : w3.cell? ⟨q, 2, none⟩ = some (.slice Am a.members.length cm) := HQ3.out.cell 2
          have q3 : w3.cell? ⟨q, 3, none⟩ = some (.string a.key) := HQ3.out.cell 3
          go_wp2_with fail
          clear cv q0 q1 q2 q3
          refine (named_calls g b L a (.slice Am a.members.length cm) _ HA3.out.build.tab HMS3.out HSM.out).mono ?_
          rintro e w4 ⟨rfl, hb4⟩
          have HA4 := Lib.hid (HA3.out.below hb4)
          have HAC4 := Lib.hid (HAC3.out.below hb4 (Nat.le_refl _))
          clear hb4 HA3 HAC3 HMS3 HQ3
          cases hkn : knows L a with
          | false =>
            have HC := Lib.hid (show checkNames L L P = some p from by rw [HCN.out, HST.out, if_neg (by rw [hkn]; exact Bool.false_ne_true)])
            exact ⟨rfl, P1Post.err (parse_none HBIG.out HRL.out HC.out) HA4.out.low HA4.out.kept HA4.out.blk⟩
          | true =>
            have HC := Lib.hid (show checkNames L L P = checkNames L (L.drop (j + 1)) (P.drop (j + 1)) from by rw [HCN.out, HST.out, if_pos hkn])
            clear hkn
            rw [← said_t (b := true) rfl 62]
            go_wp2_with fail
            go_roundw
            case rel => exact ⟨j + 1, p, by go_num, by omega, HA4.out, HAC4.out, HC.out⟩
            case measure => simp [intOf]; omega
        · have HC := Lib.hid (show checkNames L L P = none from by rw [HCN.out, List.drop_eq_nil_of_le (by omega)]; rfl)
          have ca := HA.out.ca
          have fa := HA.out.fa
          have HA3 := Lib.hid (show At1 w0 W g b pa pv pp (.slice A lines.length c) lines L P vp 0 (wr.setCell ⟨pa, 0, none⟩ (.int .i64 0)) from HA.out.set_ 0 HPA.out)
          go_upto_region 19 with (fail)
          clear ca fa
          generalize wr.setCell ⟨pa, 0, none⟩ (.int .i64 0) = w3 at HA3 ⊢
          have cv := HA3.out.cv
          go_wp2_with fail
          clear cv
          refine (join_walk w0.heap.size g b L _ HA3.out.build (by have := HTX2.out; omega) HA3.out.low.size).mono ?_
          rintro e w4 ⟨hj4, hl4, hk4⟩
          have HL4 := Lib.hid (HA3.out.low.trans hl4)
          have HK4 := Lib.hid (HA3.out.kept.trans (KeptP.of_kept hk4))
          have HB4 := Lib.hid (hk4.blk HA3.out.blk (by decide) (by decide))
          unfold Joined at hj4
          by_cases hle : (textL L).length ≤ 65536
          · rw [if_pos hle] at hj4
            obtain ⟨rfl, hp⟩ := hj4
            have HP := Lib.hid (show parse text = .ok L from parse_ok HBIG.out HRL.out HC.out (by omega))
            have HPT := Lib.hid hp; clear hp hl4 hk4 hle
            go_wp2_with fail
            go_end0
            exact P1Post.ok HP.out HL4.out HK4.out HPT.out
          · rw [if_neg hle] at hj4
            subst hj4
            exact ⟨rfl, P1Post.err (parse_long HBIG.out HRL.out HC.out (by omega)) HL4.out HK4.out HB4.out⟩
end Go.Proofs.YtlenlldiimohjaaDoor
