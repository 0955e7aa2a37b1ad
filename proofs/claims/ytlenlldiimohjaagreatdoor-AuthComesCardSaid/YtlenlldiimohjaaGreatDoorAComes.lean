
/-
  AuthComes returns true: who has the key comes through, in whatever pieces. Conditions: the tables of unicode/utf8, math/bits and strconv (Ready, TZ, SV).
-/
import Derived.Test.YtlenlldiimohjaaGreatDoorAFreshM
namespace Go.Proofs.YtlenlldiimohjaaGreatDoor
open Go.RowKit SumLaw

theorem allows_no (t : Tk) (u tree : ByteArray) (h : t.step ≠ 4) : allowsS t u tree = 72 := by
  unfold allowsS
  rw [if_pos (.inl (by simpa using h))]
theorem allows_yes (tree : ByteArray) (a b : Int) : allowsS ⟨⟨#[117]⟩, tree, a, b, 4, 0⟩ ⟨#[117]⟩ tree = 0 := by
  unfold allowsS
  rw [if_neg (by simp)]
theorem allows_other (tree : ByteArray) (a b : Int) : allowsS ⟨⟨#[117]⟩, tree, a, b, 4, 0⟩ ⟨#[118]⟩ tree = 72 := by
  unfold allowsS
  rw [if_pos (.inr (.inl (by show (⟨#[117]⟩ : ByteArray) ≠ ⟨#[118]⟩; decide)))]
theorem allows_tree (tree other : ByteArray) (a b : Int) : (allowsS ⟨⟨#[117]⟩, tree, a, b, 4, 0⟩ ⟨#[117]⟩ other == 0) = decide (other = tree) := by
  unfold allowsS
  by_cases h : other = tree
  · rw [decide_eq_true h, if_neg (by simp [h])]
    rfl
  · rw [decide_eq_false h, if_pos (.inr (.inr (fun hh => h hh.symm)))]
    rfl
set_option maxRecDepth 100000 in
set_option maxHeartbeats 6400000 in
theorem comes_calls (key tree other : ByteArray) (ours theirs : Nat) (cv : Value) (cuts : List Int) (w : World) (hr : Ready w) (htz : TZ w) (hsv : SV w) (hc : Cuts w w.heap.size cv cuts) (ho : ours < 18446744073709551616) (h64 : theirs < 18446744073709551616) :
    Calls Tryz.prog 6 #[.string key, .string tree, .int .u64 (ours : Int), .int .u64 (theirs : Int), cv, .string other] w fun e w' => e = .returned (.bool true) ∧ Below w.heap.size w w' := by
  by_cases hb1 : 268435456 < key.size
  · have hb1' : (268435456 : Int) < (key.size : Int) := by omega
    clear hr htz hsv ho h64 hc
    go_enter Tryz.func6, Tryz.ntmps6
    go_wp2_with fail
    go_ret
    exact ⟨rfl, Below.refl _ _⟩
  · have hb1' : ¬ (268435456 : Int) < (key.size : Int) := by omega
    by_cases hb2 : 2684354 < tree.size
    · have hb2' : (2684354 : Int) < (tree.size : Int) := by omega
      clear hr htz hsv ho h64 hc
      go_enter Tryz.func6, Tryz.ntmps6
      go_wp2_with fail
      go_ret
      exact ⟨rfl, Below.refl _ _⟩
    · have hb2' : ¬ (2684354 : Int) < (tree.size : Int) := by omega
      by_cases hb3 : 268435456 < other.size
      · have hb3' : (268435456 : Int) < (other.size : Int) := by omega
        clear hr htz hsv ho h64 hc
        go_enter Tryz.func6, Tryz.ntmps6
        go_wp2_with fail
        go_ret
        exact ⟨rfl, Below.refl _ _⟩
      · have hb3' : ¬ (268435456 : Int) < (other.size : Int) := by omega
        have HR := Lib.hid hr
        have HTZ0 := Lib.hid htz
        have HSV0 := Lib.hid hsv
        have HC0 := Lib.hid hc
        have HO := Lib.hid ho
        have H64 := Lib.hid h64
        have HKS := Lib.hid (show key.size ≤ 268435456 from by omega)
        have HTS := Lib.hid (show tree.size ≤ 268435456 from by omega)
        have HA1 := Lib.hid (allows_no ⟨⟨#[117]⟩, tree, (ours : Int), 0, 1, 0⟩ ⟨#[117]⟩ tree (by show (1 : Int) ≠ 4; decide))
        have HA3 := Lib.hid (allows_no ⟨⟨#[117]⟩, tree, (ours : Int), (theirs : Int), 3, 0⟩ ⟨#[117]⟩ tree (by show (3 : Int) ≠ 4; decide))
        have HAY := Lib.hid (allows_yes tree (ours : Int) (theirs : Int))
        have HAV := Lib.hid (allows_other tree (ours : Int) (theirs : Int))
        obtain ⟨gv, hgv⟩ : ∃ z, allowsS ⟨⟨#[117]⟩, tree, (ours : Int), (theirs : Int), 4, 0⟩ ⟨#[117]⟩ other = z := ⟨_, rfl⟩
        have HAG := Lib.hid hgv
        obtain ⟨d, hd⟩ : ∃ d : Bool, decide (other = tree) = d := ⟨_, rfl⟩
        have Q1 := Lib.hid (show (gv == 0) = d from by rw [← hgv, ← hd]; exact allows_tree _ _ _ _)
        have Q2 := Lib.hid (show (other.toList == tree.toList) = d from by
          rw [← hd]
          by_cases h : other = tree
          · rw [decide_eq_true h]; exact beq_str_t h
          · rw [decide_eq_false h]; exact beq_str_f h)
        clear hr htz hsv ho h64 hb1 hb2 hb3 hd hgv hc
        go_enter Tryz.func6, Tryz.ntmps6
        go_upto_region 6 with (go_at_call 13; (with_reducible refine (lawTable_calls key _ HR.out HKS.out).mono ?_); rintro e w1 ⟨⟨g, k, rfl, hp, hk⟩, hb⟩; have HP := Lib.hid hp; have HK := Lib.hid hk; have HB := Lib.hid hb; clear hp hk hb)
        have HTZ := Lib.hid (HTZ0.out.below HB.out (Nat.le_refl _))
        have HSV := Lib.hid (HSV0.out.below HB.out (Nat.le_refl _))
        have HC := Lib.hid ((HC0.out.below HB.out).more HB.out.size)
        clear HTZ0 HSV0 HC0 HR HKS hb1' hb2' hb3'
        go_upto_region 7 with (first
          | (go_at_call 14; (with_reducible refine (beginU_calls tree _ HP.out HK.out).mono ?_); rintro e w2 ⟨rfl, hb⟩; have HB2 := Lib.hid hb; clear hb)
          | (refine wstT (TBlk.zero w2) ⟨⟨#[117]⟩, tree, (ours : Int), 0, 1, 0⟩ (.slice none 0 0) rfl rfl _ _ rfl rfl rfl ?_; intro w3 hs ho hbl; have HF := Lib.hid (FT.start HB2.out hs hbl); clear hs ho hbl))
        clear HB2
        generalize w2.heap.size = q at HF ⊢
        have HZ := Lib.hid (Bys.nil_ w3 0)
        have k1 : w3.cell? ⟨q, 4, none⟩ = some (.int .u8 1) := Blk.cell HF.out.tb 4
        go_upto_region 9 with (fail)
        clear k1
        go_upto_region 10 with (first
          | (refine wT HF.out.tb rfl _ rfl rfl ?_)
          | (go_at_call 19; (with_reducible refine (allows_calls _ _ _ _ _).mono ?_); rw [HA1.out]; rintro e w4 ⟨rfl, hb⟩; have HF4 := Lib.hid (HF.out.call hb); clear hb))
        clear HF
        go_upto_region 11 with (first
          | (refine wT HF4.out.tb rfl _ rfl rfl ?_)
          | (go_at_call 20; (with_reducible refine (hello_reads tree ours _ _ cuts (HF4.out.tab HP.out) HK.out (HF4.out.tz HTZ.out) HZ.out.empty_ (HF4.out.cuts HC.out) HTS.out HO.out).mono ?_); rintro e w6 ⟨⟨hu1, av1, rfl, hz, ha, hn⟩, hb⟩; obtain ⟨A1, c1, e1, -⟩ := id ha; rw [hello25] at e1; subst e1; have HF6 := Lib.hid ((HF4.out.call hb).add ha (HF4.out.new_ hn)); have HZ1 := Lib.hid hz; clear hb hz ha hn)
          | (refine wstT HF6.out.tb ⟨⟨#[117]⟩, tree, (ours : Int), 0, 2, 0⟩ hu1 HZ1.out.one rfl _ _ rfl rfl rfl ?_; intro w7 hs ho hbl; have HF7 := Lib.hid (HF6.out.st hs ho hbl); clear hs ho hbl))
        clear HF4 HF6
        have k1 : w7.cell? ⟨q, 4, none⟩ = some (.int .u8 2) := Blk.cell HF7.out.tb 4
        go_upto_region 13 with (fail)
        clear k1
        go_upto_region 16 with (go_at_call 21; (with_reducible refine (hello_answers tree ours theirs _ HK.out HF7.out.hd (HF7.out.tz HTZ.out) (HF7.out.sv HSV.out) HTS.out HO.out H64.out).mono ?_); rintro e wA ⟨⟨av3, rfl, ha, hn⟩, hb⟩; obtain ⟨A3, c3, e3, -⟩ := id ha; rw [line33] at e3; subst e3; have HFA := Lib.hid ((HF7.out.call hb).add ha (HF7.out.new_ hn)); clear hb ha hn)
        clear HF7
        go_upto_region 17 with (first
          | (refine wT HFA.out.tb rfl _ rfl rfl ?_)
          | (go_at_call 22; (with_reducible refine (own_line_writes tree ours theirs _ _ _ cuts (HFA.out.tab HP.out) HK.out (HFA.out.tz HTZ.out) (HFA.out.sv HSV.out) HZ1.out.empty_ HFA.out.hd (HFA.out.cuts HC.out) HTS.out HO.out H64.out).mono ?_); rintro e wB ⟨⟨hu3, rfl, hz⟩, hb⟩; have HFB := Lib.hid (HFA.out.call hb); have HZ3 := Lib.hid hz; clear hb hz)
          | (refine wstT HFB.out.tb ⟨⟨#[117]⟩, tree, (ours : Int), (theirs : Int), 3, 0⟩ hu3 HZ3.out.one rfl _ _ rfl rfl rfl ?_; intro wC hs ho hbl; have HFC := Lib.hid (HFB.out.st hs ho hbl); clear hs ho hbl))
        clear HFA HFB
        go_upto_region 18 with (first
          | (refine wT HFC.out.tb rfl _ rfl rfl ?_)
          | (go_at_call 19; (with_reducible refine (allows_calls _ _ _ _ _).mono ?_); rw [HA3.out]; rintro e wD ⟨rfl, hb⟩; have HFD := Lib.hid (HFC.out.call hb); clear hb))
        clear HFC
        have k1 : wD.cell? ⟨q, 4, none⟩ = some (.int .u8 3) := Blk.cell HFD.out.tb 4
        go_upto_region 20 with (fail)
        clear k1
        go_upto_region 21 with (first
          | (refine wT HFD.out.tb rfl _ rfl rfl ?_)
          | (go_at_call 20; (with_reducible refine (proof_reads tree ours theirs _ _ cuts (HFD.out.tab HP.out) HK.out (HFD.out.tz HTZ.out) HZ3.out.empty_ (HFD.out.cuts HC.out) HTS.out HO.out).mono ?_); rintro e wE ⟨⟨hu5, av5, rfl, hz, ha, hn⟩, hb⟩; obtain ⟨A5, c5, e5, -⟩ := id ha; rw [shown17] at e5; subst e5; have HFE := Lib.hid ((HFD.out.call hb).add ha (HFD.out.new_ hn)); have HZ5 := Lib.hid hz; clear hb hz ha hn)
          | (refine wstT HFE.out.tb ⟨⟨#[117]⟩, tree, (ours : Int), (theirs : Int), 4, 0⟩ hu5 HZ5.out.one rfl _ _ rfl rfl rfl ?_; intro wF hs ho hbl; have HFF := Lib.hid (HFE.out.st hs ho hbl); clear hs ho hbl))
        clear HFD HFE
        go_upto_region 22 with (go_at_call 23; (with_reducible refine (own_confirms tree ours theirs _ _ HK.out HFF.out.tl.tl.hd HFF.out.hd (HFF.out.tz HTZ.out) (HFF.out.sv HSV.out) HTS.out HO.out H64.out).mono ?_); rintro e wG ⟨rfl, hb⟩; have HFG := Lib.hid (HFF.out.call hb); clear hb)
        clear HFF
        have k1 : wG.cell? ⟨q, 4, none⟩ = some (.int .u8 4) := Blk.cell HFG.out.tb 4
        go_upto_region 24 with (fail)
        clear k1
        go_upto_region 25 with (first
          | (refine wT HFG.out.tb rfl _ rfl rfl ?_)
          | (go_at_call 19; (with_reducible refine (allows_calls _ _ _ _ _).mono ?_); rw [HAY.out]; rintro e wH ⟨rfl, hb⟩; have HFH := Lib.hid (HFG.out.call hb); clear hb))
        clear HFG
        go_upto_region 26 with (first
          | (refine wT HFH.out.tb rfl _ rfl rfl ?_)
          | (go_at_call 19; (with_reducible refine (allows_calls _ _ _ _ _).mono ?_); rw [HAV.out]; rintro e wI ⟨rfl, hb⟩; have HFI := Lib.hid (HFH.out.call hb); clear hb))
        clear HFH
        go_upto_region 27 with (first
          | (refine wT HFI.out.tb rfl _ rfl rfl ?_)
          | (go_at_call 19; (with_reducible refine (allows_calls _ _ _ _ _).mono ?_); rw [HAG.out]; rintro e wJ ⟨rfl, hb⟩; have HFJ := Lib.hid (HFI.out.call hb); clear hb))
        clear HFI
        have hq1 := Q1.out
        have hq2 := Q2.out
        go_wp2_with fail
        go_ret
        exact ⟨rfl, HB.out.trans (HFJ.out.low.mono HB.out.size)⟩
theorem comes_ints (key tree other : ByteArray) (a b : Int) (cv : Value) (cuts : List Int) (w : World) (hr : Ready w ∧ TZ w ∧ SV w) (hc : Cuts w w.heap.size cv cuts) (ha : (Lit.int .u64 a).wf = true) (hb : (Lit.int .u64 b).wf = true) :
    Calls Tryz.prog 6 #[.string key, .string tree, .int .u64 a, .int .u64 b, cv, .string other] w fun e w' => e = .returned (.bool true) ∧ Below w.heap.size w w' := by
  obtain ⟨x, rfl, hx⟩ := u64_nat ha
  obtain ⟨y, rfl, hy⟩ := u64_nat hb
  exact comes_calls key tree other x y cv cuts w hr.1 hr.2.1 hr.2.2 hc hx hy
end Go.Proofs.YtlenlldiimohjaaGreatDoor
