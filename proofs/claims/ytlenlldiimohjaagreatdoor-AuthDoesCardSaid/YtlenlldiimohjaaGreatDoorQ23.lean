/-
  ADoJ AActs2 AOps AFrame: what AuthDoes needs of them.
-/
import Derived.Test.YtlenlldiimohjaaGreatDoorQ20
import Derived.Test.YtlenlldiimohjaaGreatDoorQ21
import Derived.Test.YtlenlldiimohjaaGreatDoorQ22
import Derived.Test.YtlenlldiimohjaaGreatDoorQ08
import Derived.Test.YtlenlldiimohjaaGreatDoorQ06
import Derived.Deep.Strs
import Derived.ChangeSlices
import Derived.Clock
import Derived.Test.YtlenlldiimohjaaGreatDoorQ16
import Derived.Test.YtlenlldiimohjaaGreatDoorQ07
import Derived.Lib.LaidTab
namespace Go.Proofs.YtlenlldiimohjaaGreatDoor
open Go.RowKit SumLaw

/-- A step. -/
theorem wstep_calls {W0 w : World} {q gu gr lo n m : Nat} {L : List Acct} (hd : DT W0 gu gr L) (h : DW W0 q gu gr lo n m (fun _ => False) w) (hl0 : 0 < lo) (o : OpD) (v : OpV) (hok : OpOk W0 W0.heap.size o v) (hw : o.weight ≤ 268435456) (hn : n ≤ 268435456) (hm : m ≤ 268435456) :
    Calls Tryz.prog 30 #[.pointer (some ⟨q, 0, none⟩), opV o v] w fun e w' => StepE W0 q gu gr lo n m e w' := by
  by_cases h1 : o.kind = 1
  · exact step1_calls hd h hl0 o v hok hw hn hm h1
  by_cases h2 : o.kind = 2
  · exact step2_calls hd h hl0 o v hok hw hn hm h2
  by_cases h3 : o.kind = 3
  · exact step3_calls hd h hl0 o v hok hw hn hm h3
  by_cases h4 : o.kind = 4
  · exact step4_calls hd h hl0 o v hok hw hn hm h4
  by_cases h5 : o.kind = 5
  · exact step5_calls hd h hl0 o v hok hw hn hm h5
  by_cases h6 : o.kind = 6
  · exact step6_calls hd h hl0 o v hok hw hn hm h6
  by_cases h7 : o.kind = 7
  · exact step7_calls hd h hl0 o v hok hw hn hm h7
  by_cases h8 : o.kind = 8
  · exact step8_calls hd h hl0 o v hok hw hn hm h8
  by_cases h9 : o.kind = 9
  · exact step9_calls hd h hl0 o v hok hw hn hm h9
  exact step0_calls hd h hl0 o v hok hw hn hm ⟨beq_false_of_ne h1, beq_false_of_ne h2, beq_false_of_ne h3, beq_false_of_ne h4, beq_false_of_ne h5, beq_false_of_ne h6, beq_false_of_ne h7, beq_false_of_ne h8, beq_false_of_ne h9⟩
theorem UInts.nil_ (w : World) (B : Nat) : UInts w B (.slice none 0 0) [] := ⟨none, 0, rfl, Nat.le_refl _, Nat.zero_le _, Reads.none_⟩
/-- The last step: Read of the last Talk. -/
abbrev lastOp (a : Int) : OpD := ⟨4, a, 9, ⟨#[]⟩, ⟨#[]⟩, ⟨#[]⟩, 0, [], [], [], []⟩
theorem lastOp_ok (w : World) (B : Nat) (a : Int) (h : -9223372036854775808 ≤ a ∧ a ≤ 9223372036854775807) : OpOk w B (lastOp a) opZV := ⟨UInts.nil_ _ _, UInts.nil_ _ _, Bys.nil_ _ _, Bys.nil_ _ _, h, (show (-9223372036854775808 : Int) ≤ 9 ∧ (9 : Int) ≤ 9223372036854775807 from by decide), (show (0 : Nat) < 18446744073709551616 from by decide)⟩
theorem lastOp_w (a : Int) : (lastOp a).weight ≤ 268435456 := by
  show (100 : Nat) ≤ 268435456
  decide
theorem begin_z {L : List Acct} (h1 : known L zName = true) (h2 : keyOfUser L zName = zKey) : beginS L ⟨#[122, 122, 122]⟩ ⟨#[116]⟩ 5 = (⟨⟨#[122, 122, 122]⟩, ⟨#[116]⟩, 5, 0, 1, 0⟩, 0) := beginS_z ⟨#[116]⟩ 5 h1 h2
theorem zTalk_ok : TalkOk ⟨⟨#[122, 122, 122]⟩, ⟨#[116]⟩, 5, 0, 1, 0⟩ [] := ⟨by decide, by decide, by decide, by decide, .inl ⟨rfl, rfl, by decide, by decide⟩⟩
/-- The law's world as it is made. -/
theorem WB.new (W0 : World) (gu gr : Nat) : WB W0 W0.heap.size gu gr (.slice none 0 0) (.slice none 0 0) (.slice none 0 0) (.slice none 0 0) [] [] [] (W0.alloc (Obj.cells (worldL gu gr (.slice none 0 0) (.slice none 0 0) (.slice none 0 0) (.slice none 0 0)).toArray 86)) :=
  ⟨⟨(Below.refl _ _).alloc (Nat.le_refl _) _, Nat.le_refl _, Blk.new W0 _ _, ⟨rfl, .inl ⟨rfl, rfl⟩⟩, ⟨rfl, .inl ⟨rfl, rfl⟩⟩, ⟨rfl, .inl ⟨rfl, rfl⟩⟩, ⟨rfl, .inl ⟨rfl, rfl⟩⟩, (fun k hk => by cases hk), (fun k hk => by cases hk)⟩,
    ⟨(fun p hp => by cases hp), (fun i j x y _ hx => by cases hx)⟩, ⟨(fun p hp => by cases hp), (fun i j x y _ hx => by cases hx)⟩, (fun x hx => by cases hx), (fun x hx => by cases hx)⟩
set_option maxRecDepth 100000 in
set_option maxHeartbeats 12800000 in
theorem adoes_calls (text : ByteArray) (v : Value) (xs : List OpD) (w : World) (hr : Ready w) (htz : TZ w) (hsv : SV w) (h : Ops w w.heap.size v xs) (ht : text.size ≤ 9007199254740992) :
    Calls Tryz.prog 7 #[.string text, v] w fun e w' => e = .returned (.bool true) ∧ Below w.heap.size w w' := by
  have HX := Lib.hid h
  obtain ⟨A, cap, rfl, hlc, hcm, hat⟩ := h
  unfold maxLen at hcm
  have HAT := Lib.hid hat
  have HR := Lib.hid hr
  have HTZ := Lib.hid htz
  have HSV := Lib.hid hsv
  have HT := Lib.hid ht
  clear hr htz hsv ht hat
  go_enter Tryz.func7, Tryz.ntmps7
  go_upto_region 2 with (go_at_call 24; (with_reducible refine (beyond_calls text _ xs _ HX.out HT.out).mono ?_); rintro e w1 ⟨⟨far, rfl, hfar⟩, hb⟩; have HF := Lib.hid hfar; have HB1 := Lib.hid hb; clear hfar hb)
  cases far with
  | true =>
    go_wp2_with fail
    go_ret
    exact ⟨rfl, HB1.out⟩
  | false =>
    have HS := Lib.hid (HF.out rfl)
    have HTX := Lib.hid (show text.size ≤ 268435456 from by have := HS.out; omega)
    have HXL := Lib.hid (show 100 * xs.length ≤ 268435456 from by have := HS.out; have := wsum_len xs; omega)
    clear HF HT
    go_upto_region 4 with (fail)
    go_cut [6, 7] (fun r e wx => ∃ (rp : Option Addr) (er : Int), r = .pointer rp ∧ e = .int .i64 er ∧ Below w1.heap.size w1 wx ∧ ((∃ g L, rp = some ⟨g, 0, none⟩ ∧ er = 0 ∧ RTab wx g L) ∨ rp = none))
    case first =>
      cases hp : parse text with
      | error er =>
        obtain ⟨er, nl⟩ := er
        have HP := Lib.hid hp
        clear hp
        go_wp2_with (go_at_call 25; refine (refParse_calls text _).mono ?_; rintro e w2 ⟨hb, hp⟩; rw [HP.out] at hp; subst hp; have HB2 := Lib.hid hb; clear hb)
        go_meet
        case rel => exact ⟨_, _, rfl, rfl, HB2.out, .inr rfl⟩
      | ok L =>
        have HP := Lib.hid hp
        clear hp
        go_wp2_with (go_at_call 25; refine (refParse_calls text _).mono ?_; rintro e w2 ⟨hb, hp⟩; rw [HP.out] at hp; obtain ⟨g, hg, rfl, hrt⟩ := hp; have HRT := Lib.hid hrt; have HB2 := Lib.hid hb; clear hb hrt hg)
        go_meet
        case rel => exact ⟨_, _, rfl, rfl, HB2.out, .inl ⟨g, L, rfl, rfl, HRT.out⟩⟩
    rename World => w2
    obtain ⟨rp, er, rfl, rfl, hb2, hor⟩ := hcut
    have HOR := Lib.hid hor
    clear hor
    have HB2 := Lib.hid (HB1.out.trans (hb2.mono HB1.out.size))
    clear hb2 HB1
    go_upto_region 5 with (fail)
    go_cut [40] (fun c wx => ((∃ g L, rp = some ⟨g, 0, none⟩ ∧ c = .bool false ∧ RTab wx g L) ∨ c = .bool true) ∧ Below w2.heap.size w2 wx)
    case first =>
      rcases HOR.out with ⟨g, L, rfl, rfl, hrt⟩ | rfl
      · have HRT := Lib.hid hrt
        clear hrt
        go_wp2_with fail
        go_meet
        case rel => exact ⟨.inl ⟨g, L, rfl, rfl, HRT.out⟩, Below.refl _ _⟩
      · go_wp2_with fail
        go_meet
        case rel => exact ⟨.inr rfl, Below.refl _ _⟩
    rename World => w2a
    obtain ⟨hor2, hb2a⟩ := hcut
    have HOR2 := Lib.hid hor2
    have HB2A := Lib.hid (HB2.out.trans (hb2a.mono HB2.out.size))
    clear hor2 hb2a HB2 HOR
    go_upto_if 40 with (fail)
    go_cut [0, 6] (fun t r wx => ∃ (T : ByteArray) (g : Nat) (L : List Acct), t = .string T ∧ r = .pointer (some ⟨g, 0, none⟩) ∧ T.size ≤ 268435456 ∧ RTab wx g L ∧ Below w2a.heap.size w2a wx)
    case first =>
      rcases HOR2.out with ⟨g, L, rfl, rfl, hrt⟩ | rfl
      · have HRT := Lib.hid hrt
        clear hrt
        go_wp2_with fail
        go_meet
        case rel => exact ⟨text, g, L, rfl, rfl, HTX.out, HRT.out, Below.refl _ _⟩
      · obtain ⟨LP, hpl⟩ := parse_plain
        have HP := Lib.hid hpl
        clear hpl
        go_wp2_with (go_at_call 25; refine (refParse_calls plainText _).mono ?_; rintro e w3 ⟨hb, hp⟩; rw [HP.out] at hp; obtain ⟨g, hg, rfl, hrt⟩ := hp; have HRT := Lib.hid hrt; have HB3 := Lib.hid hb; clear hb hrt hg)
        go_meet
        case rel => exact ⟨plainText, g, LP, rfl, rfl, by decide, HRT.out, HB3.out⟩
    rename World => w3
    clear HOR2
    obtain ⟨T, g, L, rfl, rfl, hts, hrt, hb3⟩ := hcut
    have HRT := Lib.hid hrt
    have HB3 := Lib.hid (HB2A.out.trans (hb3.mono HB2A.out.size))
    clear hrt hb3 HB2A
    obtain ⟨TT, hTT⟩ : ∃ z, T ++ zTail = z := ⟨_, rfl⟩
    obtain ⟨kn, hkn⟩ : ∃ z, known L zName = z := ⟨_, rfl⟩
    have HKN := Lib.hid (show known L ⟨#[122, 122, 122]⟩ = kn from hkn)
    have HTT := Lib.hid hTT
    have hsum : T ++ ⟨#[10, 122, 122, 122, 58, 58, 58, 122, 122]⟩ = TT := hTT
    clear hTT hkn
    go_upto_region 10 with (go_at_call 26; (with_reducible refine (refKnown_calls g L ⟨#[122, 122, 122]⟩ _ HRT.out).mono ?_); rw [HKN.out]; rintro e w4 ⟨rfl, rfl⟩)
    clear hsum
    cases hp : parse TT with
    | error er =>
      obtain ⟨er, nl⟩ := er
      have HP := Lib.hid hp
      clear hp
      go_upto_region 11 with (go_at_call 25; refine (refParse_calls TT _).mono ?_; rintro e w4 ⟨hb, hp⟩; rw [HP.out] at hp; subst hp; have HB4 := Lib.hid (HB3.out.trans (hb.mono HB3.out.size)); clear hb)
      cases kn <;> (go_wp2_with fail; go_ret; exact ⟨rfl, HB4.out⟩)
    | ok L2 =>
      have HP := Lib.hid hp
      have HPZ := Lib.hid (show parse (T ++ zTail) = .ok L2 from by rw [HTT.out]; exact hp)
      clear hp
      go_upto_region 11 with (go_at_call 25; refine (refParse_calls TT _).mono ?_; rintro e w4 ⟨hb, hp⟩; rw [HP.out] at hp; obtain ⟨gv, hg, rfl, hrt⟩ := hp; have HRT4 := Lib.hid hrt; have HB4 := Lib.hid (HB3.out.trans (hb.mono HB3.out.size)); clear hb hrt hg)
      clear HB3 HRT
      cases kn with
      | true =>
        go_wp2_with fail
        go_ret
        exact ⟨rfl, HB4.out⟩
      | false =>
        go_upto_region 14 with (go_at_call 27; refine (parse_calls TT _ (HR.out.below HB4.out (Nat.le_refl _))).mono ?_; rintro e w5 ⟨hb, hp⟩; rw [HP.out] at hp; obtain ⟨gu, hg, rfl, hpt⟩ := hp; have HPT5 := Lib.hid hpt; have HB5 := Lib.hid (HB4.out.trans (hb.mono HB4.out.size)); have HRT5 := Lib.hid (HRT4.out.below hb); clear hb hpt hg)
        have HBZ := Lib.hid (begin_z (parse_z HPZ.out).1 (parse_z HPZ.out).2)
        have HD := Lib.hid (show DT w5 gu gv L2 from ⟨HPT5.out, HRT5.out, HTZ.out.below HB5.out (Nat.le_refl _), HSV.out.below HB5.out (Nat.le_refl _), keys_small' HPZ.out⟩)
        clear HPT5 HRT5 HRT4 HB4 HR HTZ HSV HP HPZ HTT HKN
        have HW7 := Lib.hid (WB.new w5 gu gv)
        go_upto_region 17 with (fail)
        change Code.wp _ _ _ _ (w5.alloc (Obj.cells (worldL gu gv (.slice none 0 0) (.slice none 0 0) (.slice none 0 0) (.slice none 0 0)).toArray 86))
        generalize w5.alloc (Obj.cells (worldL gu gv (.slice none 0 0) (.slice none 0 0) (.slice none 0 0) (.slice none 0 0)).toArray 86) = w7 at HW7 ⊢
        generalize w5.heap.size = q at HW7 ⊢
        have HD7 := Lib.hid (HD.out.below HW7.out.r.low)
        have HZ3 := Lib.hid (show (⟨#[122, 122, 122]⟩ : ByteArray).size ≤ 1099511627776 from by decide)
        go_upto_region 18 with (first
          | (go_at_call 14; (with_reducible refine (begin_calls gu L2 ⟨#[122, 122, 122]⟩ ⟨#[116]⟩ 5 _ HD7.out.pt HZ3.out).mono ?_); rw [HBZ.out]; rintro e w8 ⟨rfl, hb⟩; have HB8 := Lib.hid hb; clear hb)
          | (refine wstT (TBlk.zero w8) ⟨⟨#[122, 122, 122]⟩, ⟨#[116]⟩, 5, 0, 1, 0⟩ (.slice none 0 0) rfl rfl _ _ rfl rfl rfl ?_; intro w9 hs ho hbl; have HX9 := Lib.hid hs; have HB9 := Lib.hid (hbl _ _ (HB8.out.alloc HB8.out.size _) HB8.out.size); clear hs ho hbl))
        clear HB8
        generalize w8.heap.size = xb at HX9 ⊢
        have HW9 := Lib.hid (HW7.out.call HB9.out)
        have HD9 := Lib.hid (HD7.out.below HB9.out)
        clear HW7 HB9
        go_upto_region 19 with (first
          | (go_at_call 28; (with_reducible refine (refBegin_calls gv L2 ⟨#[122, 122, 122]⟩ ⟨#[116]⟩ 5 _ HD9.out.rt).mono ?_); rw [HBZ.out]; rintro e w10 ⟨rfl, hb⟩; have HB10 := Lib.hid hb; clear hb)
          | (refine wstT (TBlk.zero w10) ⟨⟨#[122, 122, 122]⟩, ⟨#[116]⟩, 5, 0, 1, 0⟩ (.slice none 0 0) rfl rfl _ _ rfl rfl rfl ?_; intro w11 hs ho hbl; have HY11 := Lib.hid hs; have HB11 := Lib.hid (hbl _ _ (HB10.out.alloc HB10.out.size _) HB10.out.size); clear hs ho hbl))
        clear HB10
        generalize w10.heap.size = yb at HY11 ⊢
        have HW11 := Lib.hid (HW9.out.call HB11.out)
        have HX11 := Lib.hid (HX9.out.below HB11.out)
        have HF0 := Lib.hid (show ∀ k, (Value.slice none 0 0).ownBlock = some k → Free [] k ∧ Free [] k from fun k hk => by cases hk)
        have HN0 := Lib.hid (show OwnB w11 w5.heap.size (.slice none 0 0) [] from OwnB.nil_ _ _)
        have HLZ := Lib.hid (show ([] : List UInt8).length ≤ 1099511627776 from by decide)
        have HL1 := Lib.hid (show ([] : List TalkW).length ≤ 536870912 from by decide)
        have HL2 := Lib.hid (show ([] : List (Value × List UInt8)).length ≤ 1073741824 from by decide)
        clear HW9 HX9 HB11 HD9 HD7
        go_upto_region 20 with (first
          | (refine wT HX11.out rfl _ rfl rfl ?_)
          | (refine wT HY11.out rfl _ rfl rfl ?_)
          | (go_at_call 29; (with_reducible refine (takes_calls HW11.out ⟨⟨#[122, 122, 122]⟩, ⟨#[116]⟩, 5, 0, 1, 0⟩ (.slice none 0 0) (.slice none 0 0) [] 0 HN0.out HN0.out HF0.out HLZ.out HL1.out HL2.out HL2.out).mono ?_); rintro e w12 ⟨rfl, ⟨vt, vw, vb, vc, c, hwb, hcn⟩, hs⟩; have HW12 := Lib.hid hwb; clear hwb hcn hs))
        have HD12 := Lib.hid (show DW w5 q gu gv 1 1 1 (fun _ => False) w12 from by
          have hw := HW12.out
          rw [if_pos True.intro] at hw
          exact ⟨vt, vw, vb, vc, _, _, _, hw, rfl, fun p hp => by
            rw [List.nil_append, List.mem_singleton] at hp
            subst hp
            exact Nat.zero_le _, fun x hx => by
            rw [List.nil_append, List.mem_singleton] at hx
            subst hx
            exact zTalk_ok, Nat.le_refl _, Nat.le_refl _, Nat.le_refl _, fun _ h => h.elim⟩)
        clear HW11 HW12 HX11 HY11 HN0 HF0
        go_wp2_with fail
        go_loopw [20, 21] (fun i ok wr => ∃ k : Nat, k ≤ xs.length ∧ i = .int .i64 (k : Int) ∧ DW w5 q gu gv 1 (2 * k + 1) (4 * k + 1) (fun _ => False) wr) (fun i _ _ => xs.length - (intOf i).toNat)
        case atStart => exact ⟨0, Nat.zero_le _, rfl, HD12.out⟩
        case round =>
          obtain ⟨k, hk, rfl, hdw⟩ := hrel
          have HDW := Lib.hid hdw
          clear hdw HD12
          by_cases hlt : k < xs.length
          · have hlt' : (k : Int) < (xs.length : Int) := by omega
            obtain ⟨o, ho⟩ : ∃ o, xs[k]? = some o := ⟨_, List.getElem?_eq_getElem hlt⟩
            obtain ⟨a, ov, rfl, hblk, hc, hok, hsm⟩ := HAT.out k o ho
            have HBR := Lib.hid (HB5.out.trans (HDW.out.low.mono HB5.out.size))
            have HC := Lib.hid (show ∀ j u, (opL o ov)[j]? = some u → wr.cell? (a.add (k * 11 + j)) = some u from fun j u hu => (HBR.out.cell (by rw [block_of_add]; exact hblk)).trans (hc j u hu))
            have HOK := Lib.hid ((hok.below HB5.out).more HB5.out.size)
            have HWT := Lib.hid (show o.weight ≤ 268435456 from by have h1 := wsum_mem xs o (List.mem_of_getElem? ho); have h2 := HS.out; omega)
            have HN1 := Lib.hid (show 2 * k + 1 ≤ 268435456 from by have := HXL.out; omega)
            have HN2 := Lib.hid (show 4 * k + 1 ≤ 268435456 from by have := HXL.out; omega)
            have HZ1 := Lib.hid (show 0 < 1 from Nat.zero_lt_one)
            clear hblk hc hok hsm ho
            go_upto_region 26 with (first
              | (refine wOat HC.out rfl _ rfl rfl ?_)
              | (go_at_call 30; (with_reducible refine (wstep_calls HD.out HDW.out HZ1.out o ov HOK.out HWT.out HN1.out HN2.out).mono ?_); rintro e w13 ⟨rfl, hdw⟩; have HDX := Lib.hid hdw; clear hdw))
            go_wp2_with fail
            go_roundw
            case rel => exact ⟨k + 1, by omega, by go_num, HDX.out.more (by omega) (by omega) (fun _ h => h)⟩
            case measure => simp [intOf]; omega
          · have hlt' : ¬ (k : Int) < (xs.length : Int) := by omega
            have HKX := Lib.hid (show k ≤ 2684354 from by have := HXL.out; omega)
            have HDE := Lib.hid (show DW w5 q gu gv 1 5368709 10737417 (fun _ => False) wr from HDW.out.more (by have := HKX.out; omega) (by have := HKX.out; omega) (fun _ h => h))
            clear HDW HKX
            obtain ⟨vt, vw, vb, vc, ts, bl, cl, hwb, hag, -, -, hlo, hnn, -, -⟩ := HDE.out
            obtain ⟨At, capt, rfl, htc, htm⟩ := len_of hwb.r.rt
            unfold maxLen at htm
            have HWE := Lib.hid hwb
            have HAG := Lib.hid hag
            clear hwb hag
            go_upto_region 29 with (go_at_call 31; (with_reducible refine (still_calls HWE.out HAG.out).mono ?_); rintro e w14 ⟨rfl, hb⟩; have HB14 := Lib.hid hb; clear hb)
            have k2 : w14.cell? ⟨q, 2, none⟩ = some (.slice At ts.length capt) := (HWE.out.call HB14.out).q2
            have HDF := Lib.hid (HDE.out.call HB14.out)
            have HOK := Lib.hid (lastOp_ok w5 w5.heap.size ((ts.length : Int) - 1) ⟨by omega, by omega⟩)
            have HN1 := Lib.hid (show 5368709 ≤ 268435456 from by decide)
            have HN2 := Lib.hid (show 10737417 ≤ 268435456 from by decide)
            have HZ1 := Lib.hid (show 0 < 1 from Nat.zero_lt_one)
            have HWT := Lib.hid (lastOp_w ((ts.length : Int) - 1))
            clear HWE HDE HAG HB14
            go_upto_region 30 with (go_at_call 30; (refine (wstep_calls HD.out HDF.out HZ1.out (lastOp ((ts.length : Int) - 1)) opZV HOK.out HWT.out HN1.out HN2.out).mono ?_); rintro e w15 ⟨rfl, hdw⟩; have HDG := Lib.hid hdw; clear hdw)
            clear k2 HDF
            obtain ⟨vt2, vw2, vb2, vc2, ts2, bl2, cl2, hwb2, hag2, hll2, -, -, -, hmm2, -⟩ := HDG.out
            have HWG := Lib.hid hwb2
            have HAG2 := Lib.hid hag2
            have HLL := Lib.hid hll2
            have HMM := Lib.hid (show bl2.length ≤ 1073741824 from by omega)
            clear hwb2 hag2 hll2 hmm2
            go_upto_region 31 with (go_at_call 32; (with_reducible refine (own_all_calls HWG.out HAG2.out HLL.out HMM.out).mono ?_); rintro e w16 ⟨rfl, hb⟩; have HB16 := Lib.hid (HB5.out.trans (hb.mono HB5.out.size)); clear hb)
            go_wp2_with fail
            go_ret
            exact ⟨rfl, HB16.out⟩
end Go.Proofs.YtlenlldiimohjaaGreatDoor
namespace Go.Proofs.YtlenlldiimohjaaGreatDoor
open Go.RowKit Go.ChangeShapes Go.WideShapes

structure Ac where
  tell : Bool
  count : Int
  bytes : List UInt8
instance : Inhabited Ac := ⟨⟨false, 0, []⟩⟩
/-- One act, at an address. -/
def ActAt (w : World) (B : Nat) (a : Addr) (i : Nat) (x : Ac) (bv : Value) : Prop :=
  w.cell? (a.add (i * 3)) = some (.bool x.tell) ∧ w.cell? (a.add (i * 3 + 1)) = some (.int .i64 x.count) ∧ w.cell? (a.add (i * 3 + 2)) = some bv ∧ Bys w B bv x.bytes ∧ -9223372036854775808 ≤ x.count ∧ x.count ≤ 9223372036854775807 ∧ x.bytes.length ≤ 140737488355327
/-- The acts. -/
def Acts (w : World) (B : Nat) (v : Value) (xs : List Ac) : Prop := ∃ A cap, v = .slice A xs.length cap ∧ xs.length ≤ cap ∧ cap ≤ maxLen ∧
  ∀ i, i < xs.length → ∃ a bv, A = some a ∧ a.block < B ∧ ActAt w B a i (xs.getD i default) bv
theorem Acts.below {w w' : World} {B : Nat} {v : Value} {xs : List Ac} (h : Acts w B v xs) (hb : Below B w w') : Acts w' B v xs := by
  obtain ⟨A, cap, e, h1, h2, h3⟩ := h
  refine ⟨A, cap, e, h1, h2, fun i hi => ?_⟩
  obtain ⟨a, bv, hA, hlt, c0, c1, c2, hby, hc⟩ := h3 i hi
  exact ⟨a, bv, hA, hlt, (hb.cell (by rw [block_of_add]; exact hlt)).trans c0, (hb.cell (by rw [block_of_add]; exact hlt)).trans c1, (hb.cell (by rw [block_of_add]; exact hlt)).trans c2, hby.below hb, hc⟩
theorem byte_of7 {n : Int} (h : (Lit.int .u8 n).wf = true) : ∃ k : UInt8, n = (k.toNat : Int) := by
  simp only [Lit.wf, IntKind.min, IntKind.max, IntKind.signed, IntKind.bits, Bool.and_eq_true] at h
  simp at h
  exact ⟨UInt8.ofNat n.toNat, by
    rw [UInt8.toNat_ofNat']
    omega⟩
theorem i64_wf7 {n : Int} (h : (Lit.int .i64 n).wf = true) : -9223372036854775808 ≤ n ∧ n ≤ 9223372036854775807 := by
  simp only [Lit.wf, IntKind.min, IntKind.max, IntKind.signed, IntKind.bits, Bool.and_eq_true] at h
  simpa using h
theorem bytes_of7 : ∀ zs : List Int, (∀ n ∈ zs, (Lit.int .u8 n).wf = true) → ∃ l : List UInt8, l.length = zs.length ∧ byteL l = zs.map (.int .u8)
  | [], _ => ⟨[], rfl, rfl⟩
  | z :: zs, h => by
    obtain ⟨k, hk⟩ := byte_of7 (h z (.head _))
    obtain ⟨l, h1, h2⟩ := bytes_of7 zs (fun n hn => h n (.tail _ hn))
    exact ⟨k :: l, by simp [h1], by simp only [byteL, List.map_cons] at h2 ⊢; rw [h2, hk]⟩
section
variable {H : Type} {enc : TypeId × Value → H} {w : World} {base : Nat} {held : Bool} {fuel : Nat}
theorem ints_open {t e : TypeId} {k : IntKind} {cs : List Value} {x : DataW H × List MemPlace} (ht : Tryz.prog.underlying t = some (.slice e)) (he : Tryz.prog.underlying e = some (.int k)) (hc : Tryz.prog.cellsOf e = 1)
    (h : DataW.trod enc Tryz.prog w base (fun _ => true) held fuel t cs = some x) : ∃ (A : Option Addr) (n cap : Nat) (zs : List Int), cs = [.slice A n cap] ∧ n ≤ cap ∧ cap ≤ maxLen ∧ zs.length = n ∧ Reads w w.heap.size 1 A n (zs.map (.int k)) ∧ (∀ z ∈ zs, (Lit.int k z).wf = true) ∧
      ∀ B, (∀ q ∈ x.1.weights Tryz.prog t, q ≤ B) → n * Tryz.prog.bytesOf e ≤ B := by
  rcases open_ints ht he hc h with ⟨rfl, _⟩ | ⟨a, l, c, zs, rfl, _, hl, hm, hz, rfl, hcell, hwz⟩
  · exact ⟨none, 0, 0, [], rfl, Nat.le_refl _, Nat.zero_le _, rfl, Reads.none_, fun z hz => (by cases hz), fun B _ => (by rw [Nat.zero_mul]; exact Nat.zero_le _)⟩
  · have hz' : zs.length = c := by simpa using hz
    have htl : (zs.take l).length = l := by rw [List.length_take]; omega
    refine ⟨some a, l, c, zs.take l, rfl, hl, hm, htl, ⟨by rw [List.length_map, htl]; omega, fun hn => ⟨a, rfl, Go.Clock.block_lt (hcell 0 (by omega)), fun j u hu => ?_⟩⟩, fun z hz => hwz z (List.mem_of_mem_take hz), fun B hB => ?_⟩
    · rw [List.getElem?_map, Option.map_eq_some_iff] at hu
      obtain ⟨z, hz1, rfl⟩ := hu
      have hj : j < l := by
        have := (List.getElem?_eq_some_iff.1 hz1).1
        omega
      rw [List.getElem?_take_of_lt hj] at hz1
      rw [hcell j (by omega), List.getD_eq_getElem?_getD, hz1]
      rfl
    · have h1 := hB (((lits (H := H) k (zs.take l)).length + (lits (H := H) k (zs.drop l)).length) * Tryz.prog.bytesOf e) (by simp [DataW.weights, ht])
      have h2 : (lits (H := H) k (zs.take l)).length = l := by simp only [lits, List.length_map, htl]
      rw [h2] at h1
      exact Nat.le_trans (Nat.mul_le_mul_right _ (Nat.le_add_right _ _)) h1
theorem bys_open {cs : List Value} {x : DataW H × List MemPlace} (h : DataW.trod enc Tryz.prog w base (fun _ => true) held fuel 47 cs = some x) : ∃ v l, cs = [v] ∧ Bys w w.heap.size v l ∧ ((∀ q ∈ x.1.weights Tryz.prog 47, q ≤ reachBytes) → l.length ≤ 140737488355327) := by
  obtain ⟨A, n, cap, zs, rfl, h1, h2, h3, h4, h5, h6⟩ := ints_open Tryz.underlying47 Tryz.underlying5 (by kernel_rfl) h
  obtain ⟨l, hl1, hl2⟩ := bytes_of7 zs h5
  subst h3
  rw [← hl2, ← hl1] at h4
  refine ⟨_, l, rfl, ⟨A, cap, by rw [hl1], by omega, h2, h4⟩, fun hq => ?_⟩
  have h7 := h6 reachBytes hq
  rw [show Tryz.prog.bytesOf 5 = 1 from by kernel_rfl, Nat.mul_one, ← hl1] at h7
  unfold reachBytes at h7
  omega
theorem weights_all_mem {P : Program} {e : TypeId} : ∀ {l : List (DataW H)} {d : DataW H}, d ∈ l → ∀ k ∈ d.weights P e, k ∈ DataW.weightsAll P e l
  | x :: l, d, hd, k, hk => by
    rw [DataW.weightsAll, List.mem_append]
    rcases List.mem_cons.1 hd with rfl | hd
    · exact .inl hk
    · exact .inr (weights_all_mem hd k hk)
end
end Go.Proofs.YtlenlldiimohjaaGreatDoor
namespace Go.Proofs.YtlenlldiimohjaaGreatDoor
open Go.RowKit Go.ChangeShapes Go.WideShapes

instance : Inhabited OpV := ⟨opZV⟩
section
variable {H : Type} {enc : TypeId × Value → H} {w : World} {base : Nat} {held : Bool} {fuel : Nat}
theorem uints_open {cs : List Value} {x : DataW H × List MemPlace} (h : DataW.trod enc Tryz.prog w base (fun _ => true) held fuel 90 cs = some x) : ∃ v l, cs = [v] ∧ UInts w w.heap.size v l ∧ ((∀ q ∈ x.1.weights Tryz.prog 90, q ≤ reachBytes) → l.length * 8 ≤ 140737488355327) := by
  obtain ⟨A, n, cap, zs, rfl, h1, h2, h3, h4, h5, h6⟩ := ints_open Tryz.underlying90 Tryz.underlying22 (by kernel_rfl) h
  subst h3
  refine ⟨_, zs, rfl, ⟨A, cap, rfl, h1, h2, h4⟩, fun hq => ?_⟩
  have h7 := h6 reachBytes hq
  rw [show Tryz.prog.bytesOf 22 = 8 from by kernel_rfl] at h7
  unfold reachBytes at h7
  omega
theorem u64_wf7 {n : Int} (h : (Lit.int .u64 n).wf = true) : ∃ k : Nat, n = (k : Int) ∧ k < 18446744073709551616 := by
  simp only [Lit.wf, IntKind.min, IntKind.max, IntKind.signed, IntKind.bits, Bool.and_eq_true] at h
  simp at h
  exact ⟨n.toNat, by omega, by omega⟩
theorem sized_leaf {x : DataW H × List MemPlace} {s : ByteArray} (h : DataW.trod enc Tryz.prog w base (fun _ => true) held fuel 9 [.string s] = some x) (hq : ∀ q ∈ x.1.weights Tryz.prog 9, q ≤ reachBytes) : s.size ≤ 140737488355327 := by
  have h7 := hq _ (str_leaf Tryz.underlying9 h)
  unfold reachBytes at h7
  omega
set_option maxRecDepth 100000 in
/-- One step. -/
theorem op_open {fuel' : Nat} {vs : List Value} {x : DataW H × List MemPlace} (h2 : DataW.trod enc Tryz.prog w base (fun _ => true) held fuel' 92 vs = some x) (hlen : vs.length = 11) (hq : ∀ q ∈ x.1.weights Tryz.prog 92, q ≤ reachBytes) :
    ∃ o ov, vs = opL o ov ∧ OpOk w w.heap.size o ov ∧ OpSm o := by
  match vs, hlen with
  | [v0, v1, v2, v3, v4, v5, v6, v7, v8, v9, v10], _ =>
    obtain ⟨m0, y0, g0, hy0⟩ := str_at Tryz.underlying92 h2 0 rfl 3 rfl (show Tryz.prog.cellsOf 3 = 1 by kernel_rfl) [v0] rfl
    obtain ⟨m1, y1, g1, hy1⟩ := str_at Tryz.underlying92 h2 1 rfl 3 rfl (show Tryz.prog.cellsOf 3 = 1 by kernel_rfl) [v1] rfl
    obtain ⟨m2, y2, g2, hy2⟩ := str_at Tryz.underlying92 h2 2 rfl 3 rfl (show Tryz.prog.cellsOf 3 = 1 by kernel_rfl) [v2] rfl
    obtain ⟨m3, y3, g3, hy3⟩ := str_at Tryz.underlying92 h2 3 rfl 9 rfl (show Tryz.prog.cellsOf 9 = 1 by kernel_rfl) [v3] rfl
    obtain ⟨m4, y4, g4, hy4⟩ := str_at Tryz.underlying92 h2 4 rfl 9 rfl (show Tryz.prog.cellsOf 9 = 1 by kernel_rfl) [v4] rfl
    obtain ⟨m5, y5, g5, hy5⟩ := str_at Tryz.underlying92 h2 5 rfl 9 rfl (show Tryz.prog.cellsOf 9 = 1 by kernel_rfl) [v5] rfl
    obtain ⟨m6, y6, g6, hy6⟩ := str_at Tryz.underlying92 h2 6 rfl 22 rfl (show Tryz.prog.cellsOf 22 = 1 by kernel_rfl) [v6] rfl
    obtain ⟨m7, y7, g7, hy7⟩ := str_at Tryz.underlying92 h2 7 rfl 90 rfl (show Tryz.prog.cellsOf 90 = 1 by kernel_rfl) [v7] rfl
    obtain ⟨m8, y8, g8, hy8⟩ := str_at Tryz.underlying92 h2 8 rfl 90 rfl (show Tryz.prog.cellsOf 90 = 1 by kernel_rfl) [v8] rfl
    obtain ⟨m9, y9, g9, hy9⟩ := str_at Tryz.underlying92 h2 9 rfl 47 rfl (show Tryz.prog.cellsOf 47 = 1 by kernel_rfl) [v9] rfl
    obtain ⟨m10, y10, g10, hy10⟩ := str_at Tryz.underlying92 h2 10 rfl 47 rfl (show Tryz.prog.cellsOf 47 = 1 by kernel_rfl) [v10] rfl
    obtain ⟨z0, e0, -, w0⟩ := DataW.trod_int Tryz.underlying3 g0
    injection e0 with e0
    subst e0
    obtain ⟨z1, e1, -, w1⟩ := DataW.trod_int Tryz.underlying3 g1
    injection e1 with e1
    subst e1
    obtain ⟨z2, e2, -, w2⟩ := DataW.trod_int Tryz.underlying3 g2
    injection e2 with e2
    subst e2
    obtain ⟨z3, e3, -, -⟩ := DataW.trod_string Tryz.underlying9 g3
    injection e3 with e3
    subst e3
    have s3 := sized_leaf g3 (fun k hk => hq k (hy3 k hk))
    obtain ⟨z4, e4, -, -⟩ := DataW.trod_string Tryz.underlying9 g4
    injection e4 with e4
    subst e4
    have s4 := sized_leaf g4 (fun k hk => hq k (hy4 k hk))
    obtain ⟨z5, e5, -, -⟩ := DataW.trod_string Tryz.underlying9 g5
    injection e5 with e5
    subst e5
    have s5 := sized_leaf g5 (fun k hk => hq k (hy5 k hk))
    obtain ⟨z6, e6, -, w6⟩ := DataW.trod_int Tryz.underlying22 g6
    injection e6 with e6
    subst e6
    obtain ⟨sd, rfl, hsd⟩ := u64_wf7 w6
    obtain ⟨b7, l, hb7, hu7, hw7⟩ := uints_open g7
    injection hb7 with hb7
    subst hb7
    have s7 := hw7 (fun k hk => hq k (hy7 k hk))
    obtain ⟨b8, m, hb8, hu8, hw8⟩ := uints_open g8
    injection hb8 with hb8
    subst hb8
    have s8 := hw8 (fun k hk => hq k (hy8 k hk))
    obtain ⟨b9, b, hb9, hu9, hw9⟩ := bys_open g9
    injection hb9 with hb9
    subst hb9
    have s9 := hw9 (fun k hk => hq k (hy9 k hk))
    obtain ⟨b10, c, hb10, hu10, hw10⟩ := bys_open g10
    injection hb10 with hb10
    subst hb10
    have s10 := hw10 (fun k hk => hq k (hy10 k hk))
    refine ⟨⟨z0, z1, z2, z3, z4, z5, sd, l, m, b, c⟩, ⟨v7, v8, v9, v10⟩, rfl, ⟨hu7, hu8, hu9, hu10, i64_wf7 w1, i64_wf7 w2, hsd⟩, ?_⟩
    unfold OpSm OpD.weight
    dsimp only
    omega
set_option maxRecDepth 100000 in
theorem ops_open {cs : List Value} {x : DataW H × List MemPlace} (h : DataW.trod enc Tryz.prog w base (fun _ => true) held fuel 75 cs = some x) (hq : ∀ q ∈ x.1.weights Tryz.prog 75, q ≤ reachBytes) : ∃ v xs, cs = [v] ∧ Ops w w.heap.size v xs := by
  rcases Go.Deep.open_slice Tryz.underlying75 h with ⟨rfl, _⟩ | ⟨a, len, cap, m, n, D, Pl, rfl, hb, hl, hm, hmm, rfl, hx⟩
  · exact ⟨_, [], rfl, none, 0, rfl, Nat.le_refl _, Nat.zero_le _, fun i o hi => by cases hi⟩
  · have hmc : m = cap := by simpa using hmm
    have hce : Tryz.prog.cellsOf 92 = 11 := by kernel_rfl
    obtain ⟨f, hf⟩ := Go.Deep.choose_lt (n := len) (p := fun i (q : OpD × OpV) => a.block < w.heap.size ∧ (∀ j u, (opL q.1 q.2)[j]? = some u → w.cell? (a.add (i * 11 + j)) = some u) ∧ OpOk w w.heap.size q.1 q.2 ∧ OpSm q.1) (fun i hi => by
      obtain ⟨cs', h1, h2⟩ := hx i (by omega)
      have hqi : ∀ k ∈ (D i).weights Tryz.prog 92, k ≤ reachBytes := fun k hk => hq k (by
        simp only [DataW.weights, Tryz.underlying75]
        exact .tail _ (List.mem_append_left _ (weights_all_mem (List.mem_map.2 ⟨i, List.mem_range.2 hi, rfl⟩) k hk)))
      rw [hce] at h1
      obtain ⟨_, hlen, hcell⟩ := World.cells?_some h1
      obtain ⟨o, ov, rfl, hok, hsm⟩ := op_open h2 hlen hqi
      refine ⟨(o, ov), ?_, fun j u hu => ?_, hok, hsm⟩
      · have c0 := hcell 0 (by omega)
        rw [add_of_add] at c0
        have := Go.Clock.block_lt c0
        rwa [block_of_add] at this
      · have hj : j < 11 := (List.getElem?_eq_some_iff.1 hu).1
        have c0 := hcell j (by omega)
        rw [add_of_add] at c0
        rw [c0]
        exact hu)
    refine ⟨_, (List.range len).map fun i => (f i).1, rfl, some a, cap, by simp, by simpa using hl, hm, fun i o hi => ?_⟩
    have hi' : i < len := by
      have := (List.getElem?_eq_some_iff.1 hi).1
      simpa using this
    have ho : o = (f i).1 := by
      rw [List.getElem?_map, List.getElem?_range hi'] at hi
      exact (Option.some.inj hi).symm
    subst ho
    exact ⟨a, (f i).2, rfl, (hf i hi').1, (hf i hi').2.1, (hf i hi').2.2⟩
end
end Go.Proofs.YtlenlldiimohjaaGreatDoor
namespace Go.Proofs.YtlenlldiimohjaaGreatDoor
open Go.ChangeShapes Go.WideShapes Go.ChangeAt Go.RowKit

abbrev laidA : List (String × DataW Unit) := [("math/bits.deBruijn32tab", Rows.laid_math_bits_deBruijn32tab), ("math/bits.deBruijn64tab", Rows.laid_math_bits_deBruijn64tab), ("internal/strconv.uint64pow10", Rows.laid_internal_strconv_uint64pow10), ("unicode/utf8.acceptRanges", Rows.laid_unicode_utf8_acceptRanges), ("strconv.ErrRange", Rows.laid_strconv_ErrRange), ("strconv.ErrSyntax", Rows.laid_strconv_ErrSyntax), ("unicode/utf8.first", Rows.laid_unicode_utf8_first)]
def tab64 : List Int := [0, 1, 56, 2, 57, 49, 28, 3, 61, 58, 42, 50, 38, 29, 17, 4, 62, 47, 59, 36, 45, 43, 51, 22, 53, 39, 33, 30, 24, 18, 12, 5, 63, 55, 48, 27, 60, 41, 37, 16, 46, 35, 44, 21, 52, 32, 23, 11, 54, 26, 40, 15, 34, 20, 31, 10, 25, 14, 19, 9, 13, 8, 7, 6]
theorem tab64_eq : (Rows.laid_math_bits_deBruijn64tab : DataW Unit) = Lib.tabData .u8 tab64 := by kernel_rfl
theorem tz_of {W : World} (h : Lib.VarReads Tryz.prog W "math/bits.deBruijn64tab" Rows.laid_math_bits_deBruijn64tab) : TZ W := by
  rw [tab64_eq] at h
  obtain ⟨g, t, cs, fuel, p, h1, h2, h3, h4⟩ := h
  obtain rfl : 7 = g := Option.some.inj ((show Tryz.prog.globalNamed "math/bits.deBruijn64tab" = some 7 from by kernel_rfl).symm.trans h1)
  obtain rfl : 255 = t := Option.some.inj ((show (Tryz.prog.globals[7]?).map (·.type) = some 255 from by kernel_rfl).symm.trans h2)
  have hc := Lib.cells_of_tab (P := Tryz.prog) (n := 64) (e := 5) Tryz.underlying255 Tryz.underlying5 (by kernel_rfl) (by kernel_rfl) h4
  have ht : Lib.TabIs Tryz.prog W "math/bits.deBruijn64tab" .u8 tab64 := by
    unfold Lib.TabIs
    rw [h3, ← hc]
  exact ht.cell h1 15 (by decide)
theorem sv_of {W : World} (h : Lib.VarReads Tryz.prog W "strconv.ErrSyntax" Rows.laid_strconv_ErrSyntax) : SV W := by
  obtain ⟨g, t, cs, fuel, p, h1, h2, h3, h4⟩ := h
  obtain rfl : 0 = g := Option.some.inj ((show Tryz.prog.globalNamed "strconv.ErrSyntax" = some 0 from by kernel_rfl).symm.trans h1)
  obtain rfl : 175 = t := Option.some.inj ((show (Tryz.prog.globals[0]?).map (·.type) = some 175 from by kernel_rfl).symm.trans h2)
  obtain ⟨fuel', u, v, hcs, -, -⟩ := iface_of_trod (H := Unit) Tryz.underlying175 h4
  have hc := World.var?_cell h1 h3 0
  refine ⟨.iface u v, ?_, .inr ⟨u, v, rfl⟩⟩
  rw [hc]
  have : cs = #[.iface u v] := by
    rw [← Array.toList_inj, hcs]
  rw [this]
  rfl
theorem ready_ofA {W : World} (hL : laidMetH Tryz.prog laidA W) (hS : W.ShapedOpen Tryz.prog) : Ready W ∧ TZ W ∧ SV W := by
  rw [MakeChecks.laidMetH_plain _ _ _ (by kernel_rfl)] at hL
  have h1 := Lib.laidMet.reads hL (.tail _ (.tail _ (.tail _ (.head _))))
  have h2 := Lib.laidMet.reads hL (.tail _ (.tail _ (.tail _ (.tail _ (.tail _ (.tail _ (.head _)))))))
  have h3 := Lib.laidMet.reads hL (.tail _ (.head _))
  have h4 := Lib.laidMet.reads hL (.tail _ (.tail _ (.tail _ (.tail _ (.tail _ (.head _))))))
  rw [accept_eq] at h1
  rw [first_eq] at h2
  exact ⟨⟨utf8Tabs_of_reads Tryz.lays260 ⟨by kernel_rfl, by kernel_rfl, by kernel_rfl, by kernel_rfl, by kernel_rfl, by kernel_rfl, by kernel_rfl⟩ h2 h1,
    cell_of_shapedOpen_int (t := 3) (zero := #[.int .i64 0]) hS (of_decide_eq_true (by kernel_rfl)) (by kernel_rfl) rfl (by kernel_rfl) (by kernel_rfl) Tryz.underlying3⟩, tz_of h3, sv_of h4⟩
end Go.Proofs.YtlenlldiimohjaaGreatDoor
