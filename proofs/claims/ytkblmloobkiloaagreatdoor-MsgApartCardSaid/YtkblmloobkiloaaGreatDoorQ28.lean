/-
  MWL MWK MFR MO: what the laws of package msg need of them.
-/
import Derived.Test.YtkblmloobkiloaaGreatDoorQ06
import Derived.KernelRfl
import Derived.Test.YtkblmloobkiloaaGreatDoorQ26
import Derived.Test.YtkblmloobkiloaaGreatDoorQ27
import Derived.Test.YtkblmloobkiloaaGreatDoorQ02
import Derived.Test.YtkblmloobkiloaaGreatDoorTie
import Derived.ProofKit
import Derived.OpenShut
import Derived.LaidMore
import Derived.Lay
import Derived.SevenTiedAt
import Derived.Stop.Joined
import Derived.HandedShaped
import Derived.Lib.LaidU8
import Derived.Lib.LaidTab
import Derived.Shelf.Vars
import Derived.Test.YtkblmloobkiloaaGreatDoorQ05
import Derived.Test.YtkblmloobkiloaaGreatDoorQ20
import Derived.Deep.Strs
import Derived.ChangeSlices
import Derived.Clock
namespace Go.Proofs.YtkblmloobkiloaaGreatDoor

abbrev exV : ByteArray := ⟨#[57, 80, 50, 48, 48, 48]⟩
def exA : Mg := { head 100 65535 with msize := 8192, version := exV }
def exB : Mg := { head 110 3 with fid := 1, newfid := 2, names := [⟨#[97]⟩, ⟨#[46, 46]⟩] }
def exF : List UInt8 := [24, 0, 0, 0, 110, 3, 0, 1, 0, 0, 0, 2, 0, 0, 0, 2, 0, 1, 0, 97, 2, 0, 46, 46]
def exL : List UInt8 := [84, 118, 101, 114, 115, 105, 111, 110, 32, 54, 53, 53, 51, 53, 32, 109, 115, 105, 122, 101, 61, 56, 49, 57, 50, 32, 118, 101, 114, 115, 105, 111, 110, 61, 34, 57, 80, 50, 48, 48, 48, 34]
theorem exA_ok : exA.ok := ⟨by decide, by decide, by decide, by decide, by decide, by decide, by decide, by decide, by decide, by decide, by decide, by decide, fun q h => (by cases h), ⟨by decide, by decide, by decide⟩, ⟨by decide, by decide, ⟨by decide, by decide, by decide⟩, by decide, by decide, by decide, by decide⟩⟩
theorem exB_ok : exB.ok := ⟨by decide, by decide, by decide, by decide, by decide, by decide, by decide, by decide, by decide, by decide, by decide, by decide, fun q h => (by cases h), ⟨by decide, by decide, by decide⟩, ⟨by decide, by decide, ⟨by decide, by decide, by decide⟩, by decide, by decide, by decide, by decide⟩⟩
theorem exA_ref : refused exA = (0, 19) := by kernel_rfl
theorem exB_ref : refused exB = (0, 24) := by kernel_rfl
theorem exA_enc : enc exA = ([19, 0, 0, 0, 100, 255, 255, 0, 32, 0, 0, 6, 0, 57, 80, 50, 48, 48, 48], 0) := by kernel_rfl
theorem exB_enc : enc exB = (exF, 0) := by kernel_rfl
theorem exA_text : textM exA = exL := by kernel_rfl
theorem exB_text : textM exB = [84, 119, 97, 108, 107, 32, 51, 32, 102, 105, 100, 61, 49, 32, 110, 101, 119, 102, 105, 100, 61, 50, 32, 110, 97, 109, 101, 115, 61, 91, 34, 97, 34, 32, 34, 46, 46, 34, 93] := by kernel_rfl
theorem exB_dec : dec exF = (exB, 0) := by
  have h := dec_enc exB_ok (by rw [exB_ref])
  rw [exB_enc] at h
  exact h
theorem exA_parse : parseM exL = (exA, 0, 0) := by
  have h := parse_text exA_ok (by rw [exA_ref])
  rw [exA_text] at h
  exact h
end Go.Proofs.YtkblmloobkiloaaGreatDoor
namespace Go.Proofs.YtkblmloobkiloaaGreatDoor
open Go.RowKit

theorem exA_small : exA.small := fun f => by cases f <;> decide
theorem exB_small : exB.small := fun f => by cases f <;> decide
theorem Nams.new (w : World) (t : TypeId) (l : List ByteArray) (hl : l.length ≤ maxLen) : Nams (w.alloc (.cells (strL l).toArray t)) (w.heap.size + 1) (.slice (some ⟨w.heap.size, 0, none⟩) l.length l.length) l :=
  ⟨_, _, rfl, Nat.le_refl _, hl, readsNew w t (strL l) l.length 1 (by simp)⟩
theorem Bys.new (w : World) (t : TypeId) (l : List UInt8) (hl : l.length ≤ maxLen) : Bys (w.alloc (.cells (byteL l).toArray t)) (w.heap.size + 1) (.slice (some ⟨w.heap.size, 0, none⟩) l.length l.length) l :=
  ⟨_, _, rfl, Nat.le_refl _, hl, readsNew w t (byteL l) l.length 1 (by simp)⟩
set_option maxRecDepth 100000 in
set_option maxHeartbeats 6400000 in
theorem works_calls (w : World) (hse : SE w) (hrd : Ready w) (htp : TP w) : Calls Tryz.prog 12 #[] w fun e w' => e = .returned (.bool true) ∧ Below w.heap.size w w' := by
  have H8 := Lib.hid hrd.eight
  have HSE := Lib.hid hse
  have HTP := Lib.hid htp
  have HR := Lib.hid hrd
  clear hse hrd htp
  go_enter Tryz.func12, Tryz.ntmps12
  go_upto_region 2 with (change wpList _ _ _ _ _ (w.alloc (.cells (mgN (head 0 0)).toArray 41)); have hup : Below w.heap.size w (w.alloc (.cells (mgN (head 0 0)).toArray 41)) := (Below.refl _ _).alloc (Nat.le_refl _) _; have HM0 := Lib.hid (show MBlk (w.alloc (.cells (mgN (head 0 0)).toArray 41)) w.heap.size (head 0 0) (.slice none 0 0) (.slice none 0 0) (.slice none 0 0) from Blk.new w _ _); have HB0 := Lib.hid hup; have HR0 := Lib.hid (HR.out.below hup (Nat.le_refl _)); clear hup; generalize w.alloc (.cells (mgN (head 0 0)).toArray 41) = w0 at HM0 HB0 HR0 ⊢; refine wstK HM0.out 0 (mgN exA) _ (over_msg ..) (Nat.le_refl 36) (msg_one _ rfl rfl rfl) rfl _ _ _ rfl rfl rfl msg_size ?_; intro w1 hs ho; have HM1 := Lib.hid (show MBlk w1 w.heap.size exA (.slice none 0 0) (.slice none 0 0) (.slice none 0 0) from hs); have HO1 := Lib.hid (ho (fun i => i = w.heap.size) rfl w0 (Off.refl _ _)); clear hs ho)
  have hb1 : Below w.heap.size w0 w1 := HO1.out.below (fun k hk => by have hk : k = w.heap.size := hk; omega) HB0.out.size
  have HB1 := Lib.hid (HB0.out.trans hb1)
  have HR1 := Lib.hid (HR0.out.low hb1 HR.out.eight)
  generalize hz : w.heap.size = z at HM1 ⊢
  have HZ := Lib.hid hz
  clear hz hb1 HM0 HB0 HR0 HO1
  have HEN := Lib.hid (encode_calls exA _ _ _ w1 exA_ok ⟨Nams.nil_ _ _, Qids.nil_ _ _, Bys.nil_ _ _⟩ HR1.out exA_small)
  rw [exA_enc] at HEN
  go_wp2_with (refine wlw HM1.out 0 (msgL exA (.slice none 0 0) (.slice none 0 0) (.slice none 0 0)) rfl rfl _ _ rfl rfl _ Tryz.underlying41 rfl msg_size ?_)
  refine HEN.out.mono ?_
  rintro e w2 ⟨⟨v, rfl, hown⟩, hb⟩
  dsimp only at hown
  have HF2 := Lib.hid (Bys.of_own hown)
  have HM2 := Lib.hid (Blk.below HM1.out hb (Blk.lt HM1.out))
  have HB2 := Lib.hid (HB1.out.trans (hb.mono HB1.out.size))
  have HR2 := Lib.hid (HR1.out.below hb (Nat.le_refl _))
  clear hown hb HEN HM1 HB1 HR1
  go_wp2_with fail
  have hup : Below w2.heap.size w2 (w2.alloc (.cells (strL exB.names).toArray 9)) := (Below.refl _ _).alloc (Nat.le_refl _) _
  have HN3 := Lib.hid (show Nams (w2.alloc (.cells (strL exB.names).toArray 9)) (w2.alloc (.cells (strL exB.names).toArray 9)).heap.size (.slice (some ⟨w2.heap.size, 0, none⟩) 2 2) exB.names from by rw [World.size_alloc]; exact Nams.new w2 _ exB.names (by decide))
  have HF3 := Lib.hid ((HF2.out.below hup).more hup.size)
  have HM3 := Lib.hid (Blk.below HM2.out hup (Blk.lt HM2.out))
  have HB3 := Lib.hid (HB2.out.trans (hup.mono HB2.out.size))
  have HR3 := Lib.hid (HR2.out.below hup (Nat.le_refl _))
  clear hup
  change Calls _ _ _ (w2.alloc (.cells (strL exB.names).toArray 9)) _
  generalize w2.alloc (.cells (strL exB.names).toArray 9) = w3 at HN3 HF3 HM3 HB3 HR3 ⊢
  generalize w2.heap.size = b2 at HN3 ⊢
  clear HF2 HM2 HB2 HR2
  have HT := Lib.hid (text_calls exB _ _ _ w3 exB_ok ⟨HN3.out, Qids.nil_ _ _, Bys.nil_ _ _⟩ HR3.out (TP.low HTP.out HB3.out HR.out.eight) exB_small)
  rw [exB_text] at HT
  refine HT.out.mono ?_
  rintro e w4 ⟨rfl, hb⟩
  have HF4 := Lib.hid ((HF3.out.below hb).more hb.size)
  have HM4 := Lib.hid (Blk.below HM3.out hb (Blk.lt HM3.out))
  have HB4 := Lib.hid (HB3.out.trans (hb.mono HB3.out.size))
  have HR4 := Lib.hid (HR3.out.below hb (Nat.le_refl _))
  clear hb HN3 HF3 HM3 HB3 HR3 HT
  go_wp2_with fail
  have hup : Below w4.heap.size w4 (w4.alloc (.cells (byteL exF).toArray 5)) := (Below.refl _ _).alloc (Nat.le_refl _) _
  have HX5 := Lib.hid (show Bys (w4.alloc (.cells (byteL exF).toArray 5)) (w4.alloc (.cells (byteL exF).toArray 5)).heap.size (.slice (some ⟨w4.heap.size, 0, none⟩) 24 24) exF from by rw [World.size_alloc]; exact Bys.new w4 _ exF (by decide))
  have HF5 := Lib.hid ((HF4.out.below hup).more hup.size)
  have HM5 := Lib.hid (Blk.below HM4.out hup (Blk.lt HM4.out))
  have HB5 := Lib.hid (HB4.out.trans (hup.mono HB4.out.size))
  have HR5 := Lib.hid (HR4.out.below hup (Nat.le_refl _))
  clear hup
  change Calls _ _ _ (w4.alloc (.cells (byteL exF).toArray 5)) _
  generalize w4.alloc (.cells (byteL exF).toArray 5) = w5 at HX5 HF5 HM5 HB5 HR5 ⊢
  generalize w4.heap.size = b4 at HX5 ⊢
  clear HF4 HM4 HB4 HR4
  have HT := Lib.hid (decode_calls _ exF w5 HX5.out HR5.out (by decide))
  rw [exB_dec] at HT
  refine HT.out.mono ?_
  rintro e w6 ⟨⟨bn, bq, bd, rfl, hol⟩, hb⟩
  have HOL6 := Lib.hid hol
  have HF6 := Lib.hid ((HF5.out.below hb).more hb.size)
  have HM6 := Lib.hid (Blk.below HM5.out hb (Blk.lt HM5.out))
  have HB6 := Lib.hid (HB5.out.trans (hb.mono HB5.out.size))
  have HR6 := Lib.hid (HR5.out.below hb (Nat.le_refl _))
  clear hol hb HX5 HF5 HM5 HB5 HR5 HT
  dsimp only
  go_upto_region 5 with (change wpList _ _ _ _ _ (w6.alloc (.cells (mgN (head 0 0)).toArray 41)); have hup : Below w6.heap.size w6 (w6.alloc (.cells (mgN (head 0 0)).toArray 41)) := (Below.refl _ _).alloc (Nat.le_refl _) _; have HMZ := Lib.hid (show MBlk (w6.alloc (.cells (mgN (head 0 0)).toArray 41)) w6.heap.size (head 0 0) (.slice none 0 0) (.slice none 0 0) (.slice none 0 0) from Blk.new w6 _ _); generalize (w6.alloc (.cells (mgN (head 0 0)).toArray 41)) = w6z at hup HMZ ⊢; refine wstK HMZ.out 0 (msgL exB bn bq bd) _ (over_msg ..) (Nat.le_refl 36) (msg_one _ (own_one HOL6.out.n) (own_one HOL6.out.q) (own_one HOL6.out.d)) rfl _ _ _ rfl rfl rfl msg_size ?_; intro w7 hs ho; have HD7 := Lib.hid (show MBlk w7 w6.heap.size exB bn bq bd from hs); have HBB7 := Lib.hid (hup.trans ((ho (fun i => i = w6.heap.size) rfl w6z (Off.refl _ _)).below (fun k hk => (by have hk : k = w6.heap.size := hk; omega)) hup.size)); clear hs ho hup HMZ)
  have HOL7 := Lib.hid (HOL6.out.below HBB7.out)
  have HF7 := Lib.hid ((HF6.out.below HBB7.out).more HBB7.out.size)
  have HM7 := Lib.hid (Blk.below HM6.out HBB7.out (Blk.lt HM6.out))
  have HB7 := Lib.hid (HB6.out.trans (HBB7.out.mono HB6.out.size))
  have HR7 := Lib.hid (HR6.out.below HBB7.out (Nat.le_refl _))
  generalize w6.heap.size = b6 at HD7 ⊢
  clear HOL6 HF6 HM6 HB6 HR6 HBB7
  go_wp2_with fail
  have HPA := Lib.hid (parse_calls (ofL exL) w7 (HSE.out.low HB7.out HR.out.eight) HR7.out (by decide))
  rw [show parseM (ofL exL).data.toList = (exA, 0, 0) from exA_parse] at HPA
  refine HPA.out.mono ?_
  rintro e w8 ⟨⟨pn, pq, pd, rfl, hol⟩, hb⟩
  have HOL8 := Lib.hid hol
  have HF8 := Lib.hid ((HF7.out.below hb).more hb.size)
  have HM8 := Lib.hid (Blk.below HM7.out hb (Blk.lt HM7.out))
  have HD8 := Lib.hid (Blk.below HD7.out hb (Blk.lt HD7.out))
  have HL8 := Lib.hid (HOL7.out.below hb)
  have HB8 := Lib.hid (HB7.out.trans (hb.mono HB7.out.size))
  have HR8 := Lib.hid (HR7.out.below hb (Nat.le_refl _))
  clear hol hb HF7 HM7 HD7 HOL7 HB7 HR7 HPA
  dsimp only
  go_upto_region 6 with (change wpList _ _ _ _ _ (w8.alloc (.cells (mgN (head 0 0)).toArray 41)); have hup : Below w8.heap.size w8 (w8.alloc (.cells (mgN (head 0 0)).toArray 41)) := (Below.refl _ _).alloc (Nat.le_refl _) _; have HMZ := Lib.hid (show MBlk (w8.alloc (.cells (mgN (head 0 0)).toArray 41)) w8.heap.size (head 0 0) (.slice none 0 0) (.slice none 0 0) (.slice none 0 0) from Blk.new w8 _ _); generalize (w8.alloc (.cells (mgN (head 0 0)).toArray 41)) = w8z at hup HMZ ⊢; refine wstK HMZ.out 0 (msgL exA pn pq pd) _ (over_msg ..) (Nat.le_refl 36) (msg_one _ (own_one HOL8.out.n) (own_one HOL8.out.q) (own_one HOL8.out.d)) rfl _ _ _ rfl rfl rfl msg_size ?_; intro w9 hs ho; have HP9 := Lib.hid (show MBlk w9 w8.heap.size exA pn pq pd from hs); have HBB9 := Lib.hid (hup.trans ((ho (fun i => i = w8.heap.size) rfl w8z (Off.refl _ _)).below (fun k hk => (by have hk : k = w8.heap.size := hk; omega)) hup.size)); clear hs ho hup HMZ)
  have HF9 := Lib.hid ((HF8.out.below HBB9.out).more HBB9.out.size)
  have HM9 := Lib.hid (Blk.below HM8.out HBB9.out (Blk.lt HM8.out))
  have HD9 := Lib.hid (Blk.below HD8.out HBB9.out (Blk.lt HD8.out))
  have HL9 := Lib.hid (HL8.out.below HBB9.out)
  have HB9 := Lib.hid (HB8.out.trans (HBB9.out.mono HB8.out.size))
  have HR9 := Lib.hid (HR8.out.below HBB9.out (Nat.le_refl _))
  generalize w8.heap.size = b8 at HP9 ⊢
  clear HOL8 HF8 HM8 HD8 HL8 HB8 HR8 HBB9
  have HSZ := Lib.hid (size_calls exA _ _ _ w9 exA_ok ⟨Nams.nil_ _ _, Qids.nil_ _ _, Bys.nil_ _ _⟩ HR9.out exA_small)
  rw [exA_enc] at HSZ
  go_wp2_with (refine wlw HM9.out 0 (msgL exA (.slice none 0 0) (.slice none 0 0) (.slice none 0 0)) rfl rfl _ _ rfl rfl _ Tryz.underlying41 rfl msg_size ?_)
  refine HSZ.out.mono ?_
  rintro e w10 ⟨rfl, hb⟩
  have HFX := Lib.hid (HF9.out.below hb)
  have HDX := Lib.hid (Blk.below HD9.out hb (Blk.lt HD9.out))
  have HPX := Lib.hid (Blk.below HP9.out hb (Blk.lt HP9.out))
  have HLX := Lib.hid (HL9.out.below hb).n
  have HBX := Lib.hid (HB9.out.trans (hb.mono HB9.out.size))
  clear hb HF9 HM9 HD9 HP9 HL9 HB9 HR9 HSZ
  obtain ⟨nA, nc, hbn, -⟩ := own_len HLX.out
  have hnm := Nams.of_own HLX.out
  rw [hbn] at hnm
  obtain ⟨ad, hA, -, kx⟩ := hnm.at_ (k := 1) (x := ⟨#[46, 46]⟩) rfl
  subst hA
  have kx1 : w10.cell? ⟨ad.block, ad.off + 1, none⟩ = some (.string ⟨#[46, 46]⟩) := kx
  have k11 : w10.cell? ⟨b6, 11, none⟩ = some (.slice (some ad) 2 nc) := (Blk.cell HDX.out 11).trans (congrArg some hbn)
  have k1 : w10.cell? ⟨b6, 1, none⟩ = some (.int .u16 3) := Blk.cell HDX.out 1
  have k10 : w10.cell? ⟨b6, 10, none⟩ = some (.int .u32 2) := Blk.cell HDX.out 10
  have p2 : w10.cell? ⟨b8, 2, none⟩ = some (.int .u32 8192) := Blk.cell HPX.out 2
  have p3 : w10.cell? ⟨b8, 3, none⟩ = some (.string ⟨#[57, 80, 50, 48, 48, 48]⟩) := Blk.cell HPX.out 3
  have hcv := conv_bys HFX.out
  have ofs : ∀ l : List UInt8, (ofL l).toList = l := fun l => by rw [ByteArray.toList_eq]; rfl
  have s1 := ofs [19, 0, 0, 0, 100, 255, 255, 0, 32, 0, 0, 6, 0, 57, 80, 50, 48, 48, 48]
  have s2 := ofs [84, 119, 97, 108, 107, 32, 51, 32, 102, 105, 100, 61, 49, 32, 110, 101, 119, 102, 105, 100, 61, 50, 32, 110, 97, 109, 101, 115, 61, 91, 34, 97, 34, 32, 34, 46, 46, 34, 93]
  clear hnm hbn ofs
  go_upto_region 7 with (fail)
  go_wp2_with fail
  refine bodyPost_ret (v := .bool true) (by simp [results, Tryz.results12]) rfl ⟨rfl, ?_⟩
  exact HBX.out
end Go.Proofs.YtkblmloobkiloaaGreatDoor
namespace Go.Proofs.YtkblmloobkiloaaGreatDoor
open Go.ChangeShapes Go.WideShapes Go.ChangeAt Go.RowKit
section
variable {H : Type} {enc : TypeId × Value → H}
/-- The plain wrap with a fact on the laid variables and the world's shape. -/
theorem inHanded_shaped {a : Assume} {C : Checked} {os : Os} {f : FuncId} {fn : Func} {s : ChangeSpec} {conds : List PathCond} {apart fresh handsOn again : Bool} {X : World → Array Value → Prop}
    (hX : ∀ (w w' : World) (args : Array Value), w.heap = w'.heap → X w args → X w' args)
    (own : ownKnob C.prog.godebug = none) (started : os.Started) (noInit : C.prog.inits.idxOf? f = none) (hfn : C.prog.funcs[f]? = some fn)
    (witness : ∃ (w : World) (tape : Tape) (i : Input), w.os = os ∧ (w.forCall tape i).Shaped C.prog ∧ i.vars = [] ∧ Input.okWide C.prog (w.forCall tape i) .any w.heap.size f i ∧
      ((s.pre enc C.prog fn conds apart (w.forCall tape i).memory i.args ∧ X (w.forCall tape i).memory i.args) ∧ sizedMet enc C.prog fn (OpenSpec.ofChange s) apart (w.forCall tape i).memory i.args) ∧ a.holds C.prog (lone (Frame.enter C.prog f i.args .normal) [] (w.forCall tape i)))
    (contract : ∀ (W : World) (base : Nat) (args : Array Value) (ds gs : List (DataW H)) (before : List MemPlace),
      (∀ (j : Nat) t v, fn.params[j]? = some t → args[j]? = some v → Value.okWide C.prog W .any base t v) →
      DataW.Whole enc C.prog fn.params.toList s.vars apart W args.toList ds gs before →
      X W args → W.ShapedOpen C.prog →
      Calls C.prog f args W fun e W' => ∃ v, e = .returned v ∧ s.post enc C.prog fn apart fresh handsOn again W args v W') :
    ReturnsInHanded a C os f .any (fun w args => (s.pre enc C.prog fn conds apart w args ∧ X w args) ∧ sizedMet enc C.prog fn (OpenSpec.ofChange s) apart w args) (s.post enc C.prog fn apart fresh handsOn again) := by
  refine returnsInHanded_of_calls own started noInit witness ?_
  intro w tape i _ hsh _ hok hpre hholds
  obtain ⟨_, _, _, fn', hfn', _, _, _, _, hval⟩ := hok
  have e : fn' = fn := Option.some.inj (hfn'.symm.trans hfn)
  subst e
  obtain ⟨⟨⟨ds, gs, before, hw, hc⟩, hx⟩, hz⟩ := hpre
  have hw' := DataW.Whole.of_heap (w' := w.forCall tape i) (by rfl) hw
  refine (contract (w.forCall tape i) w.heap.size i.args ds gs before hval hw' (hX _ _ _ (by rfl) hx) hsh).mono fun e W' ⟨v, he, hp⟩ => ?_
  subst he
  exact ChangeSpec.post_blind hp
end

theorem own_ : ownKnob Tryz.prog.godebug = none := by kernel_rfl
theorem laidOut_ : laidOutB Tryz.prog = true := by kernel_rfl
theorem first_eq : (Rows.laid_unicode_utf8_first : DataW Unit) = Lib.firstData := by kernel_rfl
theorem accept_eq : (Rows.laid_unicode_utf8_acceptRanges : DataW Unit) = Lib.acceptData := by kernel_rfl
section
variable {H : Type} {enc : TypeId × Value → H}
theorem inHanded_sized {a : Assume} {C : Checked} {os : Os} {f : FuncId} {fn : Func} {s : ChangeSpec} {conds : List PathCond} {apart fresh handsOn again : Bool} {X : World → Array Value → Prop}
    (hX : ∀ (w w' : World) (args : Array Value), w.heap = w'.heap → X w args → X w' args)
    (own : ownKnob C.prog.godebug = none) (started : os.Started) (noInit : C.prog.inits.idxOf? f = none) (hfn : C.prog.funcs[f]? = some fn)
    (witness : ∃ (w : World) (tape : Tape) (i : Input), w.os = os ∧ (w.forCall tape i).Shaped C.prog ∧ i.vars = [] ∧ Input.okWide C.prog (w.forCall tape i) .any w.heap.size f i ∧
      ((s.pre enc C.prog fn conds apart (w.forCall tape i).memory i.args ∧ X (w.forCall tape i).memory i.args) ∧ sizedMet enc C.prog fn (OpenSpec.ofChange s) apart (w.forCall tape i).memory i.args) ∧ a.holds C.prog (lone (Frame.enter C.prog f i.args .normal) [] (w.forCall tape i)))
    (contract : ∀ (W : World) (base : Nat) (args : Array Value) (ds gs : List (DataW H)) (before : List MemPlace),
      (∀ (j : Nat) t v, fn.params[j]? = some t → args[j]? = some v → Value.okWide C.prog W .any base t v) →
      DataW.Whole enc C.prog fn.params.toList s.vars apart W args.toList ds gs before →
      (DataW.weightsEach C.prog (fn.params.toList ++ s.plain.varTypes C.prog) (ds ++ gs)).all (· ≤ reachBytes) = true →
      X W args → W.ShapedOpen C.prog →
      Calls C.prog f args W fun e W' => ∃ v, e = .returned v ∧ s.post enc C.prog fn apart fresh handsOn again W args v W') :
    ReturnsInHanded a C os f .any (fun w args => (s.pre enc C.prog fn conds apart w args ∧ X w args) ∧ sizedMet enc C.prog fn (OpenSpec.ofChange s) apart w args) (s.post enc C.prog fn apart fresh handsOn again) := by
  refine returnsInHanded_of_calls own started noInit witness ?_
  intro w tape i _ hsh _ hok hpre hholds
  obtain ⟨_, _, _, fn', hfn', _, _, _, _, hval⟩ := hok
  have e : fn' = fn := Option.some.inj (hfn'.symm.trans hfn)
  subst e
  obtain ⟨⟨⟨ds, gs, before, hw, hc⟩, hx⟩, hz⟩ := hpre
  have hw' := DataW.Whole.of_heap (w' := w.forCall tape i) (by rfl) hw
  refine (contract (w.forCall tape i) w.heap.size i.args ds gs before hval hw' (hz.weights hw) (hX _ _ _ (by rfl) hx) hsh).mono fun e W' ⟨v, he, hp⟩ => ?_
  subst he
  exact ChangeSpec.post_blind hp
end
abbrev laidA : List (String × DataW Unit) := [("math/bits.deBruijn32tab", Rows.laid_math_bits_deBruijn32tab), ("math/bits.deBruijn64tab", Rows.laid_math_bits_deBruijn64tab), ("internal/strconv.uint64pow10", Rows.laid_internal_strconv_uint64pow10), ("unicode/utf8.acceptRanges", Rows.laid_unicode_utf8_acceptRanges), ("strconv.ErrRange", Rows.laid_strconv_ErrRange), ("strconv.ErrSyntax", Rows.laid_strconv_ErrSyntax), ("unicode/utf8.first", Rows.laid_unicode_utf8_first)]
theorem err_of {W : World} {g : Nat} {nm : String} {d : DataW Unit} (hg : Tryz.prog.globalNamed nm = some g) (ht : (Tryz.prog.globals[g]?).map (·.type) = some 186) (hd : ∃ u x, d = .iface u x) (h : Lib.VarReads Tryz.prog W nm d) : ∃ ev, W.cell? ⟨g, 0, none⟩ = some ev ∧ (ev = .nilIface ∨ ∃ te pe, ev = .iface te pe) := by
  obtain ⟨g', t, cs, fuel, p, h1, h2, h3, h4⟩ := h
  obtain rfl : g = g' := Option.some.inj (hg.symm.trans h1)
  obtain rfl : 186 = t := Option.some.inj (ht.symm.trans h2)
  obtain ⟨u, x, rfl⟩ := hd
  obtain ⟨fuel', u, v, hcs, -, -⟩ := iface_of_trod (H := Unit) Tryz.underlying186 h4
  have hc := World.var?_cell h1 h3 0
  refine ⟨.iface u v, ?_, .inr ⟨u, v, rfl⟩⟩
  rw [hc]
  have : cs = #[.iface u v] := by
    rw [← Array.toList_inj, hcs]
  rw [this]
  rfl
theorem pow_eq : (Rows.laid_internal_strconv_uint64pow10 : DataW Unit) = Lib.tabData .u64 Lib.pow10Tab := by kernel_rfl
theorem tp_of {W : World} (h : Lib.VarReads Tryz.prog W "internal/strconv.uint64pow10" Rows.laid_internal_strconv_uint64pow10) : TP W := by
  rw [pow_eq] at h
  obtain ⟨g, t, cs, fuel, p, h1, h2, h3, h4⟩ := h
  obtain rfl : 0 = g := Option.some.inj ((show Tryz.prog.globalNamed "internal/strconv.uint64pow10" = some 0 from by kernel_rfl).symm.trans h1)
  obtain rfl : 244 = t := Option.some.inj ((show (Tryz.prog.globals[0]?).map (·.type) = some 244 from by kernel_rfl).symm.trans h2)
  have hc := Lib.cells_of_tab (P := Tryz.prog) (n := 20) (e := 35) Tryz.underlying244 Tryz.underlying35 (by kernel_rfl) (by kernel_rfl) h4
  unfold TP Lib.TabIs
  rw [h3, ← hc]
/-- What the world of these laws gives. -/
structure Worldly (W : World) : Prop where
  rd : Ready W
  se : SE W
  tp : TP W
theorem ready_ofA {W : World} (hL : laidMetH Tryz.prog laidA W) (hS : W.ShapedOpen Tryz.prog) : Worldly W := by
  rw [MakeChecks.laidMetH_plain _ _ _ (by kernel_rfl)] at hL
  have h1 := Lib.laidMet.reads hL (.tail _ (.tail _ (.tail _ (.head _))))
  have h2 := Lib.laidMet.reads hL (.tail _ (.tail _ (.tail _ (.tail _ (.tail _ (.tail _ (.head _)))))))
  have h3 := Lib.laidMet.reads hL (.tail _ (.tail _ (.head _)))
  have h4 := Lib.laidMet.reads hL (.tail _ (.tail _ (.tail _ (.tail _ (.tail _ (.head _))))))
  have h5 := Lib.laidMet.reads hL (.tail _ (.tail _ (.tail _ (.tail _ (.head _)))))
  rw [accept_eq] at h1
  rw [first_eq] at h2
  exact ⟨⟨utf8Tabs_of_reads Tryz.lays260 ⟨by kernel_rfl, by kernel_rfl, by kernel_rfl, by kernel_rfl, by kernel_rfl, by kernel_rfl, by kernel_rfl⟩ h2 h1,
    cell_of_shapedOpen_int (t := 3) (zero := #[.int .i64 0]) hS (of_decide_eq_true (by kernel_rfl)) (by kernel_rfl) rfl (by kernel_rfl) (by kernel_rfl) Tryz.underlying3⟩,
    ⟨err_of (by kernel_rfl) (by kernel_rfl) ⟨_, _, rfl⟩ h4, err_of (by kernel_rfl) (by kernel_rfl) ⟨_, _, rfl⟩ h5⟩, tp_of h3⟩
theorem Worldly.low {w w' : World} {B : Nat} (h : Worldly w) (hb : Below B w w') (hB : 8 ≤ B) : Worldly w' := ⟨h.rd.low hb hB, h.se.low hb hB, h.tp.low hb hB⟩
theorem Worldly.next {w w' : World} (h : Worldly w) (hb : Below w.heap.size w w') : Worldly w' := h.low hb h.rd.eight
end Go.Proofs.YtkblmloobkiloaaGreatDoor
namespace Go.Proofs.YtkblmloobkiloaaGreatDoor
open Go.RowKit Go.ChangeShapes Go.WideShapes

theorem byte_of7 {n : Int} (h : (Lit.int .u8 n).wf = true) : ∃ k : UInt8, n = (k.toNat : Int) := by
  simp only [Lit.wf, IntKind.min, IntKind.max, IntKind.signed, IntKind.bits, Bool.and_eq_true] at h
  simp at h
  exact ⟨UInt8.ofNat n.toNat, by
    rw [UInt8.toNat_ofNat']
    omega⟩
theorem bytes_of7 : ∀ zs : List Int, (∀ n ∈ zs, (Lit.int .u8 n).wf = true) → ∃ l : List UInt8, l.length = zs.length ∧ byteL l = zs.map (.int .u8)
  | [], _ => ⟨[], rfl, rfl⟩
  | z :: zs, h => by
    obtain ⟨k, hk⟩ := byte_of7 (h z (.head _))
    obtain ⟨l, h1, h2⟩ := bytes_of7 zs (fun n hn => h n (.tail _ hn))
    exact ⟨k :: l, by simp [h1], by simp only [byteL, List.map_cons] at h2 ⊢; rw [h2, hk]⟩
section
variable {H : Type} {enc : TypeId × Value → H} {w : World} {base : Nat} {held : Bool} {fuel : Nat}
theorem ints_open {t e : TypeId} {k : IntKind} {cs : List Value} {x : DataW H × List MemPlace} (ht : Tryz.prog.underlying t = some (.slice e)) (he : Tryz.prog.underlying e = some (.int k)) (hc : Tryz.prog.cellsOf e = 1)
    (h : DataW.trod enc Tryz.prog w base (fun _ => true) held fuel t cs = some x) : ∃ (A : Option Addr) (n cap : Nat) (zs : List Int), cs = [.slice A n cap] ∧ n ≤ cap ∧ cap ≤ maxLen ∧ zs.length = n ∧ Reads w w.heap.size 1 A n (zs.map (.int k)) ∧ ∀ z ∈ zs, (Lit.int k z).wf = true := by
  rcases open_ints ht he hc h with ⟨rfl, _⟩ | ⟨a, l, c, zs, rfl, _, hl, hm, hz, _, hcell, hwz⟩
  · exact ⟨none, 0, 0, [], rfl, Nat.le_refl _, Nat.zero_le _, rfl, Reads.none_, fun z hz => by cases hz⟩
  · have hz' : zs.length = c := by simpa using hz
    have htl : (zs.take l).length = l := by rw [List.length_take]; omega
    refine ⟨some a, l, c, zs.take l, rfl, hl, hm, htl, ⟨by rw [List.length_map, htl]; omega, fun hn => ⟨a, rfl, Go.Clock.block_lt (hcell 0 (by omega)), fun j u hu => ?_⟩⟩, fun z hz => hwz z (List.mem_of_mem_take hz)⟩
    rw [List.getElem?_map, Option.map_eq_some_iff] at hu
    obtain ⟨z, hz1, rfl⟩ := hu
    have hj : j < l := by
      have := (List.getElem?_eq_some_iff.1 hz1).1
      omega
    rw [List.getElem?_take_of_lt hj] at hz1
    rw [hcell j (by omega), List.getD_eq_getElem?_getD, hz1]
    rfl
theorem bys_open {cs : List Value} {x : DataW H × List MemPlace} (h : DataW.trod enc Tryz.prog w base (fun _ => true) held fuel 22 cs = some x) : ∃ v l, cs = [v] ∧ Bys w w.heap.size v l := by
  obtain ⟨A, n, cap, zs, rfl, h1, h2, h3, h4, h5⟩ := ints_open Tryz.underlying22 Tryz.underlying5 (by kernel_rfl) h
  obtain ⟨l, hl1, hl2⟩ := bytes_of7 zs h5
  subst h3
  rw [← hl2, ← hl1] at h4
  exact ⟨_, l, rfl, A, cap, by rw [hl1], by omega, h2, h4⟩
end
end Go.Proofs.YtkblmloobkiloaaGreatDoor
