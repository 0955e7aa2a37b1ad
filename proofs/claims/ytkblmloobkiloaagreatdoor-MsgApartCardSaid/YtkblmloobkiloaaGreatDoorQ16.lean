/-
  MT6: what the laws of package msg need of them.
-/
import Derived.Test.YtkblmloobkiloaaGreatDoorQ15
namespace Go.Proofs.YtkblmloobkiloaaGreatDoor
open Go.RowKit
open Go.Lib (decDigits)

theorem ofL_app (a b : List UInt8) : ofL a ++ ofL b = ofL (a ++ b) := by
  apply ByteArray.ext
  rw [← Array.toList_inj]
  simp [ofL, ByteArray.data_append]
/-- The numbers of a record are below 2^64, its texts are good and not long. -/
structure Sta.prt (s : Sta) : Prop where
  type : s.type < 18446744073709551616
  dev : s.dev < 18446744073709551616
  qid : s.qid.kind < 18446744073709551616 ∧ s.qid.vers < 18446744073709551616 ∧ s.qid.path < 18446744073709551616
  mode : s.mode < 18446744073709551616
  atime : s.atime < 18446744073709551616
  mtime : s.mtime < 18446744073709551616
  length : s.length < 18446744073709551616
  name : Go.Proofs.YtkblmloobkiloaaGreatDoor.good s.name = true ∧ s.name.size ≤ 16777216
  uid : Go.Proofs.YtkblmloobkiloaaGreatDoor.good s.uid = true ∧ s.uid.size ≤ 16777216
  gid : Go.Proofs.YtkblmloobkiloaaGreatDoor.good s.gid = true ∧ s.gid.size ≤ 16777216
  muid : Go.Proofs.YtkblmloobkiloaaGreatDoor.good s.muid = true ∧ s.muid.size ≤ 16777216
set_option maxRecDepth 100000 in
set_option maxHeartbeats 6400000 in
theorem record_calls (s : Sta) (hs : s.prt) (w : World) (ht : TP w) (h8 : 8 ≤ w.heap.size) :
    Calls Tryz.prog 240 #[stV s] w fun e w' => e = .returned (.string (ofL (recL s))) ∧ Below w.heap.size w w' := by
  have hup : Below w.heap.size w (w.alloc (.cells #[.int .u16 (s.type : Int), .int .u32 (s.dev : Int), .int .u8 (s.qid.kind : Int), .int .u32 (s.qid.vers : Int), .int .u64 (s.qid.path : Int), .int .u32 (s.mode : Int), .int .u32 (s.atime : Int), .int .u32 (s.mtime : Int), .int .u64 (s.length : Int), .string s.name, .string s.uid, .string s.gid, .string s.muid] 39)) := (Below.refl _ _).alloc (Nat.le_refl _) _
  have HN := Lib.hid (Blk.new w 39 #[.int .u16 (s.type : Int), .int .u32 (s.dev : Int), .int .u8 (s.qid.kind : Int), .int .u32 (s.qid.vers : Int), .int .u64 (s.qid.path : Int), .int .u32 (s.mode : Int), .int .u32 (s.atime : Int), .int .u32 (s.mtime : Int), .int .u64 (s.length : Int), .string s.name, .string s.uid, .string s.gid, .string s.muid])
  have HT0 := Lib.hid (ht.low hup h8)
  have HB := Lib.hid hup
  have HQ := Lib.hid hs
  have H8 := Lib.hid h8
  clear hup ht h8
  obtain ⟨X0, hX0⟩ : ∃ X, X = ofL (decDigits s.type) := ⟨_, rfl⟩
  have hz0 : X0.size ≤ 20 := hX0 ▸ dig_len _ hs.type
  obtain ⟨X1, hX1⟩ : ∃ X, X = ofL (decDigits s.dev) := ⟨_, rfl⟩
  have hz1 : X1.size ≤ 20 := hX1 ▸ dig_len _ hs.dev
  obtain ⟨X2, hX2⟩ : ∃ X, X = ofL (dotL s.qid) := ⟨_, rfl⟩
  have hz2 : X2.size ≤ 62 := hX2 ▸ (by rw [ofL_size]; exact dotL_len _ hs.qid)
  obtain ⟨X3, hX3⟩ : ∃ X, X = ofL (decDigits s.mode) := ⟨_, rfl⟩
  have hz3 : X3.size ≤ 20 := hX3 ▸ dig_len _ hs.mode
  obtain ⟨X4, hX4⟩ : ∃ X, X = ofL (decDigits s.atime) := ⟨_, rfl⟩
  have hz4 : X4.size ≤ 20 := hX4 ▸ dig_len _ hs.atime
  obtain ⟨X5, hX5⟩ : ∃ X, X = ofL (decDigits s.mtime) := ⟨_, rfl⟩
  have hz5 : X5.size ≤ 20 := hX5 ▸ dig_len _ hs.mtime
  obtain ⟨X6, hX6⟩ : ∃ X, X = ofL (decDigits s.length) := ⟨_, rfl⟩
  have hz6 : X6.size ≤ 20 := hX6 ▸ dig_len _ hs.length
  obtain ⟨X7, hX7⟩ : ∃ X, X = ofL (quoteS s.name) := ⟨_, rfl⟩
  have hz7 : X7.size ≤ 67108866 := hX7 ▸ (by rw [ofL_size]; have := quoteS_len s.name; have := hs.name.2; omega)
  obtain ⟨X8, hX8⟩ : ∃ X, X = ofL (quoteS s.uid) := ⟨_, rfl⟩
  have hz8 : X8.size ≤ 67108866 := hX8 ▸ (by rw [ofL_size]; have := quoteS_len s.uid; have := hs.uid.2; omega)
  obtain ⟨X9, hX9⟩ : ∃ X, X = ofL (quoteS s.gid) := ⟨_, rfl⟩
  have hz9 : X9.size ≤ 67108866 := hX9 ▸ (by rw [ofL_size]; have := quoteS_len s.gid; have := hs.gid.2; omega)
  obtain ⟨X10, hX10⟩ : ∃ X, X = ofL (quoteS s.muid) := ⟨_, rfl⟩
  have hz10 : X10.size ≤ 67108866 := hX10 ▸ (by rw [ofL_size]; have := quoteS_len s.muid; have := hs.muid.2; omega)
  clear hs
  obtain ⟨P0, hP0⟩ : ∃ P, P = (⟨#[123, 116, 121, 112, 101, 61]⟩ : ByteArray) ++ X0 := ⟨_, rfl⟩
  have hs0 : P0.size = 6 + X0.size := by rw [hP0, ByteArray.size_append]; try rfl
  have ha0 : ∀ w, (Op.stringOp .add (⟨#[123, 116, 121, 112, 101, 61]⟩ : ByteArray) X0).run Tryz.prog w = .ok (.string P0) w := fun w => by
    rw [hP0]
    exact run_string_add_sum w _ _ (by rw [← ByteArray.size_append, ← hP0]; omega)
  obtain ⟨P1, hP1⟩ : ∃ P, P = P0 ++ (⟨#[32, 100, 101, 118, 61]⟩ : ByteArray) := ⟨_, rfl⟩
  have hs1 : P1.size = P0.size + 5 := by rw [hP1, ByteArray.size_append]; try rfl
  have ha1 : ∀ w, (Op.stringOp .add P0 (⟨#[32, 100, 101, 118, 61]⟩ : ByteArray)).run Tryz.prog w = .ok (.string P1) w := fun w => by
    rw [hP1]
    exact run_string_add_sum w _ _ (by rw [← ByteArray.size_append, ← hP1]; omega)
  obtain ⟨P2, hP2⟩ : ∃ P, P = P1 ++ X1 := ⟨_, rfl⟩
  have hs2 : P2.size = P1.size + X1.size := by rw [hP2, ByteArray.size_append]; try rfl
  have ha2 : ∀ w, (Op.stringOp .add P1 X1).run Tryz.prog w = .ok (.string P2) w := fun w => by
    rw [hP2]
    exact run_string_add_sum w _ _ (by rw [← ByteArray.size_append, ← hP2]; omega)
  obtain ⟨P3, hP3⟩ : ∃ P, P = P2 ++ (⟨#[32, 113, 105, 100, 61]⟩ : ByteArray) := ⟨_, rfl⟩
  have hs3 : P3.size = P2.size + 5 := by rw [hP3, ByteArray.size_append]; try rfl
  have ha3 : ∀ w, (Op.stringOp .add P2 (⟨#[32, 113, 105, 100, 61]⟩ : ByteArray)).run Tryz.prog w = .ok (.string P3) w := fun w => by
    rw [hP3]
    exact run_string_add_sum w _ _ (by rw [← ByteArray.size_append, ← hP3]; omega)
  obtain ⟨P4, hP4⟩ : ∃ P, P = P3 ++ X2 := ⟨_, rfl⟩
  have hs4 : P4.size = P3.size + X2.size := by rw [hP4, ByteArray.size_append]; try rfl
  have ha4 : ∀ w, (Op.stringOp .add P3 X2).run Tryz.prog w = .ok (.string P4) w := fun w => by
    rw [hP4]
    exact run_string_add_sum w _ _ (by rw [← ByteArray.size_append, ← hP4]; omega)
  obtain ⟨P5, hP5⟩ : ∃ P, P = P4 ++ (⟨#[32, 109, 111, 100, 101, 61]⟩ : ByteArray) := ⟨_, rfl⟩
  have hs5 : P5.size = P4.size + 6 := by rw [hP5, ByteArray.size_append]; try rfl
  have ha5 : ∀ w, (Op.stringOp .add P4 (⟨#[32, 109, 111, 100, 101, 61]⟩ : ByteArray)).run Tryz.prog w = .ok (.string P5) w := fun w => by
    rw [hP5]
    exact run_string_add_sum w _ _ (by rw [← ByteArray.size_append, ← hP5]; omega)
  obtain ⟨P6, hP6⟩ : ∃ P, P = P5 ++ X3 := ⟨_, rfl⟩
  have hs6 : P6.size = P5.size + X3.size := by rw [hP6, ByteArray.size_append]; try rfl
  have ha6 : ∀ w, (Op.stringOp .add P5 X3).run Tryz.prog w = .ok (.string P6) w := fun w => by
    rw [hP6]
    exact run_string_add_sum w _ _ (by rw [← ByteArray.size_append, ← hP6]; omega)
  obtain ⟨P7, hP7⟩ : ∃ P, P = P6 ++ (⟨#[32, 97, 116, 105, 109, 101, 61]⟩ : ByteArray) := ⟨_, rfl⟩
  have hs7 : P7.size = P6.size + 7 := by rw [hP7, ByteArray.size_append]; try rfl
  have ha7 : ∀ w, (Op.stringOp .add P6 (⟨#[32, 97, 116, 105, 109, 101, 61]⟩ : ByteArray)).run Tryz.prog w = .ok (.string P7) w := fun w => by
    rw [hP7]
    exact run_string_add_sum w _ _ (by rw [← ByteArray.size_append, ← hP7]; omega)
  obtain ⟨P8, hP8⟩ : ∃ P, P = P7 ++ X4 := ⟨_, rfl⟩
  have hs8 : P8.size = P7.size + X4.size := by rw [hP8, ByteArray.size_append]; try rfl
  have ha8 : ∀ w, (Op.stringOp .add P7 X4).run Tryz.prog w = .ok (.string P8) w := fun w => by
    rw [hP8]
    exact run_string_add_sum w _ _ (by rw [← ByteArray.size_append, ← hP8]; omega)
  obtain ⟨P9, hP9⟩ : ∃ P, P = P8 ++ (⟨#[32, 109, 116, 105, 109, 101, 61]⟩ : ByteArray) := ⟨_, rfl⟩
  have hs9 : P9.size = P8.size + 7 := by rw [hP9, ByteArray.size_append]; try rfl
  have ha9 : ∀ w, (Op.stringOp .add P8 (⟨#[32, 109, 116, 105, 109, 101, 61]⟩ : ByteArray)).run Tryz.prog w = .ok (.string P9) w := fun w => by
    rw [hP9]
    exact run_string_add_sum w _ _ (by rw [← ByteArray.size_append, ← hP9]; omega)
  obtain ⟨P10, hP10⟩ : ∃ P, P = P9 ++ X5 := ⟨_, rfl⟩
  have hs10 : P10.size = P9.size + X5.size := by rw [hP10, ByteArray.size_append]; try rfl
  have ha10 : ∀ w, (Op.stringOp .add P9 X5).run Tryz.prog w = .ok (.string P10) w := fun w => by
    rw [hP10]
    exact run_string_add_sum w _ _ (by rw [← ByteArray.size_append, ← hP10]; omega)
  obtain ⟨P11, hP11⟩ : ∃ P, P = P10 ++ (⟨#[32, 108, 101, 110, 103, 116, 104, 61]⟩ : ByteArray) := ⟨_, rfl⟩
  have hs11 : P11.size = P10.size + 8 := by rw [hP11, ByteArray.size_append]; try rfl
  have ha11 : ∀ w, (Op.stringOp .add P10 (⟨#[32, 108, 101, 110, 103, 116, 104, 61]⟩ : ByteArray)).run Tryz.prog w = .ok (.string P11) w := fun w => by
    rw [hP11]
    exact run_string_add_sum w _ _ (by rw [← ByteArray.size_append, ← hP11]; omega)
  obtain ⟨P12, hP12⟩ : ∃ P, P = P11 ++ X6 := ⟨_, rfl⟩
  have hs12 : P12.size = P11.size + X6.size := by rw [hP12, ByteArray.size_append]; try rfl
  have ha12 : ∀ w, (Op.stringOp .add P11 X6).run Tryz.prog w = .ok (.string P12) w := fun w => by
    rw [hP12]
    exact run_string_add_sum w _ _ (by rw [← ByteArray.size_append, ← hP12]; omega)
  obtain ⟨P13, hP13⟩ : ∃ P, P = P12 ++ (⟨#[32, 110, 97, 109, 101, 61]⟩ : ByteArray) := ⟨_, rfl⟩
  have hs13 : P13.size = P12.size + 6 := by rw [hP13, ByteArray.size_append]; try rfl
  have ha13 : ∀ w, (Op.stringOp .add P12 (⟨#[32, 110, 97, 109, 101, 61]⟩ : ByteArray)).run Tryz.prog w = .ok (.string P13) w := fun w => by
    rw [hP13]
    exact run_string_add_sum w _ _ (by rw [← ByteArray.size_append, ← hP13]; omega)
  obtain ⟨P14, hP14⟩ : ∃ P, P = P13 ++ X7 := ⟨_, rfl⟩
  have hs14 : P14.size = P13.size + X7.size := by rw [hP14, ByteArray.size_append]; try rfl
  have ha14 : ∀ w, (Op.stringOp .add P13 X7).run Tryz.prog w = .ok (.string P14) w := fun w => by
    rw [hP14]
    exact run_string_add_sum w _ _ (by rw [← ByteArray.size_append, ← hP14]; omega)
  obtain ⟨P15, hP15⟩ : ∃ P, P = P14 ++ (⟨#[32, 117, 105, 100, 61]⟩ : ByteArray) := ⟨_, rfl⟩
  have hs15 : P15.size = P14.size + 5 := by rw [hP15, ByteArray.size_append]; try rfl
  have ha15 : ∀ w, (Op.stringOp .add P14 (⟨#[32, 117, 105, 100, 61]⟩ : ByteArray)).run Tryz.prog w = .ok (.string P15) w := fun w => by
    rw [hP15]
    exact run_string_add_sum w _ _ (by rw [← ByteArray.size_append, ← hP15]; omega)
  obtain ⟨P16, hP16⟩ : ∃ P, P = P15 ++ X8 := ⟨_, rfl⟩
  have hs16 : P16.size = P15.size + X8.size := by rw [hP16, ByteArray.size_append]; try rfl
  have ha16 : ∀ w, (Op.stringOp .add P15 X8).run Tryz.prog w = .ok (.string P16) w := fun w => by
    rw [hP16]
    exact run_string_add_sum w _ _ (by rw [← ByteArray.size_append, ← hP16]; omega)
  obtain ⟨P17, hP17⟩ : ∃ P, P = P16 ++ (⟨#[32, 103, 105, 100, 61]⟩ : ByteArray) := ⟨_, rfl⟩
  have hs17 : P17.size = P16.size + 5 := by rw [hP17, ByteArray.size_append]; try rfl
  have ha17 : ∀ w, (Op.stringOp .add P16 (⟨#[32, 103, 105, 100, 61]⟩ : ByteArray)).run Tryz.prog w = .ok (.string P17) w := fun w => by
    rw [hP17]
    exact run_string_add_sum w _ _ (by rw [← ByteArray.size_append, ← hP17]; omega)
  obtain ⟨P18, hP18⟩ : ∃ P, P = P17 ++ X9 := ⟨_, rfl⟩
  have hs18 : P18.size = P17.size + X9.size := by rw [hP18, ByteArray.size_append]; try rfl
  have ha18 : ∀ w, (Op.stringOp .add P17 X9).run Tryz.prog w = .ok (.string P18) w := fun w => by
    rw [hP18]
    exact run_string_add_sum w _ _ (by rw [← ByteArray.size_append, ← hP18]; omega)
  obtain ⟨P19, hP19⟩ : ∃ P, P = P18 ++ (⟨#[32, 109, 117, 105, 100, 61]⟩ : ByteArray) := ⟨_, rfl⟩
  have hs19 : P19.size = P18.size + 6 := by rw [hP19, ByteArray.size_append]; try rfl
  have ha19 : ∀ w, (Op.stringOp .add P18 (⟨#[32, 109, 117, 105, 100, 61]⟩ : ByteArray)).run Tryz.prog w = .ok (.string P19) w := fun w => by
    rw [hP19]
    exact run_string_add_sum w _ _ (by rw [← ByteArray.size_append, ← hP19]; omega)
  obtain ⟨P20, hP20⟩ : ∃ P, P = P19 ++ X10 := ⟨_, rfl⟩
  have hs20 : P20.size = P19.size + X10.size := by rw [hP20, ByteArray.size_append]; try rfl
  have ha20 : ∀ w, (Op.stringOp .add P19 X10).run Tryz.prog w = .ok (.string P20) w := fun w => by
    rw [hP20]
    exact run_string_add_sum w _ _ (by rw [← ByteArray.size_append, ← hP20]; omega)
  obtain ⟨P21, hP21⟩ : ∃ P, P = P20 ++ (⟨#[125]⟩ : ByteArray) := ⟨_, rfl⟩
  have hs21 : P21.size = P20.size + 1 := by rw [hP21, ByteArray.size_append]; try rfl
  have ha21 : ∀ w, (Op.stringOp .add P20 (⟨#[125]⟩ : ByteArray)).run Tryz.prog w = .ok (.string P21) w := fun w => by
    rw [hP21]
    exact run_string_add_sum w _ _ (by rw [← ByteArray.size_append, ← hP21]; omega)
  have HRES := Lib.hid (show ofL (recL s) = P21 from by
    rw [hP21, hP20, hP19, hP18, hP17, hP16, hP15, hP14, hP13, hP12, hP11, hP10, hP9, hP8, hP7, hP6, hP5, hP4, hP3, hP2, hP1, hP0, hX0, hX1, hX2, hX3, hX4, hX5, hX6, hX7, hX8, hX9, hX10]
    show ofL (recL s) = ofL [123, 116, 121, 112, 101, 61] ++ ofL (decDigits s.type) ++ ofL [32, 100, 101, 118, 61] ++ ofL (decDigits s.dev) ++ ofL [32, 113, 105, 100, 61] ++ ofL (dotL s.qid) ++ ofL [32, 109, 111, 100, 101, 61] ++ ofL (decDigits s.mode) ++ ofL [32, 97, 116, 105, 109, 101, 61] ++ ofL (decDigits s.atime) ++ ofL [32, 109, 116, 105, 109, 101, 61] ++ ofL (decDigits s.mtime) ++ ofL [32, 108, 101, 110, 103, 116, 104, 61] ++ ofL (decDigits s.length) ++ ofL [32, 110, 97, 109, 101, 61] ++ ofL (quoteS s.name) ++ ofL [32, 117, 105, 100, 61] ++ ofL (quoteS s.uid) ++ ofL [32, 103, 105, 100, 61] ++ ofL (quoteS s.gid) ++ ofL [32, 109, 117, 105, 100, 61] ++ ofL (quoteS s.muid) ++ ofL [125]
    simp only [ofL_app]
    rfl)
  have HX0 := Lib.hid hX0.symm
  have HX1 := Lib.hid hX1.symm
  have HX2 := Lib.hid hX2.symm
  have HX3 := Lib.hid hX3.symm
  have HX4 := Lib.hid hX4.symm
  have HX5 := Lib.hid hX5.symm
  have HX6 := Lib.hid hX6.symm
  have HX7 := Lib.hid hX7.symm
  have HX8 := Lib.hid hX8.symm
  have HX9 := Lib.hid hX9.symm
  have HX10 := Lib.hid hX10.symm
  clear hP0 hs0 hP1 hs1 hP2 hs2 hP3 hs3 hP4 hs4 hP5 hs5 hP6 hs6 hP7 hs7 hP8 hs8 hP9 hs9 hP10 hs10 hP11 hs11 hP12 hs12 hP13 hs13 hP14 hs14 hP15 hs15 hP16 hs16 hP17 hs17 hP18 hs18 hP19 hs19 hP20 hs20 hP21 hs21 hX0 hz0 hX1 hz1 hX2 hz2 hX3 hz3 hX4 hz4 hX5 hz5 hX6 hz6 hX7 hz7 hX8 hz8 hX9 hz9 hX10 hz10
  unfold stV
  go_enter Tryz.func240, Tryz.ntmps240
  go_upto_region 1 with (fail)
  generalize w.alloc (.cells #[.int .u16 (s.type : Int), .int .u32 (s.dev : Int), .int .u8 (s.qid.kind : Int), .int .u32 (s.qid.vers : Int), .int .u64 (s.qid.path : Int), .int .u32 (s.mode : Int), .int .u32 (s.atime : Int), .int .u32 (s.mtime : Int), .int .u64 (s.length : Int), .string s.name, .string s.uid, .string s.gid, .string s.muid] 39) = w0 at HN HB HT0 ⊢
  generalize hb : w.heap.size = b at HN H8 HB ⊢
  have HBB := Lib.hid hb; clear hb
  have HL := Lib.hid (Blk.lt HN.out)
  have HTP := Lib.hid (show ∀ wx, Below w0.heap.size w0 wx → TP wx from fun wx h => HT0.out.low h (by have := HL.out; have := H8.out; omega))
  have HTS := Lib.hid (show ∀ wx : World, Below w0.heap.size w0 wx → 8 ≤ wx.heap.size from fun wx h => by have := h.size; have := HL.out; have := H8.out; omega)
  have HCC := Lib.hid (show ∀ wx : World, Below w0.heap.size w0 wx → wx.cell? ⟨b, 0, none⟩ = some (.int .u16 (s.type : Int)) ∧ wx.cell? ⟨b, 1, none⟩ = some (.int .u32 (s.dev : Int)) ∧ wx.cell? ⟨b, 2, none⟩ = some (.int .u8 (s.qid.kind : Int)) ∧ wx.cell? ⟨b, 3, none⟩ = some (.int .u32 (s.qid.vers : Int)) ∧ wx.cell? ⟨b, 4, none⟩ = some (.int .u64 (s.qid.path : Int)) ∧ wx.cell? ⟨b, 5, none⟩ = some (.int .u32 (s.mode : Int)) ∧ wx.cell? ⟨b, 6, none⟩ = some (.int .u32 (s.atime : Int)) ∧ wx.cell? ⟨b, 7, none⟩ = some (.int .u32 (s.mtime : Int)) ∧ wx.cell? ⟨b, 8, none⟩ = some (.int .u64 (s.length : Int)) ∧ wx.cell? ⟨b, 9, none⟩ = some (.string s.name) ∧ wx.cell? ⟨b, 10, none⟩ = some (.string s.uid) ∧ wx.cell? ⟨b, 11, none⟩ = some (.string s.gid) ∧ wx.cell? ⟨b, 12, none⟩ = some (.string s.muid) from fun wx h => by
    have hk := fun i => (h.cell (p := ⟨b, i, none⟩) HL.out).trans (HN.out.cell i)
    exact ⟨hk 0, hk 1, hk 2, hk 3, hk 4, hk 5, hk 6, hk 7, hk 8, hk 9, hk 10, hk 11, hk 12⟩)
  have hw_type : IntKind.u64.wrap (s.type : Int) = (s.type : Int) := wrap_u64_nat HQ.out.type
  have hw_dev : IntKind.u64.wrap (s.dev : Int) = (s.dev : Int) := wrap_u64_nat HQ.out.dev
  have hw_mode : IntKind.u64.wrap (s.mode : Int) = (s.mode : Int) := wrap_u64_nat HQ.out.mode
  have hw_atime : IntKind.u64.wrap (s.atime : Int) = (s.atime : Int) := wrap_u64_nat HQ.out.atime
  have hw_mtime : IntKind.u64.wrap (s.mtime : Int) = (s.mtime : Int) := wrap_u64_nat HQ.out.mtime
  refine wp_region_held_drew (S := fun wx => Below w0.heap.size w0 wx) (by kernel_rfl) (below_drew w0) (fun hHeld => ?_)
  generalize w0.drew = wd at hHeld ⊢
  refine wpAnyH_takeD 3 (i := 0) (v := .pointer (some ⟨b, 0, none⟩)) rfl rfl (by kernel_rfl) (by kernel_rfl) (by kernel_rfl) (fun _ _ _ h => h) (Or.inl ⟨by rfl, fun wq hSw => by go_simp⟩) (by assumption) ?_
  simp only [Act.put, List.setIfInBounds_toArray, List.set_cons_zero, List.set_cons_succ]
  refine wpAnyH_takeD 4 (i := 1) (v := .int .u16 (s.type : Int)) rfl rfl (by kernel_rfl) (by kernel_rfl) (by kernel_rfl) (fun _ _ _ h => h) (Or.inl ⟨by rfl, fun wq hSw => by have hcc := HCC.out _ hSw; have k := hcc.1; clear hcc; go_simp⟩) (by assumption) ?_
  simp only [Act.put, List.setIfInBounds_toArray, List.set_cons_zero, List.set_cons_succ]
  refine wpAnyH_takeD 5 (i := 2) (v := .int .u64 (s.type : Int)) rfl rfl (by kernel_rfl) (by kernel_rfl) (by kernel_rfl) (fun _ _ _ h => h) (Or.inl ⟨by rfl, fun wq hSw => by go_simp⟩) (by assumption) ?_
  simp only [Act.put, List.setIfInBounds_toArray, List.set_cons_zero, List.set_cons_succ]
  refine wpAnyH_takeD 9 (i := 6) (v := .pointer (some ⟨b, 1, none⟩)) rfl rfl (by kernel_rfl) (by kernel_rfl) (by kernel_rfl) (fun _ _ _ h => h) (Or.inl ⟨by rfl, fun wq hSw => by go_simp⟩) (by assumption) ?_
  simp only [Act.put, List.setIfInBounds_toArray, List.set_cons_zero, List.set_cons_succ]
  refine wpAnyH_takeD 10 (i := 7) (v := .int .u32 (s.dev : Int)) rfl rfl (by kernel_rfl) (by kernel_rfl) (by kernel_rfl) (fun _ _ _ h => h) (Or.inl ⟨by rfl, fun wq hSw => by have hcc := HCC.out _ hSw; have k := hcc.2.1; clear hcc; go_simp⟩) (by assumption) ?_
  simp only [Act.put, List.setIfInBounds_toArray, List.set_cons_zero, List.set_cons_succ]
  refine wpAnyH_takeD 11 (i := 8) (v := .int .u64 (s.dev : Int)) rfl rfl (by kernel_rfl) (by kernel_rfl) (by kernel_rfl) (fun _ _ _ h => h) (Or.inl ⟨by rfl, fun wq hSw => by go_simp⟩) (by assumption) ?_
  simp only [Act.put, List.setIfInBounds_toArray, List.set_cons_zero, List.set_cons_succ]
  refine wpAnyH_takeD 15 (i := 12) (v := .pointer (some ⟨b, 2, none⟩)) rfl rfl (by kernel_rfl) (by kernel_rfl) (by kernel_rfl) (fun _ _ _ h => h) (Or.inl ⟨by rfl, fun wq hSw => by go_simp⟩) (by assumption) ?_
  simp only [Act.put, List.setIfInBounds_toArray, List.set_cons_zero, List.set_cons_succ]
  refine wpAnyH_takeD 16 (i := 13) (v := qdV s.qid) rfl rfl (by kernel_rfl) (by kernel_rfl) (by kernel_rfl) (fun _ _ _ h => h) (Or.inl ⟨by rfl, fun wq hSw => by have hcc := HCC.out _ hSw; have k0 := hcc.2.2.1; have k1 := hcc.2.2.2.1; have k2 := hcc.2.2.2.2.1; clear hcc; go_simp⟩) (by assumption) ?_
  simp only [Act.put, List.setIfInBounds_toArray, List.set_cons_zero, List.set_cons_succ]
  refine wpAnyH_takeD 20 (i := 17) (v := .pointer (some ⟨b, 5, none⟩)) rfl rfl (by kernel_rfl) (by kernel_rfl) (by kernel_rfl) (fun _ _ _ h => h) (Or.inl ⟨by rfl, fun wq hSw => by go_simp⟩) (by assumption) ?_
  simp only [Act.put, List.setIfInBounds_toArray, List.set_cons_zero, List.set_cons_succ]
  refine wpAnyH_takeD 21 (i := 18) (v := .int .u32 (s.mode : Int)) rfl rfl (by kernel_rfl) (by kernel_rfl) (by kernel_rfl) (fun _ _ _ h => h) (Or.inl ⟨by rfl, fun wq hSw => by have hcc := HCC.out _ hSw; have k := hcc.2.2.2.2.2.1; clear hcc; go_simp⟩) (by assumption) ?_
  simp only [Act.put, List.setIfInBounds_toArray, List.set_cons_zero, List.set_cons_succ]
  refine wpAnyH_takeD 22 (i := 19) (v := .int .u64 (s.mode : Int)) rfl rfl (by kernel_rfl) (by kernel_rfl) (by kernel_rfl) (fun _ _ _ h => h) (Or.inl ⟨by rfl, fun wq hSw => by go_simp⟩) (by assumption) ?_
  simp only [Act.put, List.setIfInBounds_toArray, List.set_cons_zero, List.set_cons_succ]
  refine wpAnyH_takeD 26 (i := 23) (v := .pointer (some ⟨b, 6, none⟩)) rfl rfl (by kernel_rfl) (by kernel_rfl) (by kernel_rfl) (fun _ _ _ h => h) (Or.inl ⟨by rfl, fun wq hSw => by go_simp⟩) (by assumption) ?_
  simp only [Act.put, List.setIfInBounds_toArray, List.set_cons_zero, List.set_cons_succ]
  refine wpAnyH_takeD 27 (i := 24) (v := .int .u32 (s.atime : Int)) rfl rfl (by kernel_rfl) (by kernel_rfl) (by kernel_rfl) (fun _ _ _ h => h) (Or.inl ⟨by rfl, fun wq hSw => by have hcc := HCC.out _ hSw; have k := hcc.2.2.2.2.2.2.1; clear hcc; go_simp⟩) (by assumption) ?_
  simp only [Act.put, List.setIfInBounds_toArray, List.set_cons_zero, List.set_cons_succ]
  refine wpAnyH_takeD 28 (i := 25) (v := .int .u64 (s.atime : Int)) rfl rfl (by kernel_rfl) (by kernel_rfl) (by kernel_rfl) (fun _ _ _ h => h) (Or.inl ⟨by rfl, fun wq hSw => by go_simp⟩) (by assumption) ?_
  simp only [Act.put, List.setIfInBounds_toArray, List.set_cons_zero, List.set_cons_succ]
  refine wpAnyH_takeD 32 (i := 29) (v := .pointer (some ⟨b, 7, none⟩)) rfl rfl (by kernel_rfl) (by kernel_rfl) (by kernel_rfl) (fun _ _ _ h => h) (Or.inl ⟨by rfl, fun wq hSw => by go_simp⟩) (by assumption) ?_
  simp only [Act.put, List.setIfInBounds_toArray, List.set_cons_zero, List.set_cons_succ]
  refine wpAnyH_takeD 33 (i := 30) (v := .int .u32 (s.mtime : Int)) rfl rfl (by kernel_rfl) (by kernel_rfl) (by kernel_rfl) (fun _ _ _ h => h) (Or.inl ⟨by rfl, fun wq hSw => by have hcc := HCC.out _ hSw; have k := hcc.2.2.2.2.2.2.2.1; clear hcc; go_simp⟩) (by assumption) ?_
  simp only [Act.put, List.setIfInBounds_toArray, List.set_cons_zero, List.set_cons_succ]
  refine wpAnyH_takeD 34 (i := 31) (v := .int .u64 (s.mtime : Int)) rfl rfl (by kernel_rfl) (by kernel_rfl) (by kernel_rfl) (fun _ _ _ h => h) (Or.inl ⟨by rfl, fun wq hSw => by go_simp⟩) (by assumption) ?_
  simp only [Act.put, List.setIfInBounds_toArray, List.set_cons_zero, List.set_cons_succ]
  refine wpAnyH_takeD 38 (i := 35) (v := .pointer (some ⟨b, 8, none⟩)) rfl rfl (by kernel_rfl) (by kernel_rfl) (by kernel_rfl) (fun _ _ _ h => h) (Or.inl ⟨by rfl, fun wq hSw => by go_simp⟩) (by assumption) ?_
  simp only [Act.put, List.setIfInBounds_toArray, List.set_cons_zero, List.set_cons_succ]
  refine wpAnyH_takeD 39 (i := 36) (v := .int .u64 (s.length : Int)) rfl rfl (by kernel_rfl) (by kernel_rfl) (by kernel_rfl) (fun _ _ _ h => h) (Or.inl ⟨by rfl, fun wq hSw => by have hcc := HCC.out _ hSw; have k := hcc.2.2.2.2.2.2.2.2.1; clear hcc; go_simp⟩) (by assumption) ?_
  simp only [Act.put, List.setIfInBounds_toArray, List.set_cons_zero, List.set_cons_succ]
  refine wpAnyH_takeD 43 (i := 40) (v := .pointer (some ⟨b, 9, none⟩)) rfl rfl (by kernel_rfl) (by kernel_rfl) (by kernel_rfl) (fun _ _ _ h => h) (Or.inl ⟨by rfl, fun wq hSw => by go_simp⟩) (by assumption) ?_
  simp only [Act.put, List.setIfInBounds_toArray, List.set_cons_zero, List.set_cons_succ]
  refine wpAnyH_takeD 44 (i := 41) (v := .string s.name) rfl rfl (by kernel_rfl) (by kernel_rfl) (by kernel_rfl) (fun _ _ _ h => h) (Or.inl ⟨by rfl, fun wq hSw => by have hcc := HCC.out _ hSw; have k := hcc.2.2.2.2.2.2.2.2.2.1; clear hcc; go_simp⟩) (by assumption) ?_
  simp only [Act.put, List.setIfInBounds_toArray, List.set_cons_zero, List.set_cons_succ]
  refine wpAnyH_takeD 48 (i := 45) (v := .pointer (some ⟨b, 10, none⟩)) rfl rfl (by kernel_rfl) (by kernel_rfl) (by kernel_rfl) (fun _ _ _ h => h) (Or.inl ⟨by rfl, fun wq hSw => by go_simp⟩) (by assumption) ?_
  simp only [Act.put, List.setIfInBounds_toArray, List.set_cons_zero, List.set_cons_succ]
  refine wpAnyH_takeD 49 (i := 46) (v := .string s.uid) rfl rfl (by kernel_rfl) (by kernel_rfl) (by kernel_rfl) (fun _ _ _ h => h) (Or.inl ⟨by rfl, fun wq hSw => by have hcc := HCC.out _ hSw; have k := hcc.2.2.2.2.2.2.2.2.2.2.1; clear hcc; go_simp⟩) (by assumption) ?_
  simp only [Act.put, List.setIfInBounds_toArray, List.set_cons_zero, List.set_cons_succ]
  refine wpAnyH_takeD 53 (i := 50) (v := .pointer (some ⟨b, 11, none⟩)) rfl rfl (by kernel_rfl) (by kernel_rfl) (by kernel_rfl) (fun _ _ _ h => h) (Or.inl ⟨by rfl, fun wq hSw => by go_simp⟩) (by assumption) ?_
  simp only [Act.put, List.setIfInBounds_toArray, List.set_cons_zero, List.set_cons_succ]
  refine wpAnyH_takeD 54 (i := 51) (v := .string s.gid) rfl rfl (by kernel_rfl) (by kernel_rfl) (by kernel_rfl) (fun _ _ _ h => h) (Or.inl ⟨by rfl, fun wq hSw => by have hcc := HCC.out _ hSw; have k := hcc.2.2.2.2.2.2.2.2.2.2.2.1; clear hcc; go_simp⟩) (by assumption) ?_
  simp only [Act.put, List.setIfInBounds_toArray, List.set_cons_zero, List.set_cons_succ]
  refine wpAnyH_takeD 58 (i := 55) (v := .pointer (some ⟨b, 12, none⟩)) rfl rfl (by kernel_rfl) (by kernel_rfl) (by kernel_rfl) (fun _ _ _ h => h) (Or.inl ⟨by rfl, fun wq hSw => by go_simp⟩) (by assumption) ?_
  simp only [Act.put, List.setIfInBounds_toArray, List.set_cons_zero, List.set_cons_succ]
  refine wpAnyH_takeD 59 (i := 56) (v := .string s.muid) rfl rfl (by kernel_rfl) (by kernel_rfl) (by kernel_rfl) (fun _ _ _ h => h) (Or.inl ⟨by rfl, fun wq hSw => by have hcc := HCC.out _ hSw; have k := hcc.2.2.2.2.2.2.2.2.2.2.2.2; clear hcc; go_simp⟩) (by assumption) ?_
  simp only [Act.put, List.setIfInBounds_toArray, List.set_cons_zero, List.set_cons_succ]
  refine wpAnyH_ready (rs := [3]) (by kernel_rfl) (by simp) ?_
  refine AllReadyH.cons rfl (fun K hK => ?_) AllReadyH.nil
  rw [if_pos (by rfl)]
  go_simp
  (with_reducible refine (digits_calls s.type HQ.out.type wd (HTP.out _ hHeld)).mono ?_)
  rintro e wy ⟨rfl, hb⟩
  rw [HX0.out]
  dsimp only
  have hHeld2 := hHeld.trans (hb.mono hHeld.size)
  clear hb hHeld
  refine hK.out _ _ hHeld2 (fun hHeld => ?_)
  clear hK hHeld2
  refine wpAnyH_takeD 7 (i := 4) (v := .string P0) rfl rfl (by kernel_rfl) (by kernel_rfl) (by kernel_rfl) (fun _ _ _ h => h) (Or.inl ⟨by rfl, fun wq hSw => by go_simp⟩) (by assumption) ?_
  simp only [Act.put, List.setIfInBounds_toArray, List.set_cons_zero, List.set_cons_succ]
  refine wpAnyH_takeD 8 (i := 5) (v := .string P1) rfl rfl (by kernel_rfl) (by kernel_rfl) (by kernel_rfl) (fun _ _ _ h => h) (Or.inl ⟨by rfl, fun wq hSw => by go_simp⟩) (by assumption) ?_
  simp only [Act.put, List.setIfInBounds_toArray, List.set_cons_zero, List.set_cons_succ]
  refine wpAnyH_ready (rs := [9]) (by kernel_rfl) (by simp) ?_
  refine AllReadyH.cons rfl (fun K hK => ?_) AllReadyH.nil
  rw [if_pos (by rfl)]
  go_simp
  (with_reducible refine (digits_calls s.dev HQ.out.dev wy (HTP.out _ hHeld)).mono ?_)
  rintro e wy ⟨rfl, hb⟩
  rw [HX1.out]
  dsimp only
  have hHeld2 := hHeld.trans (hb.mono hHeld.size)
  clear hb hHeld
  refine hK.out _ _ hHeld2 (fun hHeld => ?_)
  clear hK hHeld2
  refine wpAnyH_takeD 13 (i := 10) (v := .string P2) rfl rfl (by kernel_rfl) (by kernel_rfl) (by kernel_rfl) (fun _ _ _ h => h) (Or.inl ⟨by rfl, fun wq hSw => by go_simp⟩) (by assumption) ?_
  simp only [Act.put, List.setIfInBounds_toArray, List.set_cons_zero, List.set_cons_succ]
  refine wpAnyH_takeD 14 (i := 11) (v := .string P3) rfl rfl (by kernel_rfl) (by kernel_rfl) (by kernel_rfl) (fun _ _ _ h => h) (Or.inl ⟨by rfl, fun wq hSw => by go_simp⟩) (by assumption) ?_
  simp only [Act.put, List.setIfInBounds_toArray, List.set_cons_zero, List.set_cons_succ]
  refine wpAnyH_ready (rs := [14]) (by kernel_rfl) (by simp) ?_
  refine AllReadyH.cons rfl (fun K hK => ?_) AllReadyH.nil
  rw [if_pos (by rfl)]
  go_simp
  (with_reducible refine (dot_calls s.qid HQ.out.qid wy (HTP.out _ hHeld) (HTS.out _ hHeld)).mono ?_)
  rintro e wy ⟨rfl, hb⟩
  rw [HX2.out]
  dsimp only
  have hHeld2 := hHeld.trans (hb.mono hHeld.size)
  clear hb hHeld
  refine hK.out _ _ hHeld2 (fun hHeld => ?_)
  clear hK hHeld2
  refine wpAnyH_takeD 18 (i := 15) (v := .string P4) rfl rfl (by kernel_rfl) (by kernel_rfl) (by kernel_rfl) (fun _ _ _ h => h) (Or.inl ⟨by rfl, fun wq hSw => by go_simp⟩) (by assumption) ?_
  simp only [Act.put, List.setIfInBounds_toArray, List.set_cons_zero, List.set_cons_succ]
  refine wpAnyH_takeD 19 (i := 16) (v := .string P5) rfl rfl (by kernel_rfl) (by kernel_rfl) (by kernel_rfl) (fun _ _ _ h => h) (Or.inl ⟨by rfl, fun wq hSw => by go_simp⟩) (by assumption) ?_
  simp only [Act.put, List.setIfInBounds_toArray, List.set_cons_zero, List.set_cons_succ]
  refine wpAnyH_ready (rs := [20]) (by kernel_rfl) (by simp) ?_
  refine AllReadyH.cons rfl (fun K hK => ?_) AllReadyH.nil
  rw [if_pos (by rfl)]
  go_simp
  (with_reducible refine (digits_calls s.mode HQ.out.mode wy (HTP.out _ hHeld)).mono ?_)
  rintro e wy ⟨rfl, hb⟩
  rw [HX3.out]
  dsimp only
  have hHeld2 := hHeld.trans (hb.mono hHeld.size)
  clear hb hHeld
  refine hK.out _ _ hHeld2 (fun hHeld => ?_)
  clear hK hHeld2
  refine wpAnyH_takeD 24 (i := 21) (v := .string P6) rfl rfl (by kernel_rfl) (by kernel_rfl) (by kernel_rfl) (fun _ _ _ h => h) (Or.inl ⟨by rfl, fun wq hSw => by go_simp⟩) (by assumption) ?_
  simp only [Act.put, List.setIfInBounds_toArray, List.set_cons_zero, List.set_cons_succ]
  refine wpAnyH_takeD 25 (i := 22) (v := .string P7) rfl rfl (by kernel_rfl) (by kernel_rfl) (by kernel_rfl) (fun _ _ _ h => h) (Or.inl ⟨by rfl, fun wq hSw => by go_simp⟩) (by assumption) ?_
  simp only [Act.put, List.setIfInBounds_toArray, List.set_cons_zero, List.set_cons_succ]
  refine wpAnyH_ready (rs := [26]) (by kernel_rfl) (by simp) ?_
  refine AllReadyH.cons rfl (fun K hK => ?_) AllReadyH.nil
  rw [if_pos (by rfl)]
  go_simp
  (with_reducible refine (digits_calls s.atime HQ.out.atime wy (HTP.out _ hHeld)).mono ?_)
  rintro e wy ⟨rfl, hb⟩
  rw [HX4.out]
  dsimp only
  have hHeld2 := hHeld.trans (hb.mono hHeld.size)
  clear hb hHeld
  refine hK.out _ _ hHeld2 (fun hHeld => ?_)
  clear hK hHeld2
  refine wpAnyH_takeD 30 (i := 27) (v := .string P8) rfl rfl (by kernel_rfl) (by kernel_rfl) (by kernel_rfl) (fun _ _ _ h => h) (Or.inl ⟨by rfl, fun wq hSw => by go_simp⟩) (by assumption) ?_
  simp only [Act.put, List.setIfInBounds_toArray, List.set_cons_zero, List.set_cons_succ]
  refine wpAnyH_takeD 31 (i := 28) (v := .string P9) rfl rfl (by kernel_rfl) (by kernel_rfl) (by kernel_rfl) (fun _ _ _ h => h) (Or.inl ⟨by rfl, fun wq hSw => by go_simp⟩) (by assumption) ?_
  simp only [Act.put, List.setIfInBounds_toArray, List.set_cons_zero, List.set_cons_succ]
  refine wpAnyH_ready (rs := [32]) (by kernel_rfl) (by simp) ?_
  refine AllReadyH.cons rfl (fun K hK => ?_) AllReadyH.nil
  rw [if_pos (by rfl)]
  go_simp
  (with_reducible refine (digits_calls s.mtime HQ.out.mtime wy (HTP.out _ hHeld)).mono ?_)
  rintro e wy ⟨rfl, hb⟩
  rw [HX5.out]
  dsimp only
  have hHeld2 := hHeld.trans (hb.mono hHeld.size)
  clear hb hHeld
  refine hK.out _ _ hHeld2 (fun hHeld => ?_)
  clear hK hHeld2
  refine wpAnyH_takeD 36 (i := 33) (v := .string P10) rfl rfl (by kernel_rfl) (by kernel_rfl) (by kernel_rfl) (fun _ _ _ h => h) (Or.inl ⟨by rfl, fun wq hSw => by go_simp⟩) (by assumption) ?_
  simp only [Act.put, List.setIfInBounds_toArray, List.set_cons_zero, List.set_cons_succ]
  refine wpAnyH_takeD 37 (i := 34) (v := .string P11) rfl rfl (by kernel_rfl) (by kernel_rfl) (by kernel_rfl) (fun _ _ _ h => h) (Or.inl ⟨by rfl, fun wq hSw => by go_simp⟩) (by assumption) ?_
  simp only [Act.put, List.setIfInBounds_toArray, List.set_cons_zero, List.set_cons_succ]
  refine wpAnyH_ready (rs := [37]) (by kernel_rfl) (by simp) ?_
  refine AllReadyH.cons rfl (fun K hK => ?_) AllReadyH.nil
  rw [if_pos (by rfl)]
  go_simp
  (with_reducible refine (digits_calls s.length HQ.out.length wy (HTP.out _ hHeld)).mono ?_)
  rintro e wy ⟨rfl, hb⟩
  rw [HX6.out]
  dsimp only
  have hHeld2 := hHeld.trans (hb.mono hHeld.size)
  clear hb hHeld
  refine hK.out _ _ hHeld2 (fun hHeld => ?_)
  clear hK hHeld2
  refine wpAnyH_takeD 41 (i := 38) (v := .string P12) rfl rfl (by kernel_rfl) (by kernel_rfl) (by kernel_rfl) (fun _ _ _ h => h) (Or.inl ⟨by rfl, fun wq hSw => by go_simp⟩) (by assumption) ?_
  simp only [Act.put, List.setIfInBounds_toArray, List.set_cons_zero, List.set_cons_succ]
  refine wpAnyH_takeD 42 (i := 39) (v := .string P13) rfl rfl (by kernel_rfl) (by kernel_rfl) (by kernel_rfl) (fun _ _ _ h => h) (Or.inl ⟨by rfl, fun wq hSw => by go_simp⟩) (by assumption) ?_
  simp only [Act.put, List.setIfInBounds_toArray, List.set_cons_zero, List.set_cons_succ]
  refine wpAnyH_ready (rs := [42]) (by kernel_rfl) (by simp) ?_
  refine AllReadyH.cons rfl (fun K hK => ?_) AllReadyH.nil
  rw [if_pos (by rfl)]
  go_simp
  (with_reducible refine (quoted_calls s.name HQ.out.name.1 HQ.out.name.2 wy).mono ?_)
  rintro e wy ⟨rfl, hb⟩
  rw [HX7.out]
  dsimp only
  have hHeld2 := hHeld.trans (hb.mono hHeld.size)
  clear hb hHeld
  refine hK.out _ _ hHeld2 (fun hHeld => ?_)
  clear hK hHeld2
  refine wpAnyH_takeD 46 (i := 43) (v := .string P14) rfl rfl (by kernel_rfl) (by kernel_rfl) (by kernel_rfl) (fun _ _ _ h => h) (Or.inl ⟨by rfl, fun wq hSw => by go_simp⟩) (by assumption) ?_
  simp only [Act.put, List.setIfInBounds_toArray, List.set_cons_zero, List.set_cons_succ]
  refine wpAnyH_takeD 47 (i := 44) (v := .string P15) rfl rfl (by kernel_rfl) (by kernel_rfl) (by kernel_rfl) (fun _ _ _ h => h) (Or.inl ⟨by rfl, fun wq hSw => by go_simp⟩) (by assumption) ?_
  simp only [Act.put, List.setIfInBounds_toArray, List.set_cons_zero, List.set_cons_succ]
  refine wpAnyH_ready (rs := [47]) (by kernel_rfl) (by simp) ?_
  refine AllReadyH.cons rfl (fun K hK => ?_) AllReadyH.nil
  rw [if_pos (by rfl)]
  go_simp
  (with_reducible refine (quoted_calls s.uid HQ.out.uid.1 HQ.out.uid.2 wy).mono ?_)
  rintro e wy ⟨rfl, hb⟩
  rw [HX8.out]
  dsimp only
  have hHeld2 := hHeld.trans (hb.mono hHeld.size)
  clear hb hHeld
  refine hK.out _ _ hHeld2 (fun hHeld => ?_)
  clear hK hHeld2
  refine wpAnyH_takeD 51 (i := 48) (v := .string P16) rfl rfl (by kernel_rfl) (by kernel_rfl) (by kernel_rfl) (fun _ _ _ h => h) (Or.inl ⟨by rfl, fun wq hSw => by go_simp⟩) (by assumption) ?_
  simp only [Act.put, List.setIfInBounds_toArray, List.set_cons_zero, List.set_cons_succ]
  refine wpAnyH_takeD 52 (i := 49) (v := .string P17) rfl rfl (by kernel_rfl) (by kernel_rfl) (by kernel_rfl) (fun _ _ _ h => h) (Or.inl ⟨by rfl, fun wq hSw => by go_simp⟩) (by assumption) ?_
  simp only [Act.put, List.setIfInBounds_toArray, List.set_cons_zero, List.set_cons_succ]
  refine wpAnyH_ready (rs := [52]) (by kernel_rfl) (by simp) ?_
  refine AllReadyH.cons rfl (fun K hK => ?_) AllReadyH.nil
  rw [if_pos (by rfl)]
  go_simp
  (with_reducible refine (quoted_calls s.gid HQ.out.gid.1 HQ.out.gid.2 wy).mono ?_)
  rintro e wy ⟨rfl, hb⟩
  rw [HX9.out]
  dsimp only
  have hHeld2 := hHeld.trans (hb.mono hHeld.size)
  clear hb hHeld
  refine hK.out _ _ hHeld2 (fun hHeld => ?_)
  clear hK hHeld2
  refine wpAnyH_takeD 56 (i := 53) (v := .string P18) rfl rfl (by kernel_rfl) (by kernel_rfl) (by kernel_rfl) (fun _ _ _ h => h) (Or.inl ⟨by rfl, fun wq hSw => by go_simp⟩) (by assumption) ?_
  simp only [Act.put, List.setIfInBounds_toArray, List.set_cons_zero, List.set_cons_succ]
  refine wpAnyH_takeD 57 (i := 54) (v := .string P19) rfl rfl (by kernel_rfl) (by kernel_rfl) (by kernel_rfl) (fun _ _ _ h => h) (Or.inl ⟨by rfl, fun wq hSw => by go_simp⟩) (by assumption) ?_
  simp only [Act.put, List.setIfInBounds_toArray, List.set_cons_zero, List.set_cons_succ]
  refine wpAnyH_ready (rs := [57]) (by kernel_rfl) (by simp) ?_
  refine AllReadyH.cons rfl (fun K hK => ?_) AllReadyH.nil
  rw [if_pos (by rfl)]
  go_simp
  (with_reducible refine (quoted_calls s.muid HQ.out.muid.1 HQ.out.muid.2 wy).mono ?_)
  rintro e wy ⟨rfl, hb⟩
  rw [HX10.out]
  dsimp only
  have hHeld2 := hHeld.trans (hb.mono hHeld.size)
  clear hb hHeld
  refine hK.out _ _ hHeld2 (fun hHeld => ?_)
  clear hK hHeld2
  refine wpAnyH_takeD 61 (i := 58) (v := .string P20) rfl rfl (by kernel_rfl) (by kernel_rfl) (by kernel_rfl) (fun _ _ _ h => h) (Or.inl ⟨by rfl, fun wq hSw => by go_simp⟩) (by assumption) ?_
  simp only [Act.put, List.setIfInBounds_toArray, List.set_cons_zero, List.set_cons_succ]
  refine wpAnyH_takeD 62 (i := 59) (v := .string P21) rfl rfl (by kernel_rfl) (by kernel_rfl) (by kernel_rfl) (fun _ _ _ h => h) (Or.inl ⟨by rfl, fun wq hSw => by go_simp⟩) (by assumption) ?_
  simp only [Act.put, List.setIfInBounds_toArray, List.set_cons_zero, List.set_cons_succ]
  refine wpAnyH_takeD 2 (i := 60) (v := .string P21) rfl rfl (by kernel_rfl) (by kernel_rfl) (by kernel_rfl) (fun _ _ _ h => h) (Or.inl ⟨by rfl, fun wq hSw => by go_simp⟩) (by assumption) ?_
  simp only [Act.put, List.setIfInBounds_toArray, List.set_cons_zero, List.set_cons_succ]
  refine wpAnyH_done (by kernel_rfl) ?_ _
  have HBF := Lib.hid (HB.out.trans (hHeld.mono (by have := HL.out; omega)))
  clear hHeld
  go_wp2_with fail
  go_ret
  rw [HRES.out]
  exact ⟨rfl, by have hb := HBB.out; rw [hb]; exact HBF.out⟩
end Go.Proofs.YtkblmloobkiloaaGreatDoor
