
/-
  A case, a record that came in, opened to their cells, with the ranges of the numbers.
-/
import Derived.Test.YtlenlldiimohjaaGreatDoorOpen
import Derived.Test.YtlenlldiimohjaaGreatDoorRefU
import Derived.Test.YtlenlldiimohjaaGreatDoorWsL
namespace Go.Proofs.YtlenlldiimohjaaGreatDoor
open Go.ChangeShapes Go.WideShapes Go.ChangeAt Go.RowKit

/-- The node's other small numbers fit. -/
def Nd.fits (n : Nd) : Prop := (0 ≤ n.vers ∧ n.vers < 4294967296) ∧ (0 ≤ n.atime ∧ n.atime < 4294967296) ∧ (0 ≤ n.mtime ∧ n.mtime < 4294967296)
theorem u16_has {n : Int} (h : IntKind.u16.has n) : 0 ≤ n ∧ n < 65536 := by
  simp [IntKind.has, IntKind.min, IntKind.max, IntKind.signed, IntKind.bits] at h
  omega
theorem recS_fit {n : Nd} (h : n.fits) (hn : n.ok) : (recS n).fit := by
  obtain ⟨h1, h2, h3⟩ := h
  obtain ⟨m0, m1, -⟩ := hn
  exact ⟨⟨Int.le_refl (0 : Int), show (0 : Int) < 65536 by decide⟩, ⟨Int.le_refl (0 : Int), show (0 : Int) < 4294967296 by decide⟩, ⟨by show 0 ≤ n.mode / 16777216; omega, by show n.mode / 16777216 < 256; omega⟩, h1, ⟨m0, m1⟩, h2, h3⟩
/-- Of a node that came of a change. -/
theorem chN_fits {n : Nd} {s : St} (b : Nat → Bool) (h : n.fits) (hs : s.fit) : (chN n s b).fits := by
  obtain ⟨h1, h2, h3⟩ := h
  obtain ⟨-, -, -, -, -, -, g⟩ := hs
  refine ⟨h1, h2, ?_⟩
  show 0 ≤ (if b 7 = true then s.mtime else n.mtime) ∧ (if b 7 = true then s.mtime else n.mtime) < 4294967296
  split
  · exact g
  · exact h3

set_option maxRecDepth 100000 in
set_option maxHeartbeats 1600000 in
theorem case_open2 {H : Type} {enc : TypeId × Value → H} {w : World} {base b0 : Nat} {spare : Nat → Bool} {held : Bool} {v : Value} {d : DataW H} {ps : List MemPlace} (hv : Value.okWide Tryz.prog w .any b0 29 v) (h : DataW.Trod enc Tryz.prog w base spare held 29 v d ps) (hs : ∀ k ∈ d.weights Tryz.prog 29, k ≤ reachBytes) :
    ∃ (text user : ByteArray) (n p : Nd) (taken full : Bool) (name : ByteArray) (perm mode : Int), v = caseV text user n p taken full name perm mode ∧ text.size ≤ reachBytes ∧ user.size ≤ reachBytes ∧ n.came ∧ p.came ∧ name.size ≤ reachBytes ∧ (0 ≤ perm ∧ perm < 4294967296) ∧ (0 ≤ mode ∧ mode < 256) ∧ n.fits := by
  simp only [Value.okWide, Tryz.underlying29] at hv
  obtain ⟨cs, rfl, hsz, hrow⟩ := hv
  have hts : Tryz.prog.cellTypes Tryz.prog.depth 29 = some [9, 9, 22, 22, 9, 23, 9, 9, 9, 23, 23, 23, 22, 3, 3, 22, 22, 9, 23, 9, 9, 9, 23, 23, 23, 22, 3, 3, 4, 4, 9, 23, 5] := by kernel_rfl
  have hC : Tryz.prog.cellsOf 29 = 33 := by kernel_rfl
  rw [hC] at hsz
  have hc := fun i u (hu : _) v (hv : _) => row_cell hts hrow i (u := u) hu (v := v) hv
  clear hrow hts
  obtain ⟨l0⟩ := cs
  have e0 : l0.length = 33 := hsz
  clear hsz
  obtain ⟨c0, l1, rfl, e1⟩ := len_cons e0; clear e0
  obtain ⟨c1, l2, rfl, e2⟩ := len_cons e1; clear e1
  obtain ⟨c2, l3, rfl, e3⟩ := len_cons e2; clear e2
  obtain ⟨c3, l4, rfl, e4⟩ := len_cons e3; clear e3
  obtain ⟨c4, l5, rfl, e5⟩ := len_cons e4; clear e4
  obtain ⟨c5, l6, rfl, e6⟩ := len_cons e5; clear e5
  obtain ⟨c6, l7, rfl, e7⟩ := len_cons e6; clear e6
  obtain ⟨c7, l8, rfl, e8⟩ := len_cons e7; clear e7
  obtain ⟨c8, l9, rfl, e9⟩ := len_cons e8; clear e8
  obtain ⟨c9, l10, rfl, e10⟩ := len_cons e9; clear e9
  obtain ⟨c10, l11, rfl, e11⟩ := len_cons e10; clear e10
  obtain ⟨c11, l12, rfl, e12⟩ := len_cons e11; clear e11
  obtain ⟨c12, l13, rfl, e13⟩ := len_cons e12; clear e12
  obtain ⟨c13, l14, rfl, e14⟩ := len_cons e13; clear e13
  obtain ⟨c14, l15, rfl, e15⟩ := len_cons e14; clear e14
  obtain ⟨c15, l16, rfl, e16⟩ := len_cons e15; clear e15
  obtain ⟨c16, l17, rfl, e17⟩ := len_cons e16; clear e16
  obtain ⟨c17, l18, rfl, e18⟩ := len_cons e17; clear e17
  obtain ⟨c18, l19, rfl, e19⟩ := len_cons e18; clear e18
  obtain ⟨c19, l20, rfl, e20⟩ := len_cons e19; clear e19
  obtain ⟨c20, l21, rfl, e21⟩ := len_cons e20; clear e20
  obtain ⟨c21, l22, rfl, e22⟩ := len_cons e21; clear e21
  obtain ⟨c22, l23, rfl, e23⟩ := len_cons e22; clear e22
  obtain ⟨c23, l24, rfl, e24⟩ := len_cons e23; clear e23
  obtain ⟨c24, l25, rfl, e25⟩ := len_cons e24; clear e24
  obtain ⟨c25, l26, rfl, e26⟩ := len_cons e25; clear e25
  obtain ⟨c26, l27, rfl, e27⟩ := len_cons e26; clear e26
  obtain ⟨c27, l28, rfl, e28⟩ := len_cons e27; clear e27
  obtain ⟨c28, l29, rfl, e29⟩ := len_cons e28; clear e28
  obtain ⟨c29, l30, rfl, e30⟩ := len_cons e29; clear e29
  obtain ⟨c30, l31, rfl, e31⟩ := len_cons e30; clear e30
  obtain ⟨c31, l32, rfl, e32⟩ := len_cons e31; clear e31
  obtain ⟨c32, l33, rfl, e33⟩ := len_cons e32; clear e32
  obtain rfl := len_nil e33
  obtain ⟨x0, rfl⟩ := cell_str Tryz.underlying9 (hc 0 _ rfl _ rfl)
  obtain ⟨x1, rfl⟩ := cell_str Tryz.underlying9 (hc 1 _ rfl _ rfl)
  obtain ⟨x2, rfl, h2⟩ := cell_int Tryz.underlying22 (hc 2 _ rfl _ rfl)
  obtain ⟨x3, rfl, h3⟩ := cell_int Tryz.underlying22 (hc 3 _ rfl _ rfl)
  obtain ⟨x4, rfl⟩ := cell_str Tryz.underlying9 (hc 4 _ rfl _ rfl)
  obtain ⟨x5, rfl, h5⟩ := cell_int Tryz.underlying23 (hc 5 _ rfl _ rfl)
  obtain ⟨x6, rfl⟩ := cell_str Tryz.underlying9 (hc 6 _ rfl _ rfl)
  obtain ⟨x7, rfl⟩ := cell_str Tryz.underlying9 (hc 7 _ rfl _ rfl)
  obtain ⟨x8, rfl⟩ := cell_str Tryz.underlying9 (hc 8 _ rfl _ rfl)
  obtain ⟨x9, rfl, h9⟩ := cell_int Tryz.underlying23 (hc 9 _ rfl _ rfl)
  obtain ⟨x10, rfl, h10⟩ := cell_int Tryz.underlying23 (hc 10 _ rfl _ rfl)
  obtain ⟨x11, rfl, h11⟩ := cell_int Tryz.underlying23 (hc 11 _ rfl _ rfl)
  obtain ⟨x12, rfl, h12⟩ := cell_int Tryz.underlying22 (hc 12 _ rfl _ rfl)
  obtain ⟨x13, rfl, h13⟩ := cell_int Tryz.underlying3 (hc 13 _ rfl _ rfl)
  obtain ⟨x14, rfl, h14⟩ := cell_int Tryz.underlying3 (hc 14 _ rfl _ rfl)
  obtain ⟨x15, rfl, h15⟩ := cell_int Tryz.underlying22 (hc 15 _ rfl _ rfl)
  obtain ⟨x16, rfl, h16⟩ := cell_int Tryz.underlying22 (hc 16 _ rfl _ rfl)
  obtain ⟨x17, rfl⟩ := cell_str Tryz.underlying9 (hc 17 _ rfl _ rfl)
  obtain ⟨x18, rfl, h18⟩ := cell_int Tryz.underlying23 (hc 18 _ rfl _ rfl)
  obtain ⟨x19, rfl⟩ := cell_str Tryz.underlying9 (hc 19 _ rfl _ rfl)
  obtain ⟨x20, rfl⟩ := cell_str Tryz.underlying9 (hc 20 _ rfl _ rfl)
  obtain ⟨x21, rfl⟩ := cell_str Tryz.underlying9 (hc 21 _ rfl _ rfl)
  obtain ⟨x22, rfl, h22⟩ := cell_int Tryz.underlying23 (hc 22 _ rfl _ rfl)
  obtain ⟨x23, rfl, h23⟩ := cell_int Tryz.underlying23 (hc 23 _ rfl _ rfl)
  obtain ⟨x24, rfl, h24⟩ := cell_int Tryz.underlying23 (hc 24 _ rfl _ rfl)
  obtain ⟨x25, rfl, h25⟩ := cell_int Tryz.underlying22 (hc 25 _ rfl _ rfl)
  obtain ⟨x26, rfl, h26⟩ := cell_int Tryz.underlying3 (hc 26 _ rfl _ rfl)
  obtain ⟨x27, rfl, h27⟩ := cell_int Tryz.underlying3 (hc 27 _ rfl _ rfl)
  obtain ⟨x28, rfl⟩ := cell_bool Tryz.underlying4 (hc 28 _ rfl _ rfl)
  obtain ⟨x29, rfl⟩ := cell_bool Tryz.underlying4 (hc 29 _ rfl _ rfl)
  obtain ⟨x30, rfl⟩ := cell_str Tryz.underlying9 (hc 30 _ rfl _ rfl)
  obtain ⟨x31, rfl, h31⟩ := cell_int Tryz.underlying23 (hc 31 _ rfl _ rfl)
  obtain ⟨x32, rfl, h32⟩ := cell_int Tryz.underlying5 (hc 32 _ rfl _ rfl)
  clear hc e33
  obtain ⟨fuel, hf⟩ := h
  have cN : Tryz.prog.cellsOf 25 = 13 := by kernel_rfl
  have cF : Tryz.prog.cellsOf 27 = 28 := by kernel_rfl
  have cS : Tryz.prog.cellsOf 9 = 1 := by kernel_rfl

  obtain ⟨nF, yF, tF, wF⟩ := str_at Tryz.underlying29 hf 2 rfl 27 rfl cF [.int .u64 x2, .int .u64 x3, .string x4, .int .u32 x5, .string x6, .string x7, .string x8, .int .u32 x9, .int .u32 x10, .int .u32 x11, .int .u64 x12, .int .i64 x13, .int .i64 x14, .int .u64 x15, .int .u64 x16, .string x17, .int .u32 x18, .string x19, .string x20, .string x21, .int .u32 x22, .int .u32 x23, .int .u32 x24, .int .u64 x25, .int .i64 x26, .int .i64 x27, .bool x28, .bool x29] rfl
  obtain ⟨nN, yN, tN, wN⟩ := str_at Tryz.underlying27 tF 0 rfl 25 rfl cN [.int .u64 x2, .int .u64 x3, .string x4, .int .u32 x5, .string x6, .string x7, .string x8, .int .u32 x9, .int .u32 x10, .int .u32 x11, .int .u64 x12, .int .i64 x13, .int .i64 x14] rfl
  obtain ⟨nP, yP, tP, wP⟩ := str_at Tryz.underlying27 tF 1 rfl 25 rfl cN [.int .u64 x15, .int .u64 x16, .string x17, .int .u32 x18, .string x19, .string x20, .string x21, .int .u32 x22, .int .u32 x23, .int .u32 x24, .int .u64 x25, .int .i64 x26, .int .i64 x27] rfl
  have s0 : x0.size ≤ reachBytes := by
    obtain ⟨m, y, ty, wy⟩ := str_at Tryz.underlying29 hf 0 rfl 9 rfl cS [.string x0] rfl
    exact hs _ (wy _ (str_leaf Tryz.underlying9 ty))
  have s1 : x1.size ≤ reachBytes := by
    obtain ⟨m, y, ty, wy⟩ := str_at Tryz.underlying29 hf 1 rfl 9 rfl cS [.string x1] rfl
    exact hs _ (wy _ (str_leaf Tryz.underlying9 ty))
  have s30 : x30.size ≤ reachBytes := by
    obtain ⟨m, y, ty, wy⟩ := str_at Tryz.underlying29 hf 3 rfl 9 rfl cS [.string x30] rfl
    exact hs _ (wy _ (str_leaf Tryz.underlying9 ty))
  have s4 : x4.size ≤ reachBytes := by
    obtain ⟨m, y, ty, wy⟩ := str_at Tryz.underlying25 tN 2 rfl 9 rfl cS [.string x4] rfl
    exact hs _ (wF _ (wN _ (wy _ (str_leaf Tryz.underlying9 ty))))
  have s6 : x6.size ≤ reachBytes := by
    obtain ⟨m, y, ty, wy⟩ := str_at Tryz.underlying25 tN 4 rfl 9 rfl cS [.string x6] rfl
    exact hs _ (wF _ (wN _ (wy _ (str_leaf Tryz.underlying9 ty))))
  have s7 : x7.size ≤ reachBytes := by
    obtain ⟨m, y, ty, wy⟩ := str_at Tryz.underlying25 tN 5 rfl 9 rfl cS [.string x7] rfl
    exact hs _ (wF _ (wN _ (wy _ (str_leaf Tryz.underlying9 ty))))
  have s8 : x8.size ≤ reachBytes := by
    obtain ⟨m, y, ty, wy⟩ := str_at Tryz.underlying25 tN 6 rfl 9 rfl cS [.string x8] rfl
    exact hs _ (wF _ (wN _ (wy _ (str_leaf Tryz.underlying9 ty))))
  have s17 : x17.size ≤ reachBytes := by
    obtain ⟨m, y, ty, wy⟩ := str_at Tryz.underlying25 tP 2 rfl 9 rfl cS [.string x17] rfl
    exact hs _ (wF _ (wP _ (wy _ (str_leaf Tryz.underlying9 ty))))
  have s19 : x19.size ≤ reachBytes := by
    obtain ⟨m, y, ty, wy⟩ := str_at Tryz.underlying25 tP 4 rfl 9 rfl cS [.string x19] rfl
    exact hs _ (wF _ (wP _ (wy _ (str_leaf Tryz.underlying9 ty))))
  have s20 : x20.size ≤ reachBytes := by
    obtain ⟨m, y, ty, wy⟩ := str_at Tryz.underlying25 tP 5 rfl 9 rfl cS [.string x20] rfl
    exact hs _ (wF _ (wP _ (wy _ (str_leaf Tryz.underlying9 ty))))
  have s21 : x21.size ≤ reachBytes := by
    obtain ⟨m, y, ty, wy⟩ := str_at Tryz.underlying25 tP 6 rfl 9 rfl cS [.string x21] rfl
    exact hs _ (wF _ (wP _ (wy _ (str_leaf Tryz.underlying9 ty))))
  exact ⟨x0, x1, ⟨x2, x3, x4, x5, x6, x7, x8, x9, x10, x11, x12, x13, x14⟩, ⟨x15, x16, x17, x18, x19, x20, x21, x22, x23, x24, x25, x26, x27⟩, x28, x29, x30, x31, x32, rfl, s0, s1, ⟨(u32_has h5).1, (u32_has h5).2, s4, s6, s7, s8⟩, ⟨(u32_has h18).1, (u32_has h18).2, s17, s19, s20, s21⟩, s30, u32_has h31, u8_has h32, u32_has h11, u32_has h9, u32_has h10⟩

set_option maxRecDepth 100000 in
set_option maxHeartbeats 1600000 in
theorem stat_open2 {H : Type} {enc : TypeId × Value → H} {w : World} {base b0 : Nat} {spare : Nat → Bool} {held : Bool} {v : Value} {d : DataW H} {ps : List MemPlace} (hv : Value.okWide Tryz.prog w .any b0 34 v) (h : DataW.Trod enc Tryz.prog w base spare held 34 v d ps) (hs : ∀ k ∈ d.weights Tryz.prog 34, k ≤ reachBytes) :
    ∃ s : St, v = statV s ∧ s.came ∧ s.fit := by
  simp only [Value.okWide, Tryz.underlying34] at hv
  obtain ⟨cs, rfl, hsz, hrow⟩ := hv
  have hts : Tryz.prog.cellTypes Tryz.prog.depth 34 = some [30, 23, 5, 23, 22, 23, 23, 23, 22, 9, 9, 9, 9] := by kernel_rfl
  have hC : Tryz.prog.cellsOf 34 = 13 := by kernel_rfl
  rw [hC] at hsz
  have hc := fun i u (hu : _) v (hv : _) => row_cell hts hrow i (u := u) hu (v := v) hv
  clear hrow hts
  obtain ⟨l0⟩ := cs
  have e0 : l0.length = 13 := hsz
  clear hsz
  obtain ⟨c0, l1, rfl, e1⟩ := len_cons e0; clear e0
  obtain ⟨c1, l2, rfl, e2⟩ := len_cons e1; clear e1
  obtain ⟨c2, l3, rfl, e3⟩ := len_cons e2; clear e2
  obtain ⟨c3, l4, rfl, e4⟩ := len_cons e3; clear e3
  obtain ⟨c4, l5, rfl, e5⟩ := len_cons e4; clear e4
  obtain ⟨c5, l6, rfl, e6⟩ := len_cons e5; clear e5
  obtain ⟨c6, l7, rfl, e7⟩ := len_cons e6; clear e6
  obtain ⟨c7, l8, rfl, e8⟩ := len_cons e7; clear e7
  obtain ⟨c8, l9, rfl, e9⟩ := len_cons e8; clear e8
  obtain ⟨c9, l10, rfl, e10⟩ := len_cons e9; clear e9
  obtain ⟨c10, l11, rfl, e11⟩ := len_cons e10; clear e10
  obtain ⟨c11, l12, rfl, e12⟩ := len_cons e11; clear e11
  obtain ⟨c12, l13, rfl, e13⟩ := len_cons e12; clear e12
  obtain rfl := len_nil e13
  obtain ⟨x0, rfl, h0⟩ := cell_int Tryz.underlying30 (hc 0 _ rfl _ rfl)
  obtain ⟨x1, rfl, h1⟩ := cell_int Tryz.underlying23 (hc 1 _ rfl _ rfl)
  obtain ⟨x2, rfl, h2⟩ := cell_int Tryz.underlying5 (hc 2 _ rfl _ rfl)
  obtain ⟨x3, rfl, h3⟩ := cell_int Tryz.underlying23 (hc 3 _ rfl _ rfl)
  obtain ⟨x4, rfl, h4⟩ := cell_int Tryz.underlying22 (hc 4 _ rfl _ rfl)
  obtain ⟨x5, rfl, h5⟩ := cell_int Tryz.underlying23 (hc 5 _ rfl _ rfl)
  obtain ⟨x6, rfl, h6⟩ := cell_int Tryz.underlying23 (hc 6 _ rfl _ rfl)
  obtain ⟨x7, rfl, h7⟩ := cell_int Tryz.underlying23 (hc 7 _ rfl _ rfl)
  obtain ⟨x8, rfl, h8⟩ := cell_int Tryz.underlying22 (hc 8 _ rfl _ rfl)
  obtain ⟨x9, rfl⟩ := cell_str Tryz.underlying9 (hc 9 _ rfl _ rfl)
  obtain ⟨x10, rfl⟩ := cell_str Tryz.underlying9 (hc 10 _ rfl _ rfl)
  obtain ⟨x11, rfl⟩ := cell_str Tryz.underlying9 (hc 11 _ rfl _ rfl)
  obtain ⟨x12, rfl⟩ := cell_str Tryz.underlying9 (hc 12 _ rfl _ rfl)
  clear hc e13
  obtain ⟨fuel, hf⟩ := h
  have cS : Tryz.prog.cellsOf 9 = 1 := by kernel_rfl
  have s9 : x9.size ≤ reachBytes := by
    obtain ⟨m, y, ty, wy⟩ := str_at Tryz.underlying34 hf 7 rfl 9 rfl cS [.string x9] rfl
    exact hs _ (wy _ (str_leaf Tryz.underlying9 ty))
  have s10 : x10.size ≤ reachBytes := by
    obtain ⟨m, y, ty, wy⟩ := str_at Tryz.underlying34 hf 8 rfl 9 rfl cS [.string x10] rfl
    exact hs _ (wy _ (str_leaf Tryz.underlying9 ty))
  have s11 : x11.size ≤ reachBytes := by
    obtain ⟨m, y, ty, wy⟩ := str_at Tryz.underlying34 hf 9 rfl 9 rfl cS [.string x11] rfl
    exact hs _ (wy _ (str_leaf Tryz.underlying9 ty))
  have s12 : x12.size ≤ reachBytes := by
    obtain ⟨m, y, ty, wy⟩ := str_at Tryz.underlying34 hf 10 rfl 9 rfl cS [.string x12] rfl
    exact hs _ (wy _ (str_leaf Tryz.underlying9 ty))
  exact ⟨⟨x0, x1, x2, x3, x4, x5, x6, x7, x8, x9, x10, x11, x12⟩, rfl, ⟨(u32_has h5).1, (u32_has h5).2, s9, s10, s11, s12⟩, u16_has h0, u32_has h1, u8_has h2, u32_has h3, u32_has h5, u32_has h6, u32_has h7⟩
end Go.Proofs.YtlenlldiimohjaaGreatDoor
