/-
  A node, a record that came in, opened to their cells.
-/
import Derived.Test.YtlenlldiimohjaaDoorRec
namespace Go.Proofs.YtlenlldiimohjaaDoor
open Go.ChangeShapes Go.WideShapes Go.ChangeAt Go.RowKit

/-- The numbers of a record fit; its texts are not beyond the reach. -/
def St.came (s : St) : Prop := 0 ≤ s.mode ∧ s.mode < 4294967296 ∧ s.name.size ≤ reachBytes ∧ s.uid.size ≤ reachBytes ∧ s.gid.size ≤ reachBytes ∧ s.muid.size ≤ reachBytes

set_option maxRecDepth 100000 in
set_option maxHeartbeats 1600000 in
theorem node_open {H : Type} {enc : TypeId × Value → H} {w : World} {base b0 : Nat} {spare : Nat → Bool} {held : Bool} {v : Value} {d : DataW H} {ps : List MemPlace} (hv : Value.okWide Tryd.prog w .any b0 34 v) (h : DataW.Trod enc Tryd.prog w base spare held 34 v d ps) (hs : ∀ k ∈ d.weights Tryd.prog 34, k ≤ reachBytes) :
    ∃ s : Nd, v = nodeV s ∧ s.came := by
  simp only [Value.okWide, Tryd.underlying34] at hv
  obtain ⟨cs, rfl, hsz, hrow⟩ := hv
  have hts : Tryd.prog.cellTypes Tryd.prog.depth 34 = some [32, 32, 9, 23, 9, 9, 9, 23, 23, 23, 32, 3, 3] := by kernel_rfl
  have hC : Tryd.prog.cellsOf 34 = 13 := by kernel_rfl
  rw [hC] at hsz
  have hc := fun i u (hu : _) v (hv : _) => row_cell hts hrow i (u := u) hu (v := v) hv
  clear hrow hts
  obtain ⟨l0⟩ := cs
  have e0 : l0.length = 13 := hsz
  clear hsz
  obtain ⟨c0, l1, rfl, e1⟩ := len_cons e0; clear e0
  obtain ⟨c1, l2, rfl, e2⟩ := len_cons e1; clear e1
  obtain ⟨c2, l3, rfl, e3⟩ := len_cons e2; clear e2
  obtain ⟨c3, l4, rfl, e4⟩ := len_cons e3; clear e3
  obtain ⟨c4, l5, rfl, e5⟩ := len_cons e4; clear e4
  obtain ⟨c5, l6, rfl, e6⟩ := len_cons e5; clear e5
  obtain ⟨c6, l7, rfl, e7⟩ := len_cons e6; clear e6
  obtain ⟨c7, l8, rfl, e8⟩ := len_cons e7; clear e7
  obtain ⟨c8, l9, rfl, e9⟩ := len_cons e8; clear e8
  obtain ⟨c9, l10, rfl, e10⟩ := len_cons e9; clear e9
  obtain ⟨c10, l11, rfl, e11⟩ := len_cons e10; clear e10
  obtain ⟨c11, l12, rfl, e12⟩ := len_cons e11; clear e11
  obtain ⟨c12, l13, rfl, e13⟩ := len_cons e12; clear e12
  obtain rfl := len_nil e13
  obtain ⟨x0, rfl, h0⟩ := cell_int Tryd.underlying32 (hc 0 _ rfl _ rfl)
  obtain ⟨x1, rfl, h1⟩ := cell_int Tryd.underlying32 (hc 1 _ rfl _ rfl)
  obtain ⟨x2, rfl⟩ := cell_str Tryd.underlying9 (hc 2 _ rfl _ rfl)
  obtain ⟨x3, rfl, h3⟩ := cell_int Tryd.underlying23 (hc 3 _ rfl _ rfl)
  obtain ⟨x4, rfl⟩ := cell_str Tryd.underlying9 (hc 4 _ rfl _ rfl)
  obtain ⟨x5, rfl⟩ := cell_str Tryd.underlying9 (hc 5 _ rfl _ rfl)
  obtain ⟨x6, rfl⟩ := cell_str Tryd.underlying9 (hc 6 _ rfl _ rfl)
  obtain ⟨x7, rfl, h7⟩ := cell_int Tryd.underlying23 (hc 7 _ rfl _ rfl)
  obtain ⟨x8, rfl, h8⟩ := cell_int Tryd.underlying23 (hc 8 _ rfl _ rfl)
  obtain ⟨x9, rfl, h9⟩ := cell_int Tryd.underlying23 (hc 9 _ rfl _ rfl)
  obtain ⟨x10, rfl, h10⟩ := cell_int Tryd.underlying32 (hc 10 _ rfl _ rfl)
  obtain ⟨x11, rfl, h11⟩ := cell_int Tryd.underlying3 (hc 11 _ rfl _ rfl)
  obtain ⟨x12, rfl, h12⟩ := cell_int Tryd.underlying3 (hc 12 _ rfl _ rfl)
  clear hc e13
  obtain ⟨fuel, hf⟩ := h
  have cS : Tryd.prog.cellsOf 9 = 1 := by kernel_rfl
  have s2 : x2.size ≤ reachBytes := by
    obtain ⟨m, y, ty, wy⟩ := str_at Tryd.underlying34 hf 2 rfl 9 rfl cS [.string x2] rfl
    exact hs _ (wy _ (str_leaf Tryd.underlying9 ty))
  have s4 : x4.size ≤ reachBytes := by
    obtain ⟨m, y, ty, wy⟩ := str_at Tryd.underlying34 hf 4 rfl 9 rfl cS [.string x4] rfl
    exact hs _ (wy _ (str_leaf Tryd.underlying9 ty))
  have s5 : x5.size ≤ reachBytes := by
    obtain ⟨m, y, ty, wy⟩ := str_at Tryd.underlying34 hf 5 rfl 9 rfl cS [.string x5] rfl
    exact hs _ (wy _ (str_leaf Tryd.underlying9 ty))
  have s6 : x6.size ≤ reachBytes := by
    obtain ⟨m, y, ty, wy⟩ := str_at Tryd.underlying34 hf 6 rfl 9 rfl cS [.string x6] rfl
    exact hs _ (wy _ (str_leaf Tryd.underlying9 ty))
  exact ⟨⟨x0, x1, x2, x3, x4, x5, x6, x7, x8, x9, x10, x11, x12⟩, rfl, (u32_has h3).1, (u32_has h3).2, s2, s4, s5, s6⟩

set_option maxRecDepth 100000 in
set_option maxHeartbeats 1600000 in
theorem stat_open {H : Type} {enc : TypeId × Value → H} {w : World} {base b0 : Nat} {spare : Nat → Bool} {held : Bool} {v : Value} {d : DataW H} {ps : List MemPlace} (hv : Value.okWide Tryd.prog w .any b0 66 v) (h : DataW.Trod enc Tryd.prog w base spare held 66 v d ps) (hs : ∀ k ∈ d.weights Tryd.prog 66, k ≤ reachBytes) :
    ∃ s : St, v = statV s ∧ s.came := by
  simp only [Value.okWide, Tryd.underlying66] at hv
  obtain ⟨cs, rfl, hsz, hrow⟩ := hv
  have hts : Tryd.prog.cellTypes Tryd.prog.depth 66 = some [62, 23, 5, 23, 32, 23, 23, 23, 32, 9, 9, 9, 9] := by kernel_rfl
  have hC : Tryd.prog.cellsOf 66 = 13 := by kernel_rfl
  rw [hC] at hsz
  have hc := fun i u (hu : _) v (hv : _) => row_cell hts hrow i (u := u) hu (v := v) hv
  clear hrow hts
  obtain ⟨l0⟩ := cs
  have e0 : l0.length = 13 := hsz
  clear hsz
  obtain ⟨c0, l1, rfl, e1⟩ := len_cons e0; clear e0
  obtain ⟨c1, l2, rfl, e2⟩ := len_cons e1; clear e1
  obtain ⟨c2, l3, rfl, e3⟩ := len_cons e2; clear e2
  obtain ⟨c3, l4, rfl, e4⟩ := len_cons e3; clear e3
  obtain ⟨c4, l5, rfl, e5⟩ := len_cons e4; clear e4
  obtain ⟨c5, l6, rfl, e6⟩ := len_cons e5; clear e5
  obtain ⟨c6, l7, rfl, e7⟩ := len_cons e6; clear e6
  obtain ⟨c7, l8, rfl, e8⟩ := len_cons e7; clear e7
  obtain ⟨c8, l9, rfl, e9⟩ := len_cons e8; clear e8
  obtain ⟨c9, l10, rfl, e10⟩ := len_cons e9; clear e9
  obtain ⟨c10, l11, rfl, e11⟩ := len_cons e10; clear e10
  obtain ⟨c11, l12, rfl, e12⟩ := len_cons e11; clear e11
  obtain ⟨c12, l13, rfl, e13⟩ := len_cons e12; clear e12
  obtain rfl := len_nil e13
  obtain ⟨x0, rfl, h0⟩ := cell_int Tryd.underlying62 (hc 0 _ rfl _ rfl)
  obtain ⟨x1, rfl, h1⟩ := cell_int Tryd.underlying23 (hc 1 _ rfl _ rfl)
  obtain ⟨x2, rfl, h2⟩ := cell_int Tryd.underlying5 (hc 2 _ rfl _ rfl)
  obtain ⟨x3, rfl, h3⟩ := cell_int Tryd.underlying23 (hc 3 _ rfl _ rfl)
  obtain ⟨x4, rfl, h4⟩ := cell_int Tryd.underlying32 (hc 4 _ rfl _ rfl)
  obtain ⟨x5, rfl, h5⟩ := cell_int Tryd.underlying23 (hc 5 _ rfl _ rfl)
  obtain ⟨x6, rfl, h6⟩ := cell_int Tryd.underlying23 (hc 6 _ rfl _ rfl)
  obtain ⟨x7, rfl, h7⟩ := cell_int Tryd.underlying23 (hc 7 _ rfl _ rfl)
  obtain ⟨x8, rfl, h8⟩ := cell_int Tryd.underlying32 (hc 8 _ rfl _ rfl)
  obtain ⟨x9, rfl⟩ := cell_str Tryd.underlying9 (hc 9 _ rfl _ rfl)
  obtain ⟨x10, rfl⟩ := cell_str Tryd.underlying9 (hc 10 _ rfl _ rfl)
  obtain ⟨x11, rfl⟩ := cell_str Tryd.underlying9 (hc 11 _ rfl _ rfl)
  obtain ⟨x12, rfl⟩ := cell_str Tryd.underlying9 (hc 12 _ rfl _ rfl)
  clear hc e13
  obtain ⟨fuel, hf⟩ := h
  have cS : Tryd.prog.cellsOf 9 = 1 := by kernel_rfl
  have s9 : x9.size ≤ reachBytes := by
    obtain ⟨m, y, ty, wy⟩ := str_at Tryd.underlying66 hf 7 rfl 9 rfl cS [.string x9] rfl
    exact hs _ (wy _ (str_leaf Tryd.underlying9 ty))
  have s10 : x10.size ≤ reachBytes := by
    obtain ⟨m, y, ty, wy⟩ := str_at Tryd.underlying66 hf 8 rfl 9 rfl cS [.string x10] rfl
    exact hs _ (wy _ (str_leaf Tryd.underlying9 ty))
  have s11 : x11.size ≤ reachBytes := by
    obtain ⟨m, y, ty, wy⟩ := str_at Tryd.underlying66 hf 9 rfl 9 rfl cS [.string x11] rfl
    exact hs _ (wy _ (str_leaf Tryd.underlying9 ty))
  have s12 : x12.size ≤ reachBytes := by
    obtain ⟨m, y, ty, wy⟩ := str_at Tryd.underlying66 hf 10 rfl 9 rfl cS [.string x12] rfl
    exact hs _ (wy _ (str_leaf Tryd.underlying9 ty))
  exact ⟨⟨x0, x1, x2, x3, x4, x5, x6, x7, x8, x9, x10, x11, x12⟩, rfl, (u32_has h5).1, (u32_has h5).2, s9, s10, s11, s12⟩

end Go.Proofs.YtlenlldiimohjaaDoor
