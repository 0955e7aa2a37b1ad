
/-
  The world of the Auth laws: what the rows' laid variables give. (TZ: the table of math/bits; Ready: utf8's tables.)
-/
import Derived.Test.YtlenlldiimohjaaGreatDoorV2
import Derived.Test.YtlenlldiimohjaaGreatDoorANum
import Derived.Lib.LaidTab
namespace Go.Proofs.YtlenlldiimohjaaGreatDoor
open Go.ChangeShapes Go.WideShapes Go.ChangeAt Go.RowKit

abbrev laidA : List (String × DataW Unit) := [("math/bits.deBruijn32tab", Rows.laid_math_bits_deBruijn32tab), ("math/bits.deBruijn64tab", Rows.laid_math_bits_deBruijn64tab), ("internal/strconv.uint64pow10", Rows.laid_internal_strconv_uint64pow10), ("unicode/utf8.acceptRanges", Rows.laid_unicode_utf8_acceptRanges), ("strconv.ErrRange", Rows.laid_strconv_ErrRange), ("strconv.ErrSyntax", Rows.laid_strconv_ErrSyntax), ("unicode/utf8.first", Rows.laid_unicode_utf8_first)]
def tab64 : List Int := [0, 1, 56, 2, 57, 49, 28, 3, 61, 58, 42, 50, 38, 29, 17, 4, 62, 47, 59, 36, 45, 43, 51, 22, 53, 39, 33, 30, 24, 18, 12, 5, 63, 55, 48, 27, 60, 41, 37, 16, 46, 35, 44, 21, 52, 32, 23, 11, 54, 26, 40, 15, 34, 20, 31, 10, 25, 14, 19, 9, 13, 8, 7, 6]
theorem tab64_eq : (Rows.laid_math_bits_deBruijn64tab : DataW Unit) = Lib.tabData .u8 tab64 := by kernel_rfl
theorem tz_of {W : World} (h : Lib.VarReads Tryz.prog W "math/bits.deBruijn64tab" Rows.laid_math_bits_deBruijn64tab) : TZ W := by
  rw [tab64_eq] at h
  obtain ⟨g, t, cs, fuel, p, h1, h2, h3, h4⟩ := h
  obtain rfl : 7 = g := Option.some.inj ((show Tryz.prog.globalNamed "math/bits.deBruijn64tab" = some 7 from by kernel_rfl).symm.trans h1)
  obtain rfl : 255 = t := Option.some.inj ((show (Tryz.prog.globals[7]?).map (·.type) = some 255 from by kernel_rfl).symm.trans h2)
  have hc := Lib.cells_of_tab (P := Tryz.prog) (n := 64) (e := 5) Tryz.underlying255 Tryz.underlying5 (by kernel_rfl) (by kernel_rfl) h4
  have ht : Lib.TabIs Tryz.prog W "math/bits.deBruijn64tab" .u8 tab64 := by
    unfold Lib.TabIs
    rw [h3, ← hc]
  exact ht.cell h1 15 (by decide)
theorem sv_of {W : World} (h : Lib.VarReads Tryz.prog W "strconv.ErrSyntax" Rows.laid_strconv_ErrSyntax) : SV W := by
  obtain ⟨g, t, cs, fuel, p, h1, h2, h3, h4⟩ := h
  obtain rfl : 0 = g := Option.some.inj ((show Tryz.prog.globalNamed "strconv.ErrSyntax" = some 0 from by kernel_rfl).symm.trans h1)
  obtain rfl : 175 = t := Option.some.inj ((show (Tryz.prog.globals[0]?).map (·.type) = some 175 from by kernel_rfl).symm.trans h2)
  obtain ⟨fuel', u, v, hcs, -, -⟩ := iface_of_trod (H := Unit) Tryz.underlying175 h4
  have hc := World.var?_cell h1 h3 0
  refine ⟨.iface u v, ?_, .inr ⟨u, v, rfl⟩⟩
  rw [hc]
  have : cs = #[.iface u v] := by
    rw [← Array.toList_inj, hcs]
  rw [this]
  rfl
theorem ready_ofA {W : World} (hL : laidMetH Tryz.prog laidA W) (hS : W.ShapedOpen Tryz.prog) : Ready W ∧ TZ W ∧ SV W := by
  rw [MakeChecks.laidMetH_plain _ _ _ (by kernel_rfl)] at hL
  have h1 := Lib.laidMet.reads hL (.tail _ (.tail _ (.tail _ (.head _))))
  have h2 := Lib.laidMet.reads hL (.tail _ (.tail _ (.tail _ (.tail _ (.tail _ (.tail _ (.head _)))))))
  have h3 := Lib.laidMet.reads hL (.tail _ (.head _))
  have h4 := Lib.laidMet.reads hL (.tail _ (.tail _ (.tail _ (.tail _ (.tail _ (.head _))))))
  rw [accept_eq] at h1
  rw [first_eq] at h2
  exact ⟨⟨utf8Tabs_of_reads Tryz.lays260 ⟨by kernel_rfl, by kernel_rfl, by kernel_rfl, by kernel_rfl, by kernel_rfl, by kernel_rfl, by kernel_rfl⟩ h2 h1,
    cell_of_shapedOpen_int (t := 3) (zero := #[.int .i64 0]) hS (of_decide_eq_true (by kernel_rfl)) (by kernel_rfl) rfl (by kernel_rfl) (by kernel_rfl) Tryz.underlying3⟩, tz_of h3, sv_of h4⟩
end Go.Proofs.YtlenlldiimohjaaGreatDoor
