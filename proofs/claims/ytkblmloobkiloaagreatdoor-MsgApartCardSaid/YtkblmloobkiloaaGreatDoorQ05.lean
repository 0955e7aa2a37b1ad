/-
  MV MT1 MT2 M2: what the laws of package msg need of them.
-/
import Derived.Test.YtkblmloobkiloaaGreatDoorQ04
import Derived.Test.YtkblmloobkiloaaGreatDoorQ02
import Derived.Test.YtkblmloobkiloaaGreatDoorQ01
import Derived.Lib.LaidTab
import Derived.Lib.ItoaMem
import Derived.Shelf.Strings.BuilderK
import Derived.Lib.RuneBytes
import Derived.Test.YtkblmloobkiloaaGreatDoorQ03
namespace Go.Proofs.YtkblmloobkiloaaGreatDoor
open Go.RowKit

theorem Ready.low {w w' : World} {B : Nat} (h : Ready w) (hb : Below B w w') (hB : 8 ≤ B) : Ready w' := by
  obtain ⟨⟨h1, h2⟩, m, h3⟩ := h
  exact ⟨⟨fun c hc => (hb.cell (p := ⟨3, c, none⟩) (Nat.lt_of_lt_of_le (show 3 < 8 by decide) hB)).trans (h1 c hc), fun i hi => ⟨(hb.cell (p := ⟨4, 2 * i, none⟩) (Nat.lt_of_lt_of_le (show 4 < 8 by decide) hB)).trans (h2 i hi).1, (hb.cell (p := ⟨4, 2 * i + 1, none⟩) (Nat.lt_of_lt_of_le (show 4 < 8 by decide) hB)).trans (h2 i hi).2⟩⟩,
    m, (hb.cell (p := ⟨7, 0, none⟩) (Nat.lt_of_lt_of_le (show 7 < 8 by decide) hB)).trans h3⟩
theorem Ready.eight {w : World} (h : Ready w) : 8 ≤ w.heap.size := by
  obtain ⟨-, m, h3⟩ := h
  exact World.block_lt_of_cell? w _ h3
theorem wput_wput (lim : Nat) (st : Option (List UInt8)) (a b : List UInt8) : wput lim (wput lim st a) b = wput lim st (a ++ b) := by
  cases st with
  | none => rfl
  | some l =>
    by_cases h : l.length + a.length ≤ lim
    · rw [wput_len h]
      by_cases h2 : l.length + (a ++ b).length ≤ lim
      · rw [wput_len h2, wput_len (by rw [List.length_append] at h2 ⊢; omega), List.append_assoc]
      · rw [wput_none (st := some l) (x := a ++ b) (fun l' hl => by injection hl with hl; subst hl; omega)]
        exact wput_none (fun l' hl => by injection hl with hl; subst hl; rw [List.length_append] at h2 ⊢; omega)
    · rw [wput_none (st := some l) (x := a) (fun l' hl => by injection hl with hl; subst hl; omega)]
      rw [wput_none (st := some l) (x := a ++ b) (fun l' hl => by injection hl with hl; subst hl; rw [List.length_append]; omega)]
      rfl
/-- A text that is good, in a Writer of at most 65536 bytes: it is put with its count (a longer one has no room anyway). -/
theorem wtext_good {lim : Nat} {st : Option (List UInt8)} {s : ByteArray} (hg : good s = true) (hl : lim ≤ 65536) : wtext lim st s = wput lim st (strB s) := by
  unfold wtext
  by_cases h : s.size ≤ 65535
  · rw [if_pos]; rw [hg, decide_eq_true h]; rfl
  · rw [if_neg (by rw [decide_eq_false h]; simp), wput_none]
    intro l _
    rw [strB_len]
    omega
abbrev qdV (q : Qd) : Value := .agg #[.int .u8 (q.kind : Int), .int .u32 (q.vers : Int), .int .u64 (q.path : Int)]
abbrev stL (s : Sta) : List Value := [.int .u16 (s.type : Int), .int .u32 (s.dev : Int), .int .u8 (s.qid.kind : Int), .int .u32 (s.qid.vers : Int), .int .u64 (s.qid.path : Int), .int .u32 (s.mode : Int), .int .u32 (s.atime : Int), .int .u32 (s.mtime : Int), .int .u64 (s.length : Int), .string s.name, .string s.uid, .string s.gid, .string s.muid]
abbrev stV (s : Sta) : Value := .agg #[.int .u16 (s.type : Int), .int .u32 (s.dev : Int), .int .u8 (s.qid.kind : Int), .int .u32 (s.qid.vers : Int), .int .u64 (s.qid.path : Int), .int .u32 (s.mode : Int), .int .u32 (s.atime : Int), .int .u32 (s.mtime : Int), .int .u64 (s.length : Int), .string s.name, .string s.uid, .string s.gid, .string s.muid]
set_option maxRecDepth 100000 in
set_option maxHeartbeats 1600000 in
theorem putQid_calls {w : World} {base p lim : Nat} {st : Option (List UInt8)} {op : List Nat} (q : Qd) (hq : q.ok) (h : WrS w base p lim st op) :
    Calls Tryz.prog 171 #[.pointer (some ⟨p, 0, none⟩), qdV q] w fun e w' => e = .returned (.tuple #[]) ∧ WrS w' base p lim (wput lim st (qidB q)) op ∧ Wk base w w' := by
  obtain ⟨q1, q2, q3⟩ := hq
  have hsz := h.le
  have HS := Lib.hid (h.below ((Below.refl _ _).alloc (Nat.le_refl _) (.cells #[.int .u8 (q.kind : Int), .int .u32 (q.vers : Int), .int .u64 (q.path : Int)] 37)))
  have HB := Lib.hid ((Wk.refl base w).alloc hsz (.cells #[.int .u8 (q.kind : Int), .int .u32 (q.vers : Int), .int .u64 (q.path : Int)] 37))
  have HN := Lib.hid (Blk.new w 37 #[.int .u8 (q.kind : Int), .int .u32 (q.vers : Int), .int .u64 (q.path : Int)])
  clear h
  unfold qdV
  go_enter Tryz.func171, Tryz.ntmps171
  go_upto_region 2 with (fail)
  generalize w.alloc (.cells #[.int .u8 (q.kind : Int), .int .u32 (q.vers : Int), .int .u64 (q.path : Int)] 37) = w1 at HS HB HN ⊢
  have k0 : w1.cell? ⟨w.heap.size, 0, none⟩ = _ := HN.out.cell 0
  go_wp2_with fail
  refine (wrU8_calls q.kind (by omega) HS.out).mono ?_
  rintro e w2 ⟨rfl, hs, hb⟩
  have HS2 := Lib.hid hs
  have HN2 := Lib.hid (hb.blk HN.out (by decide) (by decide) (by decide))
  have HB2 := Lib.hid (HB.out.trans hb); clear hs hb k0 HS HN HB
  have k1 : w2.cell? ⟨w.heap.size, 1, none⟩ = _ := HN2.out.cell 1
  go_wp2_with fail
  refine (wrU32_calls q.vers (by omega) HS2.out).mono ?_
  rintro e w3 ⟨rfl, hs, hb⟩
  have HS3 := Lib.hid hs
  have HN3 := Lib.hid (hb.blk HN2.out (by decide) (by decide) (by decide))
  have HB3 := Lib.hid (HB2.out.trans hb); clear hs hb k1 HS2 HN2 HB2
  have k2 : w3.cell? ⟨w.heap.size, 2, none⟩ = _ := HN3.out.cell 2
  go_wp2_with fail
  refine (wrU64_calls q.path (by omega) HS3.out).mono ?_
  rintro e w4 ⟨rfl, hs, hb⟩
  have HS4 := Lib.hid hs
  have HB4 := Lib.hid (HB3.out.trans hb); clear hs hb k2 HS3 HN3 HB3
  go_wp2_with fail
  go_end0
  refine ⟨rfl, ?_, HB4.out⟩
  have := HS4.out
  rw [wput_wput, wput_wput] at this
  exact this
end Go.Proofs.YtkblmloobkiloaaGreatDoor
namespace Go.Proofs.YtkblmloobkiloaaGreatDoor
open Go.RowKit Go.Sort

def TP (w : World) : Prop := Lib.TabIs Tryz.prog w "internal/strconv.uint64pow10" .u64 Lib.pow10Tab
theorem pow10_named : Tryz.prog.globalNamed "internal/strconv.uint64pow10" = some 0 := by kernel_rfl
theorem TP.low {w w' : World} {B : Nat} (h : TP w) (hb : Below B w w') (hB : 8 ≤ B) : TP w' := by
  unfold TP Lib.TabIs World.var? at h ⊢
  rw [pow10_named] at h ⊢
  simp only [Option.bind_some] at h ⊢
  rw [hb.block _ (Nat.lt_of_lt_of_le (show 0 < 8 by decide) hB)]
  exact h
theorem below_grow (w : World) (k : Nat) (os : Array Obj) : Below w.heap.size w (grow (w.drewN k) os) := by
  refine ⟨rfl, rfl, rfl, ?_, fun i hi => ?_⟩
  · show w.heap.size ≤ (w.heap ++ os).size
    rw [Array.size_append]
    omega
  · show (w.heap ++ os)[i]? = w.heap[i]?
    rw [Array.getElem?_append_left hi]
theorem fin_at0 (w : World) (o : Obj) (dk : Array UInt8) (k : Nat) : Below w.heap.size w ((putRow (fun (b : UInt8) => Value.int .u8 (b.toNat : Int)) (w.alloc o) w.heap.size 0 dk).drewN k) := by
  rw [alloc_eq_grow]
  obtain ⟨os', _, e⟩ := putRow_grow_new (fun (b : UInt8) => Value.int .u8 (b.toNat : Int)) w #[o] w.heap.size 0 dk (Nat.le_refl _)
  rw [e]
  exact below_grow w k os'
theorem holds_zero0 (w : World) (T : TypeId) (nd : Nat) (hs : nd ≤ 24) : Holds (fun (b : UInt8) => Value.int .u8 (b.toNat : Int)) (w.alloc (.cells Lib.zeros24 T)) w.heap.size 0 (Array.replicate nd (0 : UInt8)) := fun j hj => by
  have hj' : j < nd := by simpa using hj
  refine ⟨?_, World.frozen?_alloc_new _ _ _ _⟩
  rw [World.cell?_alloc_new, Lib.zeros24_at _ (by omega), getElem!_pos _ j hj]
  simp
set_option maxRecDepth 100000 in
set_option maxHeartbeats 1600000 in
theorem iFormatUint_calls (u : Nat) (hu64 : u < 18446744073709551616) (w : World) (htab : TP w) :
    Calls Tryz.prog 190 #[.int .u64 (u : Int), .int .i64 10] w fun e w' => e = .returned (.string (ofL (Lib.decDigits u))) ∧ Below w.heap.size w w' := by
  by_cases hs : u < 100
  · have HC := Lib.hid (Tryz.internal_strconv_small u hs w)
    have hw : wrap64 (u : Int) = (u : Int) := IntWalk.wrap64_in _ (by omega)
    clear htab hu64
    go_enter Tryz.func190, Tryz.ntmps190
    go_wp2_with fail
    refine HC.out.mono ?_
    rintro e w' ⟨rfl, rfl⟩
    go_wp2_with fail
    go_ret
    exact ⟨rfl, Below.refl _ _⟩
  · have hu1 : 1 ≤ u := by omega
    have hnd20 : Lib.nDigits u ≤ 20 := by have := Lib.numDigits_eq u hu1 hu64; split at this <;> omega
    have hb3 : Lib.nDigits u ≤ 24 := by omega
    have hal : Tryz.prog.arrayLen 221 = 24 := by kernel_rfl
    have hsl1 : ∀ W, (Instr.sliceAt 221 (.pointer (some ⟨w.heap.size, 0, none⟩)) none (some (.int .i64 (Lib.nDigits u : Int))) none).run Tryz.prog W = .ok (.slice (some ⟨w.heap.size, 0, none⟩) (Lib.nDigits u) 24) W := fun W => by
      rw [run_sliceAt_array_h W 221 ⟨w.heap.size, 0, none⟩ (by kernel_rfl) .i64 (Lib.nDigits u : Int) (by omega) (by rw [hal]; omega)]
      go_simp
    have hH0 := holds_zero0 w 221 (Lib.nDigits u) hb3
    have hfmt := Tryz.internal_strconv_formatBase10 w.heap.size 0 24 u (Array.replicate (Lib.nDigits u) 0) (w.alloc (.cells Lib.zeros24 221)) hH0 (by rw [Array.size_replicate]; exact Lib.lt_pow_nDigits u) hu64 (by rw [Array.size_replicate]; omega)
    rw [Array.size_replicate] at hfmt
    have HH0 := Lib.hid hH0
    have HF := Lib.hid hfmt
    have HND := Lib.hid (Tryz.internal_strconv_numDigits u hu1 hu64 (w.alloc (.cells Lib.zeros24 221)) (Lib.tabIs_alloc htab _))
    clear hH0 hal hfmt htab
    go_enter Tryz.func190, Tryz.ntmps190
    go_wp2_with fail
    refine HND.out.mono ?_
    rintro e w' ⟨rfl, rfl⟩
    go_wp2_with fail
    refine HF.out.mono ?_
    rintro e w' ⟨rfl, k, v', dk, rfl, hF⟩
    have hcv : (convert 22 9 (.slice (some ⟨w.heap.size, 0, none⟩) (Lib.nDigits u) 24)).run Tryz.prog ((putRow (fun (b : UInt8) => Value.int .u8 (b.toNat : Int)) (w.alloc (.cells Lib.zeros24 221)) w.heap.size 0 dk).drewN k) = .ok (.string ⟨(Lib.decDigits u).toArray⟩) ((putRow (fun (b : UInt8) => Value.int .u8 (b.toNat : Int)) (w.alloc (.cells Lib.zeros24 221)) w.heap.size 0 dk).drewN k) := by
      have h := run_convert_bytes_back (P := Tryz.prog) ((putRow (fun (b : UInt8) => Value.int .u8 (b.toNat : Int)) (w.alloc (.cells Lib.zeros24 221)) w.heap.size 0 dk).drewN k) 22 9 5 ⟨w.heap.size, 0, none⟩ 24 (Lib.decDigits u) Tryz.underlying22 Tryz.underlying5 Tryz.underlying9 (fun j hj => by
        rw [Lib.row_is_numeral hF j hj, Lib.add_plain, World.cell?_drewN]
        exact cell?_putRow (fun (b : UInt8) => Value.int .u8 (b.toNat : Int)) _ w.heap.size 0 _ dk HH0.out (by rw [hF.size, Array.size_replicate]) j (by rw [hF.size]; rw [Lib.decDigits_length] at hj; exact hj))
      rw [Lib.decDigits_length] at h
      exact h
    have HB := Lib.hid (fin_at0 w (.cells Lib.zeros24 221) dk k)
    clear hF
    go_wp2_with fail
    go_ret
    exact ⟨rfl, HB.out⟩
theorem formatUint_calls (u : Nat) (hu64 : u < 18446744073709551616) (w : World) (htab : TP w) :
    Calls Tryz.prog 115 #[.int .u64 (u : Int), .int .i64 10] w fun e w' => e = .returned (.string (ofL (Lib.decDigits u))) ∧ Below w.heap.size w w' := by
  have HC := Lib.hid (iFormatUint_calls u hu64 w htab)
  clear htab hu64
  go_enter Tryz.func115, Tryz.ntmps115
  go_wp2_with fail
  refine HC.out.mono ?_
  rintro e w' ⟨rfl, hb⟩
  have HB := Lib.hid hb
  clear hb
  go_wp2_with fail
  go_ret
  exact ⟨rfl, HB.out⟩
theorem digits_calls (u : Nat) (hu64 : u < 18446744073709551616) (w : World) (htab : TP w) :
    Calls Tryz.prog 59 #[.int .u64 (u : Int)] w fun e w' => e = .returned (.string (ofL (Lib.decDigits u))) ∧ Below w.heap.size w w' := by
  have HC := Lib.hid (formatUint_calls u hu64 w htab)
  clear htab hu64
  go_enter Tryz.func59, Tryz.ntmps59
  go_wp2_with fail
  refine HC.out.mono ?_
  rintro e w' ⟨rfl, hb⟩
  have HB := Lib.hid hb
  clear hb
  go_wp2_with fail
  go_ret
  exact ⟨rfl, HB.out⟩
end Go.Proofs.YtkblmloobkiloaaGreatDoor
namespace Go.Proofs.YtkblmloobkiloaaGreatDoor
open Go.RowKit

abbrev sbT : TypeId := 197
/-- A Builder at b that holds the bytes l. -/
abbrev SB (w : World) (B b : Nat) (l : List Value) : Prop := Lib.IsBuilderF 197 5 B b l w
theorem sb_info : (Tryz.prog.info? 197).map (·.size) = some 2 := by kernel_rfl
theorem sb_lies : liesAt Tryz.prog Tryz.prog.depth 197 (2 / Tryz.prog.cellsOf 197) 0 197 1 = true := by kernel_rfl
set_option maxRecDepth 100000 in
theorem sbUsed_calls (b : Nat) (w : World) (h0 : w.cell? ⟨b, 0, none⟩ = some (.pointer (some ⟨b, 0, none⟩))) :
    Calls Tryz.prog 252 #[.pointer (some ⟨b, 0, none⟩)] w fun e w' => e = .returned (.tuple #[]) ∧ w' = w := by
  obtain ⟨j, hj, _⟩ := Option.map_eq_some_iff.1 sb_info
  go_enter Tryz.func252, Tryz.ntmps252
  go_wp2
  rw [Lib.run_neq_ptr_same w _ Tryz.underlying195 hj]
  go_wp2
  go_end0
  exact ⟨rfl, rfl⟩
set_option maxRecDepth 100000 in
theorem sbFresh_calls (b : Nat) (w : World) (h0 : w.cell? ⟨b, 0, none⟩ = some (.pointer none)) (hsh : w.shape? b = some (197, 2)) (hfz : w.frozen? ⟨b, 0, none⟩ = false) :
    Calls Tryz.prog 252 #[.pointer (some ⟨b, 0, none⟩)] w fun e w' => e = .returned (.tuple #[]) ∧ w' = w.setCell ⟨b, 0, none⟩ (.pointer (some ⟨b, 0, none⟩)) := by
  obtain ⟨j, hj, hjs⟩ := Option.map_eq_some_iff.1 sb_info
  go_enter Tryz.func252, Tryz.ntmps252
  go_wp2
  rw [Lib.run_to_unsafe w ⟨b, 0, none⟩ Tryz.underlying195 Tryz.underlying247 hj (by rw [hjs]; decide) hsh (Nat.zero_lt_succ 1)]
  simp only [Result.andThen]
  rw [Oper.upon_value]
  go_wp2
  rw [run_callFunc_extern Tryz.func276 (by kernel_rfl) (by kernel_rfl) (by kernel_rfl) (e := Extern.AbiNoEscape.same) (by kernel_rfl)]
  rw [Lib.run_noEscape]
  simp only [Result.andThen]
  rw [Oper.upon_value]
  go_wp2
  rw [Lib.run_from_unsafe w ⟨b, 0, none⟩ Tryz.underlying247 Tryz.underlying195 hj hsh sb_lies]
  simp only [Result.andThen]
  rw [Oper.upon_value]
  go_wp2
  go_end0
  exact ⟨rfl, rfl⟩
theorem sbCheck_calls (B b : Nat) (bs : List Value) (w : World) (h : SB w B b bs) :
    Calls Tryz.prog 252 #[.pointer (some ⟨b, 0, none⟩)] w fun e w' => e = .returned (.tuple #[]) ∧ (Lib.BuilderAtF 197 5 B b (.pointer (some ⟨b, 0, none⟩)) bs w' ∧ Below B w w' ∧ Lib.OthersKept 5 (some b) w w') := by
  rcases h with h | h
  · refine (sbFresh_calls b w h.cell0 h.shape h.frozen0).mono ?_
    rintro e w' ⟨rfl, rfl⟩
    exact ⟨rfl, h.used _, (Below.refl B w).setCell (p := ⟨b, 0, none⟩) h.1 _, (Lib.OthersKept.refl _ _ w).setCell ⟨b, 0, none⟩ rfl _⟩
  · refine (sbUsed_calls b w h.cell0).mono ?_
    rintro e w' ⟨rfl, rfl⟩
    exact ⟨rfl, h, Below.refl B _, Lib.OthersKept.refl _ _ _⟩
set_option maxHeartbeats 2000000 in
set_option maxRecDepth 100000 in
theorem sbByte_calls (B b : Nat) (bs : List Value) (c : Int) (w : World) (h : SB w B b bs) (hlen : bs.length + 1 ≤ 140737488355328) (hBw : B ≤ w.heap.size) :
    Calls Tryz.prog 198 #[.pointer (some ⟨b, 0, none⟩), .int .u8 c] w fun e w' => e = .returned .nilIface ∧ SB w' B b (bs ++ [.int .u8 c]) ∧ Below B w w' ∧ Lib.OthersKept 5 (some b) w w' := by
  obtain ⟨i0, hi, hz0, hz1, hz2⟩ := info_parts u8_info
  go_enter Tryz.func198, Tryz.ntmps198
  go_wp2_with (go_at_call 252; refine (sbCheck_calls B b bs _ h).mono ?_)
  rintro e w1 ⟨rfl, h1, hb1, hk1⟩
  obtain ⟨hB, v, hbk, hown, hne⟩ := h1
  have c0 : w1.cell? ⟨b, 0, none⟩ = some (.pointer (some ⟨b, 0, none⟩)) := by rw [Lib.cell_of_heap hbk]; rfl
  have c1 : w1.cell? ⟨b, 1, none⟩ = some v := by rw [Lib.cell_of_heap hbk]; rfl
  go_wp2_with (at_builtin; refine wpList_append_ownF _ rfl _ _ 22 rfl B 5 i0 (.int .u8 0) 1 1 Tryz.underlying22 hi hz0 hz1 hz2 rfl (by decide) _ _ _ rfl (hown.alloc _) ⟨w1.heap.size, 0, none⟩ 1 1 [.int .u8 c] rfl rfl ?c1 ?c2 ?c3 ?c4 ?c5 ?_)
  case c1 =>
    intro j u hj
    match j, hj with
    | 0, hj => simp at hj; subst hj; simp [Addr.add]
  case c2 => intro u hu; simp at hu; subst hu; rfl
  case c3 => unfold maxLen; omega
  case c4 => omega
  case c5 => have := hb1.size; simp; omega
  intro v' w2 hown' hgrow _
  have hlt : b < w1.heap.size := heap_lt hbk
  have hb2 : w2.heap[b]? = some (.cells #[.pointer (some ⟨b, 0, none⟩), v] 197 (0, 0)) := by
    rw [hgrow.block b (by simp; omega) (fun e => hne e.symm), Lib.alloc_old w1 _ b hlt]
    exact hbk
  have d0 : w2.cell? ⟨b, 0, none⟩ = some (.pointer (some ⟨b, 0, none⟩)) := by rw [Lib.cell_of_heap hb2]; rfl
  have d1 : w2.cell? ⟨b, 1, none⟩ = some v := by rw [Lib.cell_of_heap hb2]; rfl
  have f1 : w2.frozen? ⟨b, 1, none⟩ = false := Lib.frozen_of_heap hb2 1
  obtain ⟨g, cap, rfl⟩ : ∃ g cap, v' = .slice (some ⟨g, 0, none⟩) (bs.length + 1) cap := by
    rcases hown'.2 with ⟨_, h0⟩ | ⟨g, cap, cur, fz, hv, _⟩
    · omega
    · exact ⟨g, cap, hv⟩
  go_wp2
  go_ret
  refine ⟨rfl, ?_, ?_, ((hk1.alloc _).grown hgrow (Lib.ownsRowF_kind (hown.alloc _))).setCell ⟨b, 1, none⟩ rfl _⟩
  · exact .inr (Lib.BuilderAtF.put (T := 197) (e := 5) hB hb2 (bs' := bs ++ [.int .u8 c]) (by simpa using hown') (by decide))
  · exact ((hb1.alloc (by have := hb1.size; omega) _).grown hgrow (by have := hb1.size; simp; omega) (fun k hk => (hown.lt k hk).1)).setCell (p := ⟨b, 1, none⟩) hB _
set_option maxHeartbeats 2000000 in
set_option maxRecDepth 100000 in
theorem sbString_calls (B b : Nat) (bs : List Value) (s : ByteArray) (w : World) (h : SB w B b bs) (hlen : bs.length + s.size ≤ 140737488355328) (hBw : B ≤ w.heap.size) :
    Calls Tryz.prog 200 #[.pointer (some ⟨b, 0, none⟩), .string s] w fun e w' => e = .returned (.tuple #[.int .i64 s.size, .nilIface]) ∧ SB w' B b (bs ++ Lib.strCells s) ∧ Below B w w' ∧ Lib.OthersKept 5 (some b) w w' := by
  obtain ⟨i0, hi, hz0, hz1, hz2⟩ := info_parts u8_info
  go_enter Tryz.func200, Tryz.ntmps200
  go_wp2_with (go_at_call 252; refine (sbCheck_calls B b bs _ h).mono ?_)
  rintro e w1 ⟨rfl, h1, hb1, hk1⟩
  obtain ⟨hB, v, hbk, hown, hne⟩ := h1
  have c0 : w1.cell? ⟨b, 0, none⟩ = some (.pointer (some ⟨b, 0, none⟩)) := by rw [Lib.cell_of_heap hbk]; rfl
  have c1 : w1.cell? ⟨b, 1, none⟩ = some v := by rw [Lib.cell_of_heap hbk]; rfl
  go_wp2_with (at_builtin; refine Lib.wpList_append_own_stringF _ rfl _ _ 22 9 rfl B 5 i0 Tryz.underlying22 Tryz.underlying9 hi hz0 hz1 hz2 _ _ _ rfl hown s rfl ?c3 ?c4 ?c5 ?_)
  case c3 => unfold maxLen; omega
  case c4 => omega
  case c5 => have := hb1.size; omega
  intro v' w2 hown' hgrow _
  have hlt : b < w1.heap.size := heap_lt hbk
  have hb2 : w2.heap[b]? = some (.cells #[.pointer (some ⟨b, 0, none⟩), v] 197 (0, 0)) := by
    rw [hgrow.block b hlt (fun e => hne e.symm)]
    exact hbk
  have d0 : w2.cell? ⟨b, 0, none⟩ = some (.pointer (some ⟨b, 0, none⟩)) := by rw [Lib.cell_of_heap hb2]; rfl
  have d1 : w2.cell? ⟨b, 1, none⟩ = some v := by rw [Lib.cell_of_heap hb2]; rfl
  have f1 : w2.frozen? ⟨b, 1, none⟩ = false := Lib.frozen_of_heap hb2 1
  obtain ⟨ao, n', cap, rfl⟩ : ∃ ao n' cap, v' = .slice ao n' cap := by
    rcases hown'.2 with ⟨hv, _⟩ | ⟨g, cap, cur, fz, hv, _⟩
    · exact ⟨_, _, _, hv⟩
    · exact ⟨_, _, _, hv⟩
  go_wp2
  go_ret2
  refine ⟨rfl, ?_, ?_, (hk1.grown hgrow (Lib.ownsRowF_kind hown)).setCell ⟨b, 1, none⟩ rfl _⟩
  · exact .inr (Lib.BuilderAtF.put (T := 197) (e := 5) hB hb2 (bs' := bs ++ Lib.strCells s) (by simpa [Lib.strCells_length] using hown') (by decide))
  · exact (hb1.grown hgrow (by have := hb1.size; omega) (fun k hk => (hown.lt k hk).1)).setCell (p := ⟨b, 1, none⟩) hB _
set_option maxHeartbeats 4000000 in
set_option maxRecDepth 100000 in
theorem sbRune_calls (B b : Nat) (bs : List Value) (r : Int) (hr0 : -2147483648 ≤ r) (hr1 : r ≤ 2147483647) (w : World) (h : SB w B b bs) (hlen : bs.length + 4 ≤ 140737488355328) (hBw : B ≤ w.heap.size) :
    Calls Tryz.prog 199 #[.pointer (some ⟨b, 0, none⟩), .int .i32 r] w fun e w' => (∃ u v, e = .returned (.tuple #[u, v])) ∧ SB w' B b (bs ++ Lib.runeCells r) ∧ Below B w w' ∧ Lib.OthersKept 5 (some b) w w' := by
  have hk4 := Lib.runeCells_le r
  go_enter Tryz.func199, Tryz.ntmps199
  go_wp2_with (go_at_call 252; refine (sbCheck_calls B b bs _ h).mono ?_)
  rintro e w1 ⟨rfl, h1, hb1, hk1⟩
  obtain ⟨hB, v, hbk, hown, hne⟩ := h1
  obtain ⟨ao, cap, rfl⟩ : ∃ ao cap, v = .slice ao bs.length cap := by
    rcases hown.2 with ⟨hv, h0⟩ | ⟨g, cap, cur, fz, hv, _⟩
    · exact ⟨none, 0, by rw [hv, h0]⟩
    · exact ⟨_, _, hv⟩
  have c0 : w1.cell? ⟨b, 0, none⟩ = some (.pointer (some ⟨b, 0, none⟩)) := by rw [Lib.cell_of_heap hbk]; rfl
  have c1 : w1.cell? ⟨b, 1, none⟩ = some (.slice ao bs.length cap) := by rw [Lib.cell_of_heap hbk]; rfl
  go_wp2_with (go_at_call 253; refine (Tryz.utf8_AppendRune_row B _ bs.length bs r hr0 hr1 _ hown hlen (by have := hb1.size; omega)).mono ?_)
  rintro e w2 ⟨v', rfl, hown', o, hgrow⟩
  have hlt : b < w1.heap.size := heap_lt hbk
  have hb2 : w2.heap[b]? = some (.cells #[.pointer (some ⟨b, 0, none⟩), .slice ao bs.length cap] 197 (0, 0)) := by
    rw [hgrow.block b (by simp; omega) (fun e => hne e.symm), Lib.alloc_old w1 _ b hlt]
    exact hbk
  have d0 : w2.cell? ⟨b, 0, none⟩ = some (.pointer (some ⟨b, 0, none⟩)) := by rw [Lib.cell_of_heap hb2]; rfl
  have d1 : w2.cell? ⟨b, 1, none⟩ = some (.slice ao bs.length cap) := by rw [Lib.cell_of_heap hb2]; rfl
  have f1 : w2.frozen? ⟨b, 1, none⟩ = false := Lib.frozen_of_heap hb2 1
  obtain ⟨g, cap', rfl⟩ : ∃ g cap', v' = .slice (some ⟨g, 0, none⟩) (bs.length + (Lib.runeCells r).length) cap' := by
    rcases hown'.2 with ⟨_, h0⟩ | ⟨g, cap', cur, fz, hv, _⟩
    · omega
    · exact ⟨g, cap', hv⟩
  go_wp2
  go_ret2
  refine ⟨⟨_, _, rfl⟩, ?_, ?_, ((hk1.alloc _).grown hgrow (Lib.ownsRowF_kind (hown.alloc _))).setCell ⟨b, 1, none⟩ rfl _⟩
  · exact .inr (Lib.BuilderAtF.put (T := 197) (e := 5) hB hb2 (bs' := bs ++ Lib.runeCells r) (by simpa using hown') (by decide))
  · exact ((hb1.alloc (by have := hb1.size; omega) _).grown hgrow (by have := hb1.size; simp; omega) (fun k hk => (hown.lt k hk).1)).setCell (p := ⟨b, 1, none⟩) hB _
end Go.Proofs.YtkblmloobkiloaaGreatDoor
namespace Go.Proofs.YtkblmloobkiloaaGreatDoor
open Go.Lib (decDigits)

theorem bytes_len (m : Mg) (f : Fld) : (m.bytes f).length = m.long f := by
  cases f
  case msize => exact le_len _ _
  case version => exact strB_len _
  case afid => exact le_len _ _
  case uname => exact strB_len _
  case aname => exact strB_len _
  case ename => exact strB_len _
  case oldtag => exact le_len _ _
  case fid => exact le_len _ _
  case newfid => exact le_len _ _
  case names =>
    show (le 2 m.names.length ++ m.names.flatMap strB).length = 2 + (m.names.map fun s => 2 + s.size).sum
    rw [List.length_append, le_len, List.length_flatMap]
    congr 2
    exact List.map_congr_left fun s _ => strB_len s
  case qids =>
    show (le 2 m.qids.length ++ m.qids.flatMap qidB).length = 2 + 13 * m.qids.length
    rw [List.length_append, le_len, List.length_flatMap]
    congr 1
    induction m.qids with
    | nil => rfl
    | cons q l ih => rw [List.map_cons, List.sum_cons, ih, qidB_len, List.length_cons]; omega
  case qid => exact qidB_len _
  case mode => exact le_len _ _
  case iounit => exact le_len _ _
  case name => exact strB_len _
  case perm => exact le_len _ _
  case offset => exact le_len _ _
  case count => exact le_len _ _
  case data => show (le 4 _ ++ _).length = _; rw [List.length_append, le_len]; rfl
  case stat => show (le 2 _ ++ _).length = _; rw [List.length_append, le_len, statB_len]; rfl
theorem le_sum {α : Type} {f : α → Nat} {x : α} {l : List α} (h : x ∈ l) : f x ≤ (l.map f).sum := by
  induction l with
  | nil => cases h
  | cons y l ih =>
    rw [List.map_cons, List.sum_cons]
    rcases List.mem_cons.1 h with rfl | h
    · omega
    · have := ih h; omega
theorem flatMap_congr_left {α β : Type} {f g : α → List β} : ∀ {l : List α}, (∀ x ∈ l, f x = g x) → l.flatMap f = l.flatMap g
  | [], _ => rfl
  | x :: l, h => by rw [List.flatMap_cons, List.flatMap_cons, h x List.mem_cons_self, flatMap_congr_left fun y hy => h y (List.mem_cons_of_mem _ hy)]
theorem getF_app (c m : Mg) (f : Fld) (r : List UInt8) (ho : m.ok) (hg : m.good f = true) (hl : m.long f ≤ 65536) (hr : f = .stat → r = []) : getF c (m.bytes f ++ r) f = some (c.move m f, r) := by
  cases f
  case msize =>
    show (getNum 4 (le 4 m.msize ++ r)).map (fun p => (c.setNum p.1 .msize, p.2)) = _
    rw [getNum_app 4 _ _ ho.msize]
    rfl
  case version =>
    have h2 : 2 + m.version.size ≤ 65536 := hl
    show (getStr (strB m.version ++ r)).map _ = _
    rw [getStr_app m.version _ (by omega) hg]
    rfl
  case afid =>
    show (getNum 4 (le 4 m.afid ++ r)).map (fun p => (c.setNum p.1 .afid, p.2)) = _
    rw [getNum_app 4 _ _ ho.afid]
    rfl
  case uname =>
    have h2 : 2 + m.uname.size ≤ 65536 := hl
    show (getStr (strB m.uname ++ r)).map _ = _
    rw [getStr_app m.uname _ (by omega) hg]
    rfl
  case aname =>
    have h2 : 2 + m.aname.size ≤ 65536 := hl
    show (getStr (strB m.aname ++ r)).map _ = _
    rw [getStr_app m.aname _ (by omega) hg]
    rfl
  case ename =>
    have h2 : 2 + m.ename.size ≤ 65536 := hl
    show (getStr (strB m.ename ++ r)).map _ = _
    rw [getStr_app m.ename _ (by omega) hg]
    rfl
  case oldtag =>
    show (getNum 2 (le 2 m.oldtag ++ r)).map (fun p => (c.setNum p.1 .oldtag, p.2)) = _
    rw [getNum_app 2 _ _ ho.oldtag]
    rfl
  case fid =>
    show (getNum 4 (le 4 m.fid ++ r)).map (fun p => (c.setNum p.1 .fid, p.2)) = _
    rw [getNum_app 4 _ _ ho.fid]
    rfl
  case newfid =>
    show (getNum 4 (le 4 m.newfid ++ r)).map (fun p => (c.setNum p.1 .newfid, p.2)) = _
    rw [getNum_app 4 _ _ ho.newfid]
    rfl
  case names =>
    have hg' : (decide (m.names.length ≤ 16) && m.names.all good) = true := hg
    rw [Bool.and_eq_true, decide_eq_true_iff, List.all_eq_true] at hg'
    have hl' : 2 + (m.names.map fun s => 2 + s.size).sum ≤ 65536 := hl
    show (getList getStr (le 2 m.names.length ++ m.names.flatMap strB ++ r)).map _ = _
    rw [getList_app m.names r hg'.1 (fun x hx r => getStr_app x r (by
      have : 2 + x.size ≤ _ := le_sum (f := fun s : ByteArray => 2 + s.size) hx
      omega) (hg'.2 x hx))]
    rfl
  case qids =>
    have hg' : decide (m.qids.length ≤ 16) = true := hg
    rw [decide_eq_true_iff] at hg'
    show (getList getQid (le 2 m.qids.length ++ m.qids.flatMap qidB ++ r)).map _ = _
    rw [getList_app m.qids r hg' (fun x hx r => getQid_app x r (ho.qids x hx))]
    rfl
  case qid =>
    show (getQid (qidB m.qid ++ r)).map (fun p => ({ c with qid := p.1 }, p.2)) = _
    rw [getQid_app _ _ ho.qid]
    rfl
  case mode =>
    show (getNum 1 (le 1 m.mode ++ r)).map (fun p => (c.setNum p.1 .mode, p.2)) = _
    rw [getNum_app 1 _ _ ho.mode]
    rfl
  case iounit =>
    show (getNum 4 (le 4 m.iounit ++ r)).map (fun p => (c.setNum p.1 .iounit, p.2)) = _
    rw [getNum_app 4 _ _ ho.iounit]
    rfl
  case name =>
    have h2 : 2 + m.name.size ≤ 65536 := hl
    show (getStr (strB m.name ++ r)).map _ = _
    rw [getStr_app m.name _ (by omega) hg]
    rfl
  case perm =>
    show (getNum 4 (le 4 m.perm ++ r)).map (fun p => (c.setNum p.1 .perm, p.2)) = _
    rw [getNum_app 4 _ _ ho.perm]
    rfl
  case offset =>
    show (getNum 8 (le 8 m.offset ++ r)).map (fun p => (c.setNum p.1 .offset, p.2)) = _
    rw [getNum_app 8 _ _ ho.offset]
    rfl
  case count =>
    show (getNum 4 (le 4 m.count ++ r)).map (fun p => (c.setNum p.1 .count, p.2)) = _
    rw [getNum_app 4 _ _ ho.count]
    rfl
  case data =>
    have h2 : 4 + m.data.length ≤ 65536 := hl
    show (match getNum 4 (le 4 m.data.length ++ m.data ++ r) with | none => none | some (n, r) => (getN n r).map fun p : List UInt8 × List UInt8 => ({ c with data := p.1 }, p.2)) = _
    rw [List.append_assoc, getNum_app 4 _ _ (by omega)]
    dsimp only
    rw [getN_app _ _ rfl]
    rfl
  case stat =>
    have h2 : 2 + stSize m.stat ≤ 65536 := hl
    rw [hr rfl, List.append_nil]
    show (getStat (le 2 (stSize m.stat) ++ statB m.stat)).map _ = _
    rw [getStat_app _ ho.stat (by omega) hg]
    rfl
theorem getF_some {c c' : Mg} {f : Fld} {l r : List UInt8} (h : getF c l f = some (c', r)) : l = c'.bytes f ++ r ∧ c'.good f = true ∧ c' = c.move c' f ∧ (c.ok → c'.ok) := by
  cases f
  case msize =>
    have h' : (getNum 4 l).map (fun p : Nat × List UInt8 => (c.setNum p.1 .msize, p.2)) = some (c', r) := h
    obtain ⟨⟨n, r'⟩, hn, he⟩ := Option.map_eq_some_iff.1 h'
    injection he with h1 h2
    dsimp only at h1 h2
    subst h1; subst h2
    obtain ⟨rfl, hlt⟩ := getNum_some hn
    exact ⟨rfl, rfl, rfl, fun ho => { ho with msize := hlt }⟩
  case version =>
    have h' : (getStr l).map (fun p : ByteArray × List UInt8 => (c.setTxt p.1 .version, p.2)) = some (c', r) := h
    obtain ⟨⟨s, r'⟩, hn, he⟩ := Option.map_eq_some_iff.1 h'
    injection he with h1 h2
    dsimp only at h1 h2
    subst h1; subst h2
    obtain ⟨rfl, hg, -⟩ := getStr_some hn
    exact ⟨rfl, hg, rfl, fun ho => { ho with }⟩
  case afid =>
    have h' : (getNum 4 l).map (fun p : Nat × List UInt8 => (c.setNum p.1 .afid, p.2)) = some (c', r) := h
    obtain ⟨⟨n, r'⟩, hn, he⟩ := Option.map_eq_some_iff.1 h'
    injection he with h1 h2
    dsimp only at h1 h2
    subst h1; subst h2
    obtain ⟨rfl, hlt⟩ := getNum_some hn
    exact ⟨rfl, rfl, rfl, fun ho => { ho with afid := hlt }⟩
  case uname =>
    have h' : (getStr l).map (fun p : ByteArray × List UInt8 => (c.setTxt p.1 .uname, p.2)) = some (c', r) := h
    obtain ⟨⟨s, r'⟩, hn, he⟩ := Option.map_eq_some_iff.1 h'
    injection he with h1 h2
    dsimp only at h1 h2
    subst h1; subst h2
    obtain ⟨rfl, hg, -⟩ := getStr_some hn
    exact ⟨rfl, hg, rfl, fun ho => { ho with }⟩
  case aname =>
    have h' : (getStr l).map (fun p : ByteArray × List UInt8 => (c.setTxt p.1 .aname, p.2)) = some (c', r) := h
    obtain ⟨⟨s, r'⟩, hn, he⟩ := Option.map_eq_some_iff.1 h'
    injection he with h1 h2
    dsimp only at h1 h2
    subst h1; subst h2
    obtain ⟨rfl, hg, -⟩ := getStr_some hn
    exact ⟨rfl, hg, rfl, fun ho => { ho with }⟩
  case ename =>
    have h' : (getStr l).map (fun p : ByteArray × List UInt8 => (c.setTxt p.1 .ename, p.2)) = some (c', r) := h
    obtain ⟨⟨s, r'⟩, hn, he⟩ := Option.map_eq_some_iff.1 h'
    injection he with h1 h2
    dsimp only at h1 h2
    subst h1; subst h2
    obtain ⟨rfl, hg, -⟩ := getStr_some hn
    exact ⟨rfl, hg, rfl, fun ho => { ho with }⟩
  case oldtag =>
    have h' : (getNum 2 l).map (fun p : Nat × List UInt8 => (c.setNum p.1 .oldtag, p.2)) = some (c', r) := h
    obtain ⟨⟨n, r'⟩, hn, he⟩ := Option.map_eq_some_iff.1 h'
    injection he with h1 h2
    dsimp only at h1 h2
    subst h1; subst h2
    obtain ⟨rfl, hlt⟩ := getNum_some hn
    exact ⟨rfl, rfl, rfl, fun ho => { ho with oldtag := hlt }⟩
  case fid =>
    have h' : (getNum 4 l).map (fun p : Nat × List UInt8 => (c.setNum p.1 .fid, p.2)) = some (c', r) := h
    obtain ⟨⟨n, r'⟩, hn, he⟩ := Option.map_eq_some_iff.1 h'
    injection he with h1 h2
    dsimp only at h1 h2
    subst h1; subst h2
    obtain ⟨rfl, hlt⟩ := getNum_some hn
    exact ⟨rfl, rfl, rfl, fun ho => { ho with fid := hlt }⟩
  case newfid =>
    have h' : (getNum 4 l).map (fun p : Nat × List UInt8 => (c.setNum p.1 .newfid, p.2)) = some (c', r) := h
    obtain ⟨⟨n, r'⟩, hn, he⟩ := Option.map_eq_some_iff.1 h'
    injection he with h1 h2
    dsimp only at h1 h2
    subst h1; subst h2
    obtain ⟨rfl, hlt⟩ := getNum_some hn
    exact ⟨rfl, rfl, rfl, fun ho => { ho with newfid := hlt }⟩
  case names =>
    have h' : (getList getStr l).map (fun p : List ByteArray × List UInt8 => ({ c with names := p.1 }, p.2)) = some (c', r) := h
    obtain ⟨⟨s, r'⟩, hn, he⟩ := Option.map_eq_some_iff.1 h'
    injection he with h1 h2
    dsimp only at h1 h2
    subst h1; subst h2
    obtain ⟨rfl, h16, hg⟩ := getList_some (put := strB) (ok := fun s => good s = true) (fun h => ⟨(getStr_some h).1, (getStr_some h).2.1⟩) hn
    refine ⟨rfl, ?_, rfl, fun ho => { ho with }⟩
    show (decide (s.length ≤ 16) && s.all good) = true
    rw [Bool.and_eq_true, decide_eq_true_iff, List.all_eq_true]
    exact ⟨h16, hg⟩
  case qids =>
    have h' : (getList getQid l).map (fun p : List Qd × List UInt8 => ({ c with qids := p.1 }, p.2)) = some (c', r) := h
    obtain ⟨⟨s, r'⟩, hn, he⟩ := Option.map_eq_some_iff.1 h'
    injection he with h1 h2
    dsimp only at h1 h2
    subst h1; subst h2
    obtain ⟨rfl, h16, hg⟩ := getList_some (put := qidB) (ok := Qd.ok) getQid_some hn
    exact ⟨rfl, decide_eq_true h16, rfl, fun ho => { ho with qids := hg }⟩
  case qid =>
    have h' : (getQid l).map (fun p : Qd × List UInt8 => ({ c with qid := p.1 }, p.2)) = some (c', r) := h
    obtain ⟨⟨s, r'⟩, hn, he⟩ := Option.map_eq_some_iff.1 h'
    injection he with h1 h2
    dsimp only at h1 h2
    subst h1; subst h2
    obtain ⟨rfl, hg⟩ := getQid_some hn
    exact ⟨rfl, rfl, rfl, fun ho => { ho with qid := hg }⟩
  case mode =>
    have h' : (getNum 1 l).map (fun p : Nat × List UInt8 => (c.setNum p.1 .mode, p.2)) = some (c', r) := h
    obtain ⟨⟨n, r'⟩, hn, he⟩ := Option.map_eq_some_iff.1 h'
    injection he with h1 h2
    dsimp only at h1 h2
    subst h1; subst h2
    obtain ⟨rfl, hlt⟩ := getNum_some hn
    exact ⟨rfl, rfl, rfl, fun ho => { ho with mode := hlt }⟩
  case iounit =>
    have h' : (getNum 4 l).map (fun p : Nat × List UInt8 => (c.setNum p.1 .iounit, p.2)) = some (c', r) := h
    obtain ⟨⟨n, r'⟩, hn, he⟩ := Option.map_eq_some_iff.1 h'
    injection he with h1 h2
    dsimp only at h1 h2
    subst h1; subst h2
    obtain ⟨rfl, hlt⟩ := getNum_some hn
    exact ⟨rfl, rfl, rfl, fun ho => { ho with iounit := hlt }⟩
  case name =>
    have h' : (getStr l).map (fun p : ByteArray × List UInt8 => (c.setTxt p.1 .name, p.2)) = some (c', r) := h
    obtain ⟨⟨s, r'⟩, hn, he⟩ := Option.map_eq_some_iff.1 h'
    injection he with h1 h2
    dsimp only at h1 h2
    subst h1; subst h2
    obtain ⟨rfl, hg, -⟩ := getStr_some hn
    exact ⟨rfl, hg, rfl, fun ho => { ho with }⟩
  case perm =>
    have h' : (getNum 4 l).map (fun p : Nat × List UInt8 => (c.setNum p.1 .perm, p.2)) = some (c', r) := h
    obtain ⟨⟨n, r'⟩, hn, he⟩ := Option.map_eq_some_iff.1 h'
    injection he with h1 h2
    dsimp only at h1 h2
    subst h1; subst h2
    obtain ⟨rfl, hlt⟩ := getNum_some hn
    exact ⟨rfl, rfl, rfl, fun ho => { ho with perm := hlt }⟩
  case offset =>
    have h' : (getNum 8 l).map (fun p : Nat × List UInt8 => (c.setNum p.1 .offset, p.2)) = some (c', r) := h
    obtain ⟨⟨n, r'⟩, hn, he⟩ := Option.map_eq_some_iff.1 h'
    injection he with h1 h2
    dsimp only at h1 h2
    subst h1; subst h2
    obtain ⟨rfl, hlt⟩ := getNum_some hn
    exact ⟨rfl, rfl, rfl, fun ho => { ho with offset := hlt }⟩
  case count =>
    have h' : (getNum 4 l).map (fun p : Nat × List UInt8 => (c.setNum p.1 .count, p.2)) = some (c', r) := h
    obtain ⟨⟨n, r'⟩, hn, he⟩ := Option.map_eq_some_iff.1 h'
    injection he with h1 h2
    dsimp only at h1 h2
    subst h1; subst h2
    obtain ⟨rfl, hlt⟩ := getNum_some hn
    exact ⟨rfl, rfl, rfl, fun ho => { ho with count := hlt }⟩
  case data =>
    have h' : (match getNum 4 l with | none => none | some (n, r) => (getN n r).map fun p : List UInt8 × List UInt8 => ({ c with data := p.1 }, p.2)) = some (c', r) := h
    cases h1 : getNum 4 l with
    | none => rw [h1] at h'; cases h'
    | some q =>
      obtain ⟨n, r1⟩ := q
      rw [h1] at h'
      dsimp only at h'
      obtain ⟨⟨s, r'⟩, hn, he⟩ := Option.map_eq_some_iff.1 h'
      injection he with h2 h3
      dsimp only at h2 h3
      subst h2; subst h3
      obtain ⟨rfl, hlt⟩ := getNum_some h1
      obtain ⟨rfl, hl⟩ := getN_some hn
      subst hl
      refine ⟨?_, rfl, rfl, fun ho => { ho with }⟩
      show _ = le 4 s.length ++ s ++ r'
      rw [List.append_assoc]
  case stat =>
    have h' : (getStat l).map (fun p : Sta × List UInt8 => ({ c with stat := p.1 }, p.2)) = some (c', r) := h
    obtain ⟨⟨s, r'⟩, hn, he⟩ := Option.map_eq_some_iff.1 h'
    injection he with h1 h2
    dsimp only at h1 h2
    subst h1; subst h2
    obtain ⟨rfl, hg, hok, -⟩ := getStat_some hn
    exact ⟨rfl, hg, rfl, fun ho => { ho with stat := hok }⟩
theorem move_ne {f g : Fld} (h : f ≠ g) (c d m : Mg) : d.move (c.move m f) g = d.move c g := by
  cases f <;> cases g <;> first | exact absurd rfl h | rfl
theorem move_eq (c d m : Mg) (f : Fld) : d.move (c.move m f) f = d.move m f := by
  cases f <;> rfl
theorem bytes_move (c m : Mg) (f : Fld) : (c.move m f).bytes f = m.bytes f := by
  cases f <;> rfl
theorem good_move (c m : Mg) (f : Fld) : (c.move m f).good f = m.good f := by
  cases f <;> rfl
theorem long_move (c m : Mg) (f : Fld) : (c.move m f).long f = m.long f := by
  cases f <;> rfl
theorem kind_move (c m : Mg) (f : Fld) : (c.move m f).kind = c.kind ∧ (c.move m f).tag = c.tag := by
  cases f <;> exact ⟨rfl, rfl⟩
/-- Two messages have the same in a field. -/
def Alike (a b : Mg) (f : Fld) : Prop := ∀ d : Mg, d.move a f = d.move b f
theorem Alike.bytes {a b : Mg} {f : Fld} (h : Alike a b f) : a.bytes f = b.bytes f := by rw [← bytes_move a a f, ← bytes_move a b f, h]
theorem Alike.good {a b : Mg} {f : Fld} (h : Alike a b f) : a.good f = b.good f := by rw [← good_move a a f, ← good_move a b f, h]
theorem Alike.long {a b : Mg} {f : Fld} (h : Alike a b f) : a.long f = b.long f := by rw [← long_move a a f, ← long_move a b f, h]
theorem foldl_kind (m : Mg) : ∀ (fs : List Fld) (c : Mg), (fs.foldl (fun c f => c.move m f) c).kind = c.kind ∧ (fs.foldl (fun c f => c.move m f) c).tag = c.tag
  | [], c => ⟨rfl, rfl⟩
  | f :: fs, c => by rw [List.foldl_cons, (foldl_kind m fs _).1, (foldl_kind m fs _).2]; exact kind_move c m f
theorem foldl_out (m : Mg) (g : Fld) : ∀ (fs : List Fld) (c : Mg), g ∉ fs → Alike (fs.foldl (fun c f => c.move m f) c) c g
  | [], c, _ => fun _ => rfl
  | f :: fs, c, h => fun d => by
    rw [List.foldl_cons, foldl_out m g fs _ (fun hh => h (List.mem_cons_of_mem _ hh)) d, move_ne (fun hh => h (by rw [hh]; exact List.mem_cons_self))]
theorem foldl_in (m : Mg) (g : Fld) : ∀ (fs : List Fld) (c : Mg), g ∈ fs → fs.Nodup → Alike (fs.foldl (fun c f => c.move m f) c) m g
  | f :: fs, c, h, hn => fun d => by
    rw [List.nodup_cons] at hn
    rcases List.mem_cons.1 h with rfl | h
    · rw [List.foldl_cons, foldl_out m g fs _ hn.1 d, move_eq]
    · rw [List.foldl_cons, foldl_in m g fs _ h hn.2 d]
def Fld.isStat : Fld → Bool
  | .stat => true
  | _ => false
/-- A record stands at the end alone. -/
def wellL : List Fld → Bool
  | [] => true
  | f :: fs => (!f.isStat || fs.isEmpty) && wellL fs
instance : DecidableEq Fld := fun a b => by
  cases a <;> cases b <;> first | exact isTrue rfl | exact isFalse (fun h => by cases h)
theorem kindF_well {k : Nat} {fs : List Fld} (h : kindF k = some fs) : wellL fs = true ∧ fs.Nodup ∧ 100 ≤ k ∧ k < 128 := by
  unfold kindF at h
  split at h <;> first | (obtain rfl := Option.some.inj h; decide) | (exact absurd h (by simp))
theorem getAll_app (m : Mg) (ho : m.ok) : ∀ (fs : List Fld) (c : Mg), wellL fs = true → (∀ f ∈ fs, m.good f = true ∧ m.long f ≤ 65536) → getAll fs c (body m fs) = some (fs.foldl (fun c f => c.move m f) c, [])
  | [], c, _, _ => rfl
  | f :: fs, c, hw, h => by
    rw [wellL, Bool.and_eq_true] at hw
    have hf := h f List.mem_cons_self
    have : getF c (m.bytes f ++ body m fs) f = some (c.move m f, body m fs) := getF_app c m f _ ho hf.1 hf.2 (fun he => by
      subst he
      have h1 := hw.1
      rw [show Fld.stat.isStat = true from rfl, Bool.not_true, Bool.false_or, List.isEmpty_iff] at h1
      subst h1
      rfl)
    unfold body at this ⊢
    rw [List.flatMap_cons, getAll, this]
    dsimp only
    exact getAll_app m ho fs _ hw.2 (fun g hg => h g (List.mem_cons_of_mem _ hg))
theorem getAll_some : ∀ (fs : List Fld) (c m : Mg) (l r : List UInt8), fs.Nodup → getAll fs c l = some (m, r) → l = body m fs ++ r ∧ (∀ f ∈ fs, m.good f = true) ∧ m = fs.foldl (fun c f => c.move m f) c ∧ (c.ok → m.ok)
  | [], c, m, l, r, _, h => by
    simp only [getAll, Option.some.injEq, Prod.mk.injEq] at h
    obtain ⟨rfl, rfl⟩ := h
    exact ⟨rfl, by simp, rfl, id⟩
  | f :: fs, c, m, l, r, hn, h => by
    rw [List.nodup_cons] at hn
    rw [getAll] at h
    cases h1 : getF c l f with
    | none => rw [h1] at h; cases h
    | some p =>
      obtain ⟨c', r'⟩ := p
      rw [h1] at h
      dsimp only at h
      obtain ⟨rfl, hg, hc, hok⟩ := getF_some h1
      obtain ⟨rfl, hgs, hm, hoks⟩ := getAll_some fs c' m r' r hn.2 h
      have ha : Alike m c' f := by
        intro d
        have := foldl_out m f fs c' hn.1 d
        rwa [← hm] at this
      refine ⟨?_, ?_, ?_, fun ho => hoks (hok ho)⟩
      · unfold body
        rw [List.flatMap_cons, ha.bytes, List.append_assoc]
      · intro g hgm
        rcases List.mem_cons.1 hgm with rfl | hgm
        · rw [ha.good]; exact hg
        · exact hgs g hgm
      · rw [List.foldl_cons, ha c, ← hc]
        exact hm
theorem body_len (m : Mg) (fs : List Fld) : (body m fs).length = (fs.map m.long).sum := by
  unfold body
  rw [List.length_flatMap]
  congr 1
  exact List.map_congr_left fun f _ => bytes_len m f
theorem refused_ok {m : Mg} (h : (refused m).1 = 0) : ∃ fs, kindF m.kind = some fs ∧ (∀ f ∈ fs, m.good f = true) ∧ m.size fs ≤ 65536 ∧ (refused m).2 = m.size fs ∧ enc m = (le 4 (m.size fs) ++ le 1 m.kind ++ le 2 m.tag ++ body m fs, 0) := by
  have h0 := h
  unfold refused at h
  cases hk : kindF m.kind with
  | none => rw [hk] at h; simp at h
  | some fs =>
    rw [hk] at h
    dsimp only at h
    split at h
    · rename_i hg
      split at h
      · simp at h
      · rename_i hs
        refine ⟨fs, rfl, List.all_eq_true.1 hg, by omega, ?_, ?_⟩
        · unfold refused; rw [hk]; dsimp only; rw [if_pos hg, if_neg hs]
        · unfold enc; rw [hk]; dsimp only; rw [if_pos h0]
    · simp at h
theorem ok_refused {m : Mg} {fs : List Fld} (hk : kindF m.kind = some fs) (hg : ∀ f ∈ fs, m.good f = true) (hs : m.size fs ≤ 65536) : refused m = (0, m.size fs) := by
  unfold refused
  rw [hk]
  dsimp only
  rw [if_pos (List.all_eq_true.2 hg), if_neg (by omega)]
theorem enc_len {m : Mg} (h : (refused m).1 = 0) : (enc m).1.length = (refused m).2 := by
  obtain ⟨fs, -, -, -, h2, he⟩ := refused_ok h
  rw [he, h2]
  simp only [List.length_append, le_len, body_len, Mg.size]
/-- THERE AND BACK: the frame of a message that can be written is read as that message, clean. -/
theorem dec_enc {m : Mg} (ho : m.ok) (h : (refused m).1 = 0) : dec (enc m).1 = (clean m, 0) := by
  have hlen := enc_len h
  obtain ⟨fs, hk, hg, hs, h2, he⟩ := refused_ok h
  rw [h2] at hlen
  have hsz : 7 ≤ m.size fs := by unfold Mg.size; omega
  have hb : ∀ f ∈ fs, m.good f = true ∧ m.long f ≤ 65536 := fun f hf => ⟨hg f hf, by
    have := le_sum (f := m.long) hf
    unfold Mg.size at hs
    omega⟩
  rw [he] at hlen ⊢
  dsimp only at hlen ⊢
  have e1 : (le 4 (m.size fs) ++ le 1 m.kind ++ le 2 m.tag ++ body m fs).take 4 = le 4 (m.size fs) := by
    rw [List.append_assoc, List.append_assoc, take_app _ _ (le_len _ _)]
  have e2 : ((le 4 (m.size fs) ++ le 1 m.kind ++ le 2 m.tag ++ body m fs).drop 4).take 1 = le 1 m.kind := by
    rw [List.append_assoc, List.append_assoc, drop_app _ _ (le_len _ _), take_app _ _ (le_len _ _)]
  have e3 : ((le 4 (m.size fs) ++ le 1 m.kind ++ le 2 m.tag ++ body m fs).drop 5).take 2 = le 2 m.tag := by
    rw [List.append_assoc, drop_app (le 4 (m.size fs) ++ le 1 m.kind) _ (by simp [le_len]), take_app _ _ (le_len _ _)]
  have e4 : (le 4 (m.size fs) ++ le 1 m.kind ++ le 2 m.tag ++ body m fs).drop 7 = body m fs := drop_app _ _ (by simp [le_len])
  unfold dec
  rw [hlen, if_neg (by omega), e1, e2, e3, e4, numL_le 4 _ (by omega), if_neg (by simp), numL_le 1 _ ho.kind, numL_le 2 _ ho.tag, hk]
  dsimp only
  rw [getAll_app m ho fs _ (kindF_well hk).1 hb]
  dsimp only
  unfold clean
  rw [hk]
  rfl
theorem head_ok {k t : Nat} (hk : k < 256) (ht : t < 65536) : (head k t).ok where
  kind := hk
  tag := ht
  msize := show 0 < 4294967296 by decide
  afid := show 0 < 4294967296 by decide
  fid := show 0 < 4294967296 by decide
  newfid := show 0 < 4294967296 by decide
  iounit := show 0 < 4294967296 by decide
  perm := show 0 < 4294967296 by decide
  count := show 0 < 4294967296 by decide
  oldtag := show 0 < 65536 by decide
  mode := show 0 < 256 by decide
  offset := show 0 < 18446744073709551616 by decide
  qids := by simp [head]
  qid := show 0 < 256 ∧ 0 < 4294967296 ∧ 0 < 18446744073709551616 by decide
  stat := show 0 < 65536 ∧ 0 < 4294967296 ∧ (0 < 256 ∧ 0 < 4294967296 ∧ 0 < 18446744073709551616) ∧ 0 < 4294967296 ∧ 0 < 4294967296 ∧ 0 < 4294967296 ∧ 0 < 18446744073709551616 by decide
/-- ONE FORM: a frame that is taken is written just so again, and is clean. -/
theorem dec_some {l : List UInt8} {m : Mg} (h : dec l = (m, 0)) : (refused m).1 = 0 ∧ (enc m).1 = l ∧ clean m = m ∧ m.ok ∧ m.kind = numL ((l.drop 4).take 1) ∧ m.tag = numL ((l.drop 5).take 2) ∧ 7 ≤ l.length ∧ l.length ≤ 65536 := by
  unfold dec at h
  split at h
  · injection h with _ h; cases h
  rename_i h7
  split at h
  · injection h with _ h; cases h
  rename_i h4
  split at h
  · injection h with _ h; cases h
  rename_i fs hk
  have hw := kindF_well hk
  split at h
  · rename_i m' hm
    injection h with h _
    subst h
    obtain ⟨hb, hg, hf, hok⟩ := getAll_some fs _ _ _ _ hw.2.1 hm
    have hkd : m'.kind = numL ((l.drop 4).take 1) := by rw [hf, (foldl_kind m' fs _).1]; rfl
    have htg : m'.tag = numL ((l.drop 5).take 2) := by rw [hf, (foldl_kind m' fs _).2]; rfl
    have hlen : m'.size fs = l.length := by
      have := congrArg List.length hb
      rw [List.length_drop, List.append_nil, body_len] at this
      unfold Mg.size
      omega
    have h1 := num_at_lt l 4 1
    have h2 := num_at_lt l 5 2
    rw [← hkd] at hk h1
    rw [← htg] at h2
    have hr := ok_refused hk hg (by omega)
    have he : (enc m').1 = l := by
      unfold enc
      rw [hk]
      dsimp only
      rw [if_pos (by rw [hr])]
      dsimp only
      rw [List.append_nil] at hb
      have h4' : numL (l.take 4) = l.length := by omega
      have k4 := num_at l 0 4 (by omega)
      rw [List.drop_zero, h4'] at k4
      rw [← hb, hkd, htg, num_at l 4 1 (by omega), num_at l 5 2 (by omega), hlen, k4]
      simp only [List.append_assoc]
      rw [← split_at l 5 2, ← split_at l 4 1, List.take_append_drop]
    refine ⟨by rw [hr], he, ?_, hok (head_ok (num_at_lt l 4 1) (num_at_lt l 5 2)), hkd, htg, by omega, by omega⟩
    unfold clean
    rw [hk, hkd, htg]
    exact hf.symm
  · injection h with _ h; cases h
/-- A clean message is written as it was. -/
theorem clean_alike {m : Mg} {fs : List Fld} (hk : kindF m.kind = some fs) {f : Fld} (hf : f ∈ fs) : Alike (clean m) m f := by
  unfold clean
  rw [hk]
  exact foldl_in m f fs _ hf (kindF_well hk).2.1
theorem clean_kind (m : Mg) : (clean m).kind = m.kind ∧ (clean m).tag = m.tag := foldl_kind m _ _
theorem clean_size {m : Mg} {fs : List Fld} (hk : kindF m.kind = some fs) : (clean m).size fs = m.size fs := by
  unfold Mg.size
  congr 2
  exact List.map_congr_left fun f hf => (clean_alike hk hf).long
theorem clean_refused {m : Mg} (h : (refused m).1 = 0) : refused (clean m) = refused m := by
  obtain ⟨fs, hk, hg, hs, h2, -⟩ := refused_ok h
  rw [ok_refused hk hg hs, ok_refused (m := clean m) (fs := fs) (by rw [(clean_kind m).1]; exact hk) (fun f hf => by rw [(clean_alike hk hf).good]; exact hg f hf) (by rw [clean_size hk]; exact hs), clean_size hk]
theorem enc_clean {m : Mg} (h : (refused m).1 = 0) : enc (clean m) = enc m := by
  have h' : (refused (clean m)).1 = 0 := by rw [clean_refused h]; exact h
  obtain ⟨fs, hk, -, -, -, he⟩ := refused_ok h
  obtain ⟨fs', hk', -, -, -, he'⟩ := refused_ok h'
  rw [(clean_kind m).1, hk] at hk'
  injection hk' with hk'
  subst hk'
  rw [he, he', clean_size hk, (clean_kind m).1, (clean_kind m).2]
  congr 2
  unfold body
  exact flatMap_congr_left fun f hf => (clean_alike hk hf).bytes
theorem dec_inj {a b : Mg} (ha : a.ok) (hb : b.ok) (h1 : (refused a).1 = 0) (h2 : (refused b).1 = 0) : (enc a).1 = (enc b).1 ↔ clean a = clean b := by
  constructor
  · intro h
    have e1 := dec_enc ha h1
    have e2 := dec_enc hb h2
    rw [h, e2] at e1
    injection e1 with e1 _
    exact e1.symm
  · intro h
    rw [← enc_clean h1, ← enc_clean h2, h]
end Go.Proofs.YtkblmloobkiloaaGreatDoor
