/-
  MV2: what the laws of package msg need of them.
-/
import Derived.Test.YtkblmloobkiloaaGreatDoorQ07
namespace Go.Proofs.YtkblmloobkiloaaGreatDoor
open Go.RowKit

theorem wput_some {lim : Nat} {st : Option (List UInt8)} {x l : List UInt8} (h : wput lim st x = some l) : ∃ l0, st = some l0 ∧ l = l0 ++ x ∧ l0.length + x.length ≤ lim := by
  cases st with
  | none => cases h
  | some l0 =>
    unfold wput at h
    dsimp only at h
    split at h
    · injection h with h; exact ⟨l0, rfl, h.symm, by assumption⟩
    · cases h
theorem patch_app (a x : List UInt8) (u v : UInt8) : patch a.length (a ++ u :: v :: x) = a ++ (le 2 x.length ++ x) := by
  unfold patch
  rw [List.take_left, show a ++ u :: v :: x = (a ++ [u, v]) ++ x by simp, show (a ++ [u, v] ++ x).length - a.length - 2 = x.length by simp, List.drop_left' (by simp)]
/-- A part: opened, written, shut. -/
theorem wshut_wput {lim n : Nat} {st : Option (List UInt8)} {x : List UInt8} (hn : ∀ l, wput lim st [0, 0] = some l → l.length = n + 2) (hx : lim ≤ 65536) : wshut n (wput lim (wput lim st [0, 0]) x) = wput lim st (le 2 x.length ++ x) := by
  cases st with
  | none => rfl
  | some l =>
    by_cases h : l.length + 2 ≤ lim
    · have e1 : wput lim (some l) [0, 0] = some (l ++ [0, 0]) := wput_len h
      have hl := hn _ e1
      have hln : n = l.length := by rw [List.length_append] at hl; simp at hl; omega
      subst hln
      rw [e1]
      by_cases h2 : l.length + 2 + x.length ≤ lim
      · rw [wput_len (by rw [List.length_append]; exact h2), wput_len (by rw [List.length_append, le_len]; omega)]
        have e2 : l ++ [0, 0] ++ x = l ++ (0 : UInt8) :: 0 :: x := by simp
        rw [e2]
        unfold wshut
        dsimp only
        rw [if_pos (by simp; omega), patch_app]
      · rw [wput_none (st := some (l ++ [0, 0])) (x := x) (fun l' hl => by injection hl with hl; subst hl; rw [List.length_append]; simp; omega)]
        rw [wput_none (st := some l) (x := le 2 x.length ++ x) (fun l' hl => by injection hl with hl; subst hl; rw [List.length_append, le_len]; omega)]
        rfl
    · rw [wput_none (st := some l) (x := [0, 0]) (fun l' hl => by injection hl with hl; subst hl; simp; omega)]
      rw [wput_none (st := some l) (x := le 2 x.length ++ x) (fun l' hl => by injection hl with hl; subst hl; rw [List.length_append, le_len]; omega)]
      rfl
/-- A record behind its count. -/
def recB (s : Sta) : List UInt8 := le 2 s.type ++ (le 4 s.dev ++ (qidB s.qid ++ (le 4 s.mode ++ (le 4 s.atime ++ (le 4 s.mtime ++ (le 8 s.length ++ (strB s.name ++ (strB s.uid ++ (strB s.gid ++ strB s.muid)))))))))
theorem recB_len (s : Sta) : (recB s).length = stSize s - 2 := by
  unfold recB stSize
  simp only [List.length_append, le_len, qidB_len, strB_len]
  omega
theorem statB_rec (s : Sta) : statB s = le 2 (recB s).length ++ recB s := by
  rw [recB_len]
  unfold statB recB
  simp only [List.append_assoc]

set_option maxRecDepth 100000 in
set_option maxHeartbeats 3200000 in
theorem put_calls {w : World} {base p lim : Nat} {st : Option (List UInt8)} {op : List Nat} (s : Sta) (hs : s.ok) (hg : s.good = true) (hz : stSize s ≤ 1099511627776) (hr : Ready w) (h8 : 8 ≤ base) (hlim : lim ≤ 65536) (h : WrS w base p lim st op) (hop : op.length < 16) :
    Calls Tryz.prog 259 #[.pointer (some ⟨p, 0, none⟩), stV s] w fun e w' => e = .returned (.tuple #[]) ∧ WrS w' base p lim (wput lim st (statB s)) op ∧ Wk base w w' := by
  obtain ⟨n1, n2, hq, n4, n5, n6, n7⟩ := hs
  simp only [Sta.good, Bool.and_eq_true] at hg
  obtain ⟨⟨⟨g1, g2⟩, g3⟩, g4⟩ := hg
  have hstz : 49 + s.name.size + s.uid.size + s.gid.size + s.muid.size ≤ 1099511627776 := hz
  have hsz := h.le
  have HS := Lib.hid (h.below ((Below.refl _ _).alloc (Nat.le_refl _) (.cells #[.int .u16 (s.type : Int), .int .u32 (s.dev : Int), .int .u8 (s.qid.kind : Int), .int .u32 (s.qid.vers : Int), .int .u64 (s.qid.path : Int), .int .u32 (s.mode : Int), .int .u32 (s.atime : Int), .int .u32 (s.mtime : Int), .int .u64 (s.length : Int), .string s.name, .string s.uid, .string s.gid, .string s.muid] 39)))
  have HB := Lib.hid ((Wk.refl base w).alloc hsz (.cells #[.int .u16 (s.type : Int), .int .u32 (s.dev : Int), .int .u8 (s.qid.kind : Int), .int .u32 (s.qid.vers : Int), .int .u64 (s.qid.path : Int), .int .u32 (s.mode : Int), .int .u32 (s.atime : Int), .int .u32 (s.mtime : Int), .int .u64 (s.length : Int), .string s.name, .string s.uid, .string s.gid, .string s.muid] 39))
  have HN := Lib.hid (Blk.new w 39 #[.int .u16 (s.type : Int), .int .u32 (s.dev : Int), .int .u8 (s.qid.kind : Int), .int .u32 (s.qid.vers : Int), .int .u64 (s.qid.path : Int), .int .u32 (s.mode : Int), .int .u32 (s.atime : Int), .int .u32 (s.mtime : Int), .int .u64 (s.length : Int), .string s.name, .string s.uid, .string s.gid, .string s.muid])
  have HR := Lib.hid hr
  have HZ := Lib.hid (And.intro hstz hop)
  have HG := Lib.hid (And.intro (And.intro g1 g2) (And.intro g3 g4))
  have HQ := Lib.hid hq
  clear h hr hz hstz hop hq g1 g2 g3 g4
  unfold stV
  go_enter Tryz.func259, Tryz.ntmps259
  go_upto_region 2 with (fail)
  generalize w.alloc (.cells #[.int .u16 (s.type : Int), .int .u32 (s.dev : Int), .int .u8 (s.qid.kind : Int), .int .u32 (s.qid.vers : Int), .int .u64 (s.qid.path : Int), .int .u32 (s.mode : Int), .int .u32 (s.atime : Int), .int .u32 (s.mtime : Int), .int .u64 (s.length : Int), .string s.name, .string s.uid, .string s.gid, .string s.muid] 39) = w0 at HS HB HN ⊢
  generalize hq : w.heap.size = q at HN hsz ⊢
  clear hq
  go_wp2_with fail
  refine (wrOpen_calls HS.out HZ.out.2).mono ?_
  rintro e w1 ⟨⟨n, rfl, hs, hn16, hn⟩, hb⟩
  have HNN := Lib.hid hn
  have HN16 := Lib.hid hn16; clear hn16
  have HS0 := Lib.hid hs
  have HN0 := Lib.hid (hb.blk HN.out (by decide) (by decide) (by decide))
  have HB0 := Lib.hid (HB.out.trans hb); clear hs hb hn HS HN HB
  have k0 : w1.cell? ⟨q, 0, none⟩ = _ := HN0.out.cell 0
  go_wp2_with fail
  refine (wrU16_calls s.type n1 HS0.out).mono ?_
  rintro e w2 ⟨rfl, hs, hb⟩
  have HS1 := Lib.hid hs
  have HN1 := Lib.hid (hb.blk HN0.out (by decide) (by decide) (by decide))
  have HB1 := Lib.hid (HB0.out.trans hb)
  clear hs hb k0 HS0 HN0 HB0
  have k1 : w2.cell? ⟨q, 1, none⟩ = _ := HN1.out.cell 1
  go_wp2_with fail
  refine (wrU32_calls s.dev n2 HS1.out).mono ?_
  rintro e w3 ⟨rfl, hs, hb⟩
  have HS2 := Lib.hid hs
  have HN2 := Lib.hid (hb.blk HN1.out (by decide) (by decide) (by decide))
  have HB2 := Lib.hid (HB1.out.trans hb)
  clear hs hb k1 HS1 HN1 HB1
  have k2 : w3.cell? ⟨q, 2, none⟩ = _ := HN2.out.cell 2
  have k3 : w3.cell? ⟨q, 3, none⟩ = _ := HN2.out.cell 3
  have k4 : w3.cell? ⟨q, 4, none⟩ = _ := HN2.out.cell 4
  go_wp2_with fail
  refine (putQid_calls s.qid HQ.out HS2.out).mono ?_
  rintro e w4 ⟨rfl, hs, hb⟩
  have HS3 := Lib.hid hs
  have HN3 := Lib.hid (hb.blk HN2.out (by decide) (by decide) (by decide))
  have HB3 := Lib.hid (HB2.out.trans hb)
  clear hs hb k2 k3 k4 HS2 HN2 HB2
  have k5 : w4.cell? ⟨q, 5, none⟩ = _ := HN3.out.cell 5
  go_wp2_with fail
  refine (wrU32_calls s.mode n4 HS3.out).mono ?_
  rintro e w5 ⟨rfl, hs, hb⟩
  have HS4 := Lib.hid hs
  have HN4 := Lib.hid (hb.blk HN3.out (by decide) (by decide) (by decide))
  have HB4 := Lib.hid (HB3.out.trans hb)
  clear hs hb k5 HS3 HN3 HB3
  have k6 : w5.cell? ⟨q, 6, none⟩ = _ := HN4.out.cell 6
  go_wp2_with fail
  refine (wrU32_calls s.atime n5 HS4.out).mono ?_
  rintro e w6 ⟨rfl, hs, hb⟩
  have HS5 := Lib.hid hs
  have HN5 := Lib.hid (hb.blk HN4.out (by decide) (by decide) (by decide))
  have HB5 := Lib.hid (HB4.out.trans hb)
  clear hs hb k6 HS4 HN4 HB4
  have k7 : w6.cell? ⟨q, 7, none⟩ = _ := HN5.out.cell 7
  go_wp2_with fail
  refine (wrU32_calls s.mtime n6 HS5.out).mono ?_
  rintro e w7 ⟨rfl, hs, hb⟩
  have HS6 := Lib.hid hs
  have HN6 := Lib.hid (hb.blk HN5.out (by decide) (by decide) (by decide))
  have HB6 := Lib.hid (HB5.out.trans hb)
  clear hs hb k7 HS5 HN5 HB5
  have k8 : w7.cell? ⟨q, 8, none⟩ = _ := HN6.out.cell 8
  go_wp2_with fail
  refine (wrU64_calls s.length n7 HS6.out).mono ?_
  rintro e w8 ⟨rfl, hs, hb⟩
  have HS7 := Lib.hid hs
  have HN7 := Lib.hid (hb.blk HN6.out (by decide) (by decide) (by decide))
  have HB7 := Lib.hid (HB6.out.trans hb)
  clear hs hb k8 HS6 HN6 HB6
  have k9 : w8.cell? ⟨q, 9, none⟩ = _ := HN7.out.cell 9
  have k10 : w8.cell? ⟨q, 10, none⟩ = _ := HN7.out.cell 10
  have k11 : w8.cell? ⟨q, 11, none⟩ = _ := HN7.out.cell 11
  have k12 : w8.cell? ⟨q, 12, none⟩ = _ := HN7.out.cell 12
  have HT := Lib.hid (Blk.new w8 9 #[.string s.name, .string s.uid, .string s.gid, .string s.muid])
  have HB8 := Lib.hid (HB7.out.alloc HS7.out.le (.cells #[.string s.name, .string s.uid, .string s.gid, .string s.muid] 9))
  have HS8 := Lib.hid (HS7.out.below ((Below.refl _ _).alloc (Nat.le_refl _) (.cells #[.string s.name, .string s.uid, .string s.gid, .string s.muid] 9)))
  clear HS7 HB7
  obtain ⟨tx, htx⟩ : ∃ tx, tx = [s.name, s.uid, s.gid, s.muid] := ⟨_, rfl⟩
  have HTX := Lib.hid htx
  have HTG := Lib.hid (show ∀ x ∈ tx, good x = true ∧ x.size ≤ 1099511627776 from by
    have h1 := HG.out
    have h2 := HZ.out
    rw [htx]
    intro x hx
    simp only [List.mem_cons, List.not_mem_nil, or_false] at hx
    rcases hx with rfl | rfl | rfl | rfl
    · exact ⟨h1.1.1, by omega⟩
    · exact ⟨h1.1.2, by omega⟩
    · exact ⟨h1.2.1, by omega⟩
    · exact ⟨h1.2.2, by omega⟩)
  have HTL := Lib.hid (show tx.length = 4 from by rw [htx]; rfl)
  clear htx
  obtain ⟨st7, hst7⟩ : ∃ st7, st7 = wput lim (wput lim (wput lim (wput lim (wput lim (wput lim (wput lim (wput lim st [0, 0]) (le 2 s.type)) (le 4 s.dev)) (qidB s.qid)) (le 4 s.mode)) (le 4 s.atime)) (le 4 s.mtime)) (le 8 s.length) := ⟨_, rfl⟩
  rw [← hst7] at HS8
  have HST := Lib.hid hst7; clear hst7
  go_upto_region 11 with (fail)
  have HTB := Lib.hid (show Blk (w8.alloc (.cells #[.string s.name, .string s.uid, .string s.gid, .string s.muid] 9)) w8.heap.size 9 (strL tx).toArray from by rw [HTX.out]; exact HT.out)
  generalize w8.alloc (.cells #[.string s.name, .string s.uid, .string s.gid, .string s.muid] 9) = w9 at HS8 HB8 HTB ⊢
  generalize w8.heap.size = g at HTB ⊢
  clear k9 k10 k11 k12 HT HN7
  go_loopw [6, 49] (fun _ i wr => ∃ k : Nat, k ≤ 4 ∧ i = .int .i64 k ∧ WrS wr base p lim (wput lim st7 ((tx.take k).flatMap strB)) (op ++ [n]) ∧ Wk base w wr ∧ Blk wr g 9 (strL tx).toArray) (fun _ i _ => 4 - (intOf i).toNat)
  case atStart =>
    refine ⟨0, by omega, rfl, ?_, HB8.out, HTB.out⟩
    have h := HS8.out
    rw [List.take_zero, List.flatMap_nil]
    have e : wput lim st7 [] = st7 := by
      obtain ⟨bv, l, ov, op', err, h, hs⟩ := h
      cases hs7 : st7 with
      | none => rfl
      | some l' =>
        rw [hs7] at hs
        obtain ⟨-, rfl, -⟩ := hs
        rw [wput_len (by simpa using h.len), List.append_nil]
    rw [e]
    exact h
  case round =>
    obtain ⟨k, hk, rfl, hs, hb, hg⟩ := hrel
    have HSR := Lib.hid hs; clear hs
    have HBR := Lib.hid hb; clear hb
    have HGR := Lib.hid hg; clear hg
    by_cases hlt : k < 4
    · obtain ⟨x, hx⟩ : ∃ x, tx[k]? = some x := ⟨tx[k]'(by rw [HTL.out]; exact hlt), List.getElem?_eq_getElem _⟩
      have kx : wr.cell? ⟨g, k, none⟩ = some (.string x) := by
        rw [HGR.out.cell k]
        simp [hx]
      have HX := Lib.hid hx
      have hxg := HTG.out x (List.mem_of_getElem? hx)
      have HXG := Lib.hid hxg
      clear hx hxg
      go_wp2_with fail
      refine (wrText_calls x (HR.out.low HBR.out.low h8) HXG.out.2 HSR.out).mono ?_
      rintro e w10 ⟨rfl, hs, hb⟩
      have HSX := Lib.hid hs
      have HBX := Lib.hid (HBR.out.trans hb)
      have HGX := Lib.hid (hb.blk HGR.out (by decide) (by decide) (by decide))
      clear hs hb kx
      go_wp2_with fail
      go_roundw
      case rel =>
        refine ⟨k + 1, by omega, by go_num, ?_, HBX.out, HGX.out⟩
        have h := HSX.out
        rw [wtext_good HXG.out.1 hlim, wput_wput] at h
        rw [List.take_add_one, HX.out, Option.toList_some, List.flatMap_append, List.flatMap_singleton]
        exact h
      case measure => simp [intOf]; omega
    · have hk4 : k = 4 := by omega
      subst hk4
      have hfin : wput lim st7 ((tx.take 4).flatMap strB) = wput lim (wput lim st [0, 0]) (recB s) := by
        rw [List.take_of_length_le (Nat.le_of_eq HTL.out), HTX.out, HST.out]
        simp only [wput_wput, List.flatMap_cons, List.flatMap_nil, List.append_nil]
        unfold recB
        simp only [List.append_assoc]
      have HSF := Lib.hid (show WrS wr base p lim (wput lim (wput lim st [0, 0]) (recB s)) (op ++ [n]) from by rw [← hfin]; exact HSR.out)
      clear HSR hfin
      go_wp2_with fail
      refine (wrShut_calls n HN16.out HSF.out (fun l hl => by
        obtain ⟨l0, h0, rfl, -⟩ := wput_some hl
        rw [List.length_append, HNN.out l0 h0]
        omega)).mono ?_
      rintro e w11 ⟨rfl, hs, hb⟩
      have HSX := Lib.hid hs
      have HBX := Lib.hid (HBR.out.trans hb)
      clear hs hb
      go_wp2_with fail
      go_end0
      refine ⟨rfl, ?_, HBX.out⟩
      rw [statB_rec, ← wshut_wput HNN.out hlim]
      exact HSX.out
theorem statB_big {s : Sta} : (statB s).length = stSize s := statB_len s
set_option maxRecDepth 100000 in
set_option maxHeartbeats 3200000 in
theorem putStat_calls {w : World} {base p lim : Nat} {st : Option (List UInt8)} {op : List Nat} (s : Sta) (hs : s.ok) (hg : s.good = true) (hz : stSize s ≤ 1099511627776) (hr : Ready w) (h8 : 8 ≤ base) (hlim : lim ≤ 65536) (h : WrS w base p lim st op) (hop : op.length < 15) :
    Calls Tryz.prog 235 #[.pointer (some ⟨p, 0, none⟩), stV s] w fun e w' => e = .returned (.tuple #[]) ∧ WrS w' base p lim (wput lim st (le 2 (stSize s) ++ statB s)) op ∧ Wk base w w' := by
  have HS := Lib.hid (h.below ((Below.refl _ _).alloc (Nat.le_refl _) (.cells #[.int .u16 (s.type : Int), .int .u32 (s.dev : Int), .int .u8 (s.qid.kind : Int), .int .u32 (s.qid.vers : Int), .int .u64 (s.qid.path : Int), .int .u32 (s.mode : Int), .int .u32 (s.atime : Int), .int .u32 (s.mtime : Int), .int .u64 (s.length : Int), .string s.name, .string s.uid, .string s.gid, .string s.muid] 39)))
  have HB := Lib.hid ((Wk.refl base w).alloc h.le (.cells #[.int .u16 (s.type : Int), .int .u32 (s.dev : Int), .int .u8 (s.qid.kind : Int), .int .u32 (s.qid.vers : Int), .int .u64 (s.qid.path : Int), .int .u32 (s.mode : Int), .int .u32 (s.atime : Int), .int .u32 (s.mtime : Int), .int .u64 (s.length : Int), .string s.name, .string s.uid, .string s.gid, .string s.muid] 39))
  have HN := Lib.hid (Blk.new w 39 #[.int .u16 (s.type : Int), .int .u32 (s.dev : Int), .int .u8 (s.qid.kind : Int), .int .u32 (s.qid.vers : Int), .int .u64 (s.qid.path : Int), .int .u32 (s.mode : Int), .int .u32 (s.atime : Int), .int .u32 (s.mtime : Int), .int .u64 (s.length : Int), .string s.name, .string s.uid, .string s.gid, .string s.muid])
  have HR := Lib.hid hr
  have HOP := Lib.hid hop
  have HOK := Lib.hid (And.intro hs (And.intro hg hz))
  clear h hr hop hs hg hz
  unfold stV
  go_enter Tryz.func235, Tryz.ntmps235
  go_upto_region 1 with (fail)
  generalize w.alloc (.cells #[.int .u16 (s.type : Int), .int .u32 (s.dev : Int), .int .u8 (s.qid.kind : Int), .int .u32 (s.qid.vers : Int), .int .u64 (s.qid.path : Int), .int .u32 (s.mode : Int), .int .u32 (s.atime : Int), .int .u32 (s.mtime : Int), .int .u64 (s.length : Int), .string s.name, .string s.uid, .string s.gid, .string s.muid] 39) = w0 at HS HB HN ⊢
  generalize w.heap.size = q at HN ⊢
  go_wp2_with fail
  refine (wrOpen_calls HS.out (by have := HOP.out; omega)).mono ?_
  rintro e w1 ⟨⟨n, rfl, hs, hn16, hn⟩, hb⟩
  have HNN := Lib.hid hn
  have HN16 := Lib.hid hn16; clear hn16
  have HS0 := Lib.hid hs
  have HN0 := Lib.hid (hb.blk HN.out (by decide) (by decide) (by decide))
  have HB0 := Lib.hid (HB.out.trans hb); clear hs hb hn HS HN HB
  go_wp2_with (refine wlw HN0.out 0 (stL s) rfl rfl _ _ rfl rfl _ Tryz.underlying39 rfl stat_size ?_)
  refine (put_calls s HOK.out.1 HOK.out.2.1 HOK.out.2.2 (HR.out.low HB0.out.low h8) h8 hlim HS0.out (by rw [List.length_append]; have := HOP.out; simp; omega)).mono ?_
  rintro e w2 ⟨rfl, hs, hb⟩
  have HS1 := Lib.hid hs
  have HB1 := Lib.hid (HB0.out.trans hb); clear hs hb HS0 HB0 HN0
  go_wp2_with fail
  refine (wrShut_calls n HN16.out HS1.out (fun l hl => by
        obtain ⟨l0, h0, rfl, -⟩ := wput_some hl
        rw [List.length_append, HNN.out l0 h0]
        omega)).mono ?_
  rintro e w11 ⟨rfl, hs, hb⟩
  have HSX := Lib.hid hs
  have HBX := Lib.hid (HB1.out.trans hb)
  clear hs hb
  go_wp2_with fail
  go_end0
  refine ⟨rfl, ?_, HBX.out⟩
  rw [← statB_len s, ← wshut_wput HNN.out hlim]
  exact HSX.out
theorem strs_len (l : List ByteArray) (k : Nat) (x : ByteArray) (hx : l[k]? = some x) : (l.take (k + 1)).flatMap strB = (l.take k).flatMap strB ++ strB x := by
  rw [List.take_add_one, hx, Option.toList_some, List.flatMap_append, List.flatMap_singleton]
theorem Nams.at_ {w : World} {B : Nat} {A : Option Addr} {n c : Nat} {l : List ByteArray} (h : Nams w B (.slice A n c) l) {k : Nat} {x : ByteArray} (hx : l[k]? = some x) : ∃ ad, A = some ad ∧ ad.block < B ∧ w.cell? (ad.add k) = some (.string x) := by
  obtain ⟨A', c', e, -, -, hr⟩ := h
  injection e with e1 e2 e3
  subst e1
  have hk : k < l.length := (List.getElem?_eq_some_iff.1 hx).1
  obtain ⟨ad, u, h1, h2, h3, h4⟩ := hr.at_ hk
  refine ⟨ad, h1, h2, h4.trans ?_⟩
  rw [strL, List.getElem?_map, hx] at h3
  exact h3.symm ▸ rfl
set_option maxRecDepth 100000 in
set_option maxHeartbeats 1600000 in
theorem putListS_calls {w : World} {base p lim : Nat} {st : Option (List UInt8)} {op : List Nat} (vn : Value) (l : List ByteArray) (hl : Nams w base vn l) (h16 : l.length ≤ 65535) (hg : ∀ x ∈ l, good x = true ∧ x.size ≤ 1099511627776) (hr : Ready w) (h8 : 8 ≤ base) (hlim : lim ≤ 65536) (h : WrS w base p lim st op) :
    Calls Tryz.prog 211 #[.pointer (some ⟨p, 0, none⟩), vn, .func (.func 135) #[.pointer (some ⟨p, 0, none⟩)] #[]] w fun e w' => e = .returned (.tuple #[]) ∧ WrS w' base p lim (wput lim st (le 2 l.length ++ l.flatMap strB)) op ∧ Wk base w w' := by
  have HL := Lib.hid hl
  obtain ⟨A, c, rfl, hc, hm, -⟩ := hl
  have HR := Lib.hid hr
  have HG := Lib.hid hg
  have HS := Lib.hid h
  clear hr hg h
  go_enter Tryz.func211, Tryz.ntmps211
  go_wp2_with fail
  refine (wrU16_calls l.length (by omega) HS.out).mono ?_
  rintro e w1 ⟨rfl, hs, hb⟩
  have HS1 := Lib.hid hs
  have HB1 := Lib.hid hb
  clear hs hb HS
  go_upto_region 2 with (fail)
  go_loopw [7, 15] (fun _ i wr => ∃ k : Nat, k ≤ l.length ∧ i = .int .i64 k ∧ WrS wr base p lim (wput lim st (le 2 l.length ++ (l.take k).flatMap strB)) op ∧ Wk base w wr) (fun _ i _ => l.length - (intOf i).toNat)
  case atStart =>
    refine ⟨0, by omega, rfl, ?_, HB1.out⟩
    rw [List.take_zero, List.flatMap_nil, List.append_nil]
    exact HS1.out
  case round =>
    obtain ⟨k, hk, rfl, hs, hb⟩ := hrel
    have HSR := Lib.hid hs; clear hs
    have HBR := Lib.hid hb; clear hb
    by_cases hlt : k < l.length
    · obtain ⟨x, hx⟩ : ∃ x, l[k]? = some x := ⟨l[k], List.getElem?_eq_getElem _⟩
      obtain ⟨ad, rfl, hab, kx⟩ := (HL.out.below HBR.out.low).at_ hx
      have HX := Lib.hid hx
      have HXG := Lib.hid (HG.out x (List.mem_of_getElem? hx))
      clear hx hab
      go_wp2_with fail
      refine (wrText_calls x (HR.out.low HBR.out.low h8) HXG.out.2 HSR.out).mono ?_
      rintro e w10 ⟨rfl, hs, hb⟩
      have HSX := Lib.hid hs
      have HBX := Lib.hid (HBR.out.trans hb)
      clear hs hb kx
      go_wp2_with fail
      go_roundw
      case rel =>
        refine ⟨k + 1, by omega, by go_num, ?_, HBX.out⟩
        have h := HSX.out
        rw [wtext_good HXG.out.1 hlim, wput_wput, List.append_assoc, ← strs_len l k x HX.out] at h
        exact h
      case measure => simp [intOf]; omega
    · have hkl : k = l.length := by omega
      subst hkl
      have HSF := Lib.hid (show WrS wr base p lim (wput lim st (le 2 l.length ++ l.flatMap strB)) op from by have h := HSR.out; rw [List.take_length] at h; exact h)
      clear HSR
      go_wp2_with fail
      go_end0
      exact ⟨rfl, HSF.out, HBR.out⟩
/-- The closure that writes a qid: it has captured the Writer. -/
theorem lf81_calls {w : World} {base p c lim : Nat} {st : Option (List UInt8)} {op : List Nat} (q : Qd) (hq : q.ok) (hc : Blk w c 117 #[.pointer (some ⟨p, 0, none⟩)]) (h : WrS w base p lim st op) :
    Calls Tryz.prog 223 #[qdV q, .pointer (some ⟨c, 0, none⟩)] w fun e w' => e = .returned (.tuple #[]) ∧ WrS w' base p lim (wput lim st (qidB q)) op ∧ Wk base w w' := by
  have HS := Lib.hid (h.below ((Below.refl _ _).alloc (Nat.le_refl _) (.cells #[.int .u8 (q.kind : Int), .int .u32 (q.vers : Int), .int .u64 (q.path : Int)] 37)))
  have HB := Lib.hid ((Wk.refl base w).alloc h.le (.cells #[.int .u8 (q.kind : Int), .int .u32 (q.vers : Int), .int .u64 (q.path : Int)] 37))
  have HN := Lib.hid (Blk.new w 37 #[.int .u8 (q.kind : Int), .int .u32 (q.vers : Int), .int .u64 (q.path : Int)])
  have HC := Lib.hid (hc.alloc (.cells #[.int .u8 (q.kind : Int), .int .u32 (q.vers : Int), .int .u64 (q.path : Int)] 37))
  have HQ := Lib.hid hq
  clear h hc hq
  unfold qdV
  go_enter Tryz.func223, Tryz.ntmps223
  go_upto_region 1 with (fail)
  generalize w.alloc (.cells #[.int .u8 (q.kind : Int), .int .u32 (q.vers : Int), .int .u64 (q.path : Int)] 37) = w1 at HS HB HN HC ⊢
  have k0 : w1.cell? ⟨w.heap.size, 0, none⟩ = _ := HN.out.cell 0
  have k1 : w1.cell? ⟨w.heap.size, 1, none⟩ = _ := HN.out.cell 1
  have k2 : w1.cell? ⟨w.heap.size, 2, none⟩ = _ := HN.out.cell 2
  have kc : w1.cell? ⟨c, 0, none⟩ = _ := HC.out.cell 0
  go_wp2_with fail
  refine (putQid_calls q HQ.out HS.out).mono ?_
  rintro e w2 ⟨rfl, hs, hb⟩
  have HS2 := Lib.hid hs
  have HB2 := Lib.hid (HB.out.trans hb); clear hs hb
  go_wp2_with fail
  go_end0
  exact ⟨rfl, HS2.out, HB2.out⟩
theorem qids_len (l : List Qd) (k : Nat) (x : Qd) (hx : l[k]? = some x) : (l.take (k + 1)).flatMap qidB = (l.take k).flatMap qidB ++ qidB x := by
  rw [List.take_add_one, hx, Option.toList_some, List.flatMap_append, List.flatMap_singleton]
theorem qidL_at : ∀ (l : List Qd) (k : Nat) (q : Qd), l[k]? = some q → (qidL l)[k * 3]? = some (.int .u8 (q.kind : Int)) ∧ (qidL l)[k * 3 + 1]? = some (.int .u32 (q.vers : Int)) ∧ (qidL l)[k * 3 + 2]? = some (.int .u64 (q.path : Int))
  | [], k, q, h => by simp at h
  | x :: l, 0, q, h => by
    simp at h
    subst h
    exact ⟨rfl, rfl, rfl⟩
  | x :: l, k + 1, q, h => by
    have := qidL_at l k q (by simpa using h)
    rw [show (k + 1) * 3 = k * 3 + 3 by omega]
    exact this
theorem Qids.at_ {w : World} {B : Nat} {A : Option Addr} {n c : Nat} {l : List Qd} (h : Qids w B (.slice A n c) l) {k : Nat} {q : Qd} (hx : l[k]? = some q) : ∃ ad, A = some ad ∧ ad.block < B ∧ w.cell? (ad.add (k * 3)) = some (.int .u8 (q.kind : Int)) ∧ w.cell? ⟨(ad.add (k * 3)).block, (ad.add (k * 3)).off + 1, none⟩ = some (.int .u32 (q.vers : Int)) ∧ w.cell? ⟨(ad.add (k * 3)).block, (ad.add (k * 3)).off + 2, none⟩ = some (.int .u64 (q.path : Int)) := by
  obtain ⟨A', c', e, -, -, hr⟩ := h
  injection e with e1 e2 e3
  subst e1
  have hk : k < l.length := (List.getElem?_eq_some_iff.1 hx).1
  obtain ⟨ad, h1, h2, h3⟩ := hr.2 (by omega)
  have hq := qidL_at l k q hx
  have e1 : (⟨(ad.add (k * 3)).block, (ad.add (k * 3)).off + 1, none⟩ : Addr) = ad.add (k * 3 + 1) := by rw [← add_of_add]; rfl
  have e2 : (⟨(ad.add (k * 3)).block, (ad.add (k * 3)).off + 2, none⟩ : Addr) = ad.add (k * 3 + 2) := by rw [← add_of_add]; rfl
  exact ⟨ad, h1, h2, h3 _ _ hq.1, by rw [e1]; exact h3 _ _ hq.2.1, by rw [e2]; exact h3 _ _ hq.2.2⟩
set_option maxRecDepth 100000 in
set_option maxHeartbeats 1600000 in
theorem putListQ_calls {w : World} {base p c lim : Nat} {st : Option (List UInt8)} {op : List Nat} (vq : Value) (l : List Qd) (hl : Qids w base vq l) (h16 : l.length ≤ 65535) (hg : ∀ x ∈ l, x.ok) (hc : Blk w c 117 #[.pointer (some ⟨p, 0, none⟩)]) (h : WrS w base p lim st op) :
    Calls Tryz.prog 222 #[.pointer (some ⟨p, 0, none⟩), vq, .func (.func 223) #[] #[.pointer (some ⟨c, 0, none⟩)]] w fun e w' => e = .returned (.tuple #[]) ∧ WrS w' base p lim (wput lim st (le 2 l.length ++ l.flatMap qidB)) op ∧ Wk base w w' := by
  have HL := Lib.hid hl
  obtain ⟨A, cp, rfl, hcp, hm, -⟩ := hl
  have HG := Lib.hid hg
  have HC := Lib.hid hc
  have HS := Lib.hid h
  clear hc hg h
  go_enter Tryz.func222, Tryz.ntmps222
  go_wp2_with fail
  refine (wrU16_calls l.length (by omega) HS.out).mono ?_
  rintro e w1 ⟨rfl, hs, hb⟩
  have HS1 := Lib.hid hs
  have HB1 := Lib.hid hb
  clear hs hb HS
  go_upto_region 2 with (fail)
  go_loopw [7, 15] (fun _ i wr => ∃ k : Nat, k ≤ l.length ∧ i = .int .i64 k ∧ WrS wr base p lim (wput lim st (le 2 l.length ++ (l.take k).flatMap qidB)) op ∧ Wk base w wr) (fun _ i _ => l.length - (intOf i).toNat)
  case atStart =>
    refine ⟨0, by omega, rfl, ?_, HB1.out⟩
    rw [List.take_zero, List.flatMap_nil, List.append_nil]
    exact HS1.out
  case round =>
    obtain ⟨k, hk, rfl, hs, hb⟩ := hrel
    have HSR := Lib.hid hs; clear hs
    have HBR := Lib.hid hb; clear hb
    by_cases hlt : k < l.length
    · obtain ⟨x, hx⟩ : ∃ x, l[k]? = some x := ⟨l[k], List.getElem?_eq_getElem _⟩
      obtain ⟨ad, rfl, hab, kx0, kx1, kx2⟩ := (HL.out.below HBR.out.low).at_ hx
      have HX := Lib.hid hx
      have HXG := Lib.hid (HG.out x (List.mem_of_getElem? hx))
      clear hx hab
      go_upto_region 4 with (fail)
      have HSA := Lib.hid (HSR.out.below ((Below.refl _ _).alloc (Nat.le_refl _) (.cells #[.int .u8 (x.kind : Int), .int .u32 (x.vers : Int), .int .u64 (x.path : Int)] 37)))
      have HBA := Lib.hid (HBR.out.alloc HSR.out.le (.cells #[.int .u8 (x.kind : Int), .int .u32 (x.vers : Int), .int .u64 (x.path : Int)] 37))
      have HN := Lib.hid (Blk.new wr 37 #[.int .u8 (x.kind : Int), .int .u32 (x.vers : Int), .int .u64 (x.path : Int)])
      have HCA := Lib.hid (HBA.out.blk HC.out (by decide) (by decide) (by decide))
      generalize wr.alloc (.cells #[.int .u8 (x.kind : Int), .int .u32 (x.vers : Int), .int .u64 (x.path : Int)] 37) = wa at HSA HBA HN HCA ⊢
      clear kx0 kx1 kx2
      generalize wr.heap.size = z at HN ⊢
      have k0 : wa.cell? ⟨z, 0, none⟩ = _ := HN.out.cell 0
      have k1 : wa.cell? ⟨z, 1, none⟩ = _ := HN.out.cell 1
      have k2 : wa.cell? ⟨z, 2, none⟩ = _ := HN.out.cell 2
      go_wp2_with fail
      refine (lf81_calls x HXG.out HCA.out HSA.out).mono ?_
      rintro e w10 ⟨rfl, hs, hb⟩
      have HSX := Lib.hid hs
      have HBX := Lib.hid (HBA.out.trans hb)
      clear hs hb k0 k1 k2
      go_wp2_with fail
      go_roundw
      case rel =>
        refine ⟨k + 1, by omega, by go_num, ?_, HBX.out⟩
        have h := HSX.out
        rw [wput_wput, List.append_assoc, ← qids_len l k x HX.out] at h
        exact h
      case measure => simp [intOf]; omega
    · have hkl : k = l.length := by omega
      subst hkl
      have HSF := Lib.hid (show WrS wr base p lim (wput lim st (le 2 l.length ++ l.flatMap qidB)) op from by have h := HSR.out; rw [List.take_length] at h; exact h)
      clear HSR
      go_wp2_with fail
      go_end0
      exact ⟨rfl, HSF.out, HBR.out⟩
end Go.Proofs.YtkblmloobkiloaaGreatDoor
