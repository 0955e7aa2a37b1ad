/-
  ADoE ADoF: what AuthDoes needs of them.
-/
import Derived.Test.YtlenlldiimohjaaGreatDoorQ18
import Derived.Great.BuildSlice
namespace Go.Proofs.YtlenlldiimohjaaGreatDoor
open Go.RowKit

/-- What Answer answers. -/
def ansS (key user tree : ByteArray) (b : List UInt8) (theirs : Nat) : List UInt8 × Int := if (heard25 b).2 = true then ((lineS key user tree ((heard25 b).1 : Int) theirs).data.toList, 0) else ([], 70)
theorem ansS_len (key user tree : ByteArray) (b : List UInt8) (theirs : Nat) : (ansS key user tree b theirs).1.length ≤ 33 := by
  unfold ansS
  split
  · rw [line33]
    exact Nat.le_refl _
  · exact Nat.zero_le _
theorem answer_any (key user tree : ByteArray) (v : Value) (b : List UInt8) (theirs B : Nat) (w : World) (h : Bys w B v b) (hB : B ≤ w.heap.size) (htz : TZ w) (hsv : SV w) (h64 : theirs < 18446744073709551616) (hk : key.size ≤ maxLen) (hu : user.size ≤ maxLen) (ht : tree.size ≤ maxLen) :
    Calls Tryz.prog 21 #[.string key, .string user, .string tree, v, .int .u64 (theirs : Int)] w fun e w' => (∃ r, e = .returned (.tuple #[r, .int .i64 (ansS key user tree b theirs).2]) ∧ OwnB w' w.heap.size r (ansS key user tree b theirs).1) ∧ Below w.heap.size w w' :=
  (answerO_calls key user tree v b theirs B w h hB htz hsv h64 hk hu ht).mono fun e w' ⟨h1, h2⟩ => ⟨by
    unfold ansS
    split at h1
    · rename_i hc
      rw [if_pos hc]
      exact h1
    · rename_i hc
      rw [if_neg hc]
      exact ⟨_, h1, OwnB.nil_ _ _⟩, h2⟩
theorem refAnswer_any (key user tree : ByteArray) (v : Value) (b : List UInt8) (theirs B : Nat) (w : World) (h : Bys w B v b) (hB : B ≤ w.heap.size) (h64 : theirs < 18446744073709551616) (hk : key.size ≤ maxLen) (hu : user.size ≤ maxLen) (ht : tree.size ≤ maxLen) :
    Calls Tryz.prog 130 #[.string key, .string user, .string tree, v, .int .u64 (theirs : Int)] w fun e w' => (∃ r, e = .returned (.tuple #[r, .int .i64 (ansS key user tree b theirs).2]) ∧ OwnB w' w.heap.size r (ansS key user tree b theirs).1) ∧ Below w.heap.size w w' :=
  (refAnswer_calls key user tree v b theirs B w h hB h64 hk hu ht).mono fun e w' ⟨h1, h2⟩ => ⟨by
    unfold ansS
    split at h1
    · rename_i hc
      rw [if_pos hc]
      exact h1
    · rename_i hc
      rw [if_neg hc]
      exact ⟨_, h1, OwnB.nil_ _ _⟩, h2⟩
/-- A list is kept: the state goes on. -/
theorem WB.keep1 {W0 w w' : World} {q gu gr : Nat} {vt vw vb vc vb' vc' v c : Value} {ts : List TalkW} {bl cl : List (Value × List UInt8)} {l : List UInt8} {B : Nat} (h : WB W0 q gu gr vt vw vb vc ts bl cl w)
    (hr : WR W0 q gu gr vt ts.length (tRow ts) vw ts.length (wRow ts) vb' (bl.length + 1) ((bl.map fun p => p.1) ++ [v]) vc' (cl.length + 1) ((cl.map fun p => p.1) ++ [c]) w') (hs : Same8 w w') (hv : OwnB w B v l) (hB : W0.heap.size ≤ B)
    (hc : OwnB w' w.heap.size c l) (hf : ∀ k, v.ownBlock = some k → Free bl k ∧ Free cl k) : WB W0 q gu gr vt vw vb' vc' ts (bl ++ [(v, l)]) (cl ++ [(c, l)]) w' := h.kept hr hs hv hB hc hf (fun _ hx => .inl hx)
theorem weight_key (o : OpD) (h : o.weight ≤ 268435456) : o.key.size ≤ 268435456 ∧ o.user.size ≤ 268435456 ∧ o.tree.size ≤ 268435456 ∧ o.b.length ≤ 268435456 ∧ o.c.length ≤ 268435456 ∧ o.l.length ≤ 268435456 := by
  unfold OpD.weight at h
  omega
set_option maxRecDepth 100000 in
set_option maxHeartbeats 12800000 in
/-- Answer and Confirms. -/
theorem lclient_calls {W0 w : World} {q gu gr lo n m : Nat} {L : List Acct} (hd : DT W0 gu gr L) (h : DW W0 q gu gr lo n m (fun _ => False) w) (o : OpD) (v : OpV) (hok : OpOk W0 W0.heap.size o v) (hw : o.weight ≤ 268435456) (hm : m ≤ 268435456) :
    Calls Tryz.prog 92 #[.pointer (some ⟨q, 0, none⟩), opV o v] w fun e w' => e = .returned (.bool true) ∧ DW W0 q gu gr lo n (m + 2) (fun _ => False) w' := by
  obtain ⟨hk, hu, ht, hb28, hc28, -⟩ := weight_key o hw
  have HD := Lib.hid hd
  have HB28 := Lib.hid hb28
  have HC28 := Lib.hid hc28
  have HK := Lib.hid (show o.key.size ≤ maxLen from by unfold maxLen; omega)
  have HU := Lib.hid (show o.user.size ≤ maxLen from by unfold maxLen; omega)
  have HTR := Lib.hid (show o.tree.size ≤ maxLen from by unfold maxLen; omega)
  have HS64 := Lib.hid hok.2.2.2.2.2.2
  have HBY := Lib.hid hok.2.2.1
  have HCY := Lib.hid hok.2.2.2.1
  have HB47 := Lib.hid (show o.b.length ≤ 1099511627776 from by omega)
  have HC47 := Lib.hid (show o.c.length ≤ 1099511627776 from by omega)
  have HDW := Lib.hid h
  have HM := Lib.hid hm
  clear hd hok hk hu ht hb28 hc28 h hw hm
  have HB1 := Lib.hid ((Below.refl w.heap.size w).alloc (Nat.le_refl _) (Obj.cells (opL o v).toArray 92))
  have HO1 := Lib.hid (show OBlk (w.alloc (Obj.cells (opL o v).toArray 92)) w.heap.size o v from Blk.new w _ _)
  go_enter Tryz.func92, Tryz.ntmps92
  go_upto_region 1 with (fail)
  change Code.wp _ _ _ _ (w.alloc (Obj.cells (opL o v).toArray 92))
  generalize w.alloc (Obj.cells (opL o v).toArray 92) = w1 at HB1 HO1 ⊢
  generalize w.heap.size = ob at HO1 ⊢
  have HD1 := Lib.hid (HDW.out.call HB1.out)
  have HLOW1 := Lib.hid HD1.out.low
  have k9 : w1.cell? ⟨ob, 9, none⟩ = some (v.b) := Blk.cell HO1.out 9
  go_upto_region 2 with (go_at_call 125; (with_reducible refine (lent_calls v.b o.b _ ((HBY.out.below HLOW1.out).more HLOW1.out.size) HB47.out).mono ?_); rintro e w2 ⟨⟨ub, rfl, hlb⟩, hb⟩; have HLB := Lib.hid hlb; have HB2 := Lib.hid hb; clear hlb hb)
  clear k9
  obtain ⟨gb, rfl, hgb⟩ : ∃ gb, ub = .slice (some ⟨gb, 0, none⟩) o.b.length (o.b.length + 3) ∧ w1.heap.size ≤ gb := by obtain ⟨g, e, h1, -⟩ := HLB.out; exact ⟨g, e, h1⟩
  have HO2 := Lib.hid (HO1.out.below HB2.out)
  have k10 : w2.cell? ⟨ob, 10, none⟩ = some (v.c) := Blk.cell HO2.out 10
  have HCY2 := Lib.hid ((HCY.out.below HLOW1.out).below (HB2.out.mono HLOW1.out.size) |>.more (Nat.le_trans HLOW1.out.size HB2.out.size))
  go_upto_region 3 with (go_at_call 125; (with_reducible refine (lent_calls v.c o.c _ HCY2.out HC47.out).mono ?_); rintro e w3 ⟨⟨uc, rfl, hlc⟩, hb⟩; have HLC := Lib.hid hlc; have HB3 := Lib.hid hb; clear hlc hb)
  clear k10
  obtain ⟨gc, rfl, hgc⟩ : ∃ gc, uc = .slice (some ⟨gc, 0, none⟩) o.c.length (o.c.length + 3) ∧ w2.heap.size ≤ gc := by obtain ⟨g, e, h1, -⟩ := HLC.out; exact ⟨g, e, h1⟩
  have HO3 := Lib.hid (HO2.out.below HB3.out)
  have HLB3 := Lib.hid (HLB.out.below HB3.out)
  have HGB := Lib.hid HLB3.out.lt_
  have HDW3 := Lib.hid (((HD1.out.away hgb).call HB2.out).call HB3.out)
  have HWW := Lib.hid (show W0.heap.size ≤ w1.heap.size from HLOW1.out.size)
  have HWW3 := Lib.hid (show W0.heap.size ≤ w3.heap.size from HDW3.out.low.size)
  clear HO1 HO2 HLB HD1 HB2 HB3 HCY2 HDW hgb hgc HB1
  obtain ⟨vt, vw, vb, vc, ts, bl, cl, hwb, hag, hlen, htk, hlo, hnn, hmm, haw⟩ := HDW3.out
  have HW3 := Lib.hid hwb
  have HAG := Lib.hid hag
  have HLN := Lib.hid hlen
  have HTK := Lib.hid htk
  have HNM := Lib.hid (And.intro hlo (And.intro hnn hmm))
  have HAW := Lib.hid (haw gb (.inr rfl))
  clear hwb hag hlen htk hlo hnn hmm haw HDW3
  have HN2 := Lib.hid (show bl.length ≤ 1073741824 from by have := HNM.out.2.2; have := HM.out; omega)
  have HN3 := Lib.hid (show cl.length ≤ 1073741824 from by rw [← HAG.out.len]; exact HN2.out)
  have HD3 := Lib.hid (HD.out.below HW3.out.r.low)
  have k0 : w3.cell? ⟨ob, 0, none⟩ = some (.int .i64 o.kind) := Blk.cell HO3.out 0
  have k3 : w3.cell? ⟨ob, 3, none⟩ = some (.string o.key) := Blk.cell HO3.out 3
  have k4 : w3.cell? ⟨ob, 4, none⟩ = some (.string o.user) := Blk.cell HO3.out 4
  have k5 : w3.cell? ⟨ob, 5, none⟩ = some (.string o.tree) := Blk.cell HO3.out 5
  have k6 : w3.cell? ⟨ob, 6, none⟩ = some (.int .u64 (o.seed : Int)) := Blk.cell HO3.out 6
  cases hk7 : (o.kind == 7) with
  | true =>
    go_upto_region 4 with (fail)
    obtain ⟨A, hA⟩ : ∃ z, ansS o.key o.user o.tree o.b o.seed = z := ⟨_, rfl⟩
    have HA1 := Lib.hid hA
    have HAL := Lib.hid (show A.1.length ≤ 33 from by rw [← hA]; exact ansS_len _ _ _ _ _)
    clear hA hk7
    have HBB3 := Lib.hid (HLB3.out.bys HB47.out)
    go_upto_region 5 with (go_at_call 21; (with_reducible refine (answer_any o.key o.user o.tree (.slice (some ⟨gb, 0, none⟩) o.b.length (o.b.length + 3)) o.b o.seed w3.heap.size _ HBB3.out (Nat.le_refl _) HD3.out.tz HD3.out.sv HS64.out HK.out HU.out HTR.out).mono ?_); rw [HA1.out]; rintro e w4 ⟨⟨r1, rfl, hr1⟩, hb⟩; have HR1 := Lib.hid hr1; have HB4 := Lib.hid hb; clear hr1 hb)
    clear k0 k3 k4 k5 k6
    obtain ⟨rA, rc, rfl⟩ := HR1.out.val
    have HO4 := Lib.hid (HO3.out.below HB4.out)
    have HLB4 := Lib.hid (HLB3.out.below HB4.out)
    have HLC4 := Lib.hid (HLC.out.below HB4.out)
    have HW4 := Lib.hid (HW3.out.call HB4.out)
    have HBY4 := Lib.hid (HBY.out.below HW4.out.r.low)
    have HWW4 := Lib.hid HW4.out.r.low.size
    have k3 : w4.cell? ⟨ob, 3, none⟩ = some (.string o.key) := Blk.cell HO4.out 3
    have k4 : w4.cell? ⟨ob, 4, none⟩ = some (.string o.user) := Blk.cell HO4.out 4
    have k5 : w4.cell? ⟨ob, 5, none⟩ = some (.string o.tree) := Blk.cell HO4.out 5
    have k6 : w4.cell? ⟨ob, 6, none⟩ = some (.int .u64 (o.seed : Int)) := Blk.cell HO4.out 6
    have k9 : w4.cell? ⟨ob, 9, none⟩ = some (v.b) := Blk.cell HO4.out 9
    go_upto_region 6 with (go_at_call 130; (with_reducible refine (refAnswer_any o.key o.user o.tree v.b o.b o.seed W0.heap.size _ HBY4.out HWW4.out HS64.out HK.out HU.out HTR.out).mono ?_); rw [HA1.out]; rintro e w5 ⟨⟨y1, rfl, hy1⟩, hb⟩; have HY1 := Lib.hid hy1; have HB5 := Lib.hid hb; clear hy1 hb)
    clear k3 k4 k5 k6 k9
    have HO5 := Lib.hid (HO4.out.below HB5.out)
    have HLB5 := Lib.hid (HLB4.out.below HB5.out)
    have HLC5 := Lib.hid (HLC4.out.below HB5.out)
    have HW5 := Lib.hid (HW4.out.call HB5.out)
    have HR5 := Lib.hid (HR1.out.below HB5.out)
    have hc1 := conv_any HR5.out.bys
    have hc2 := conv_any HY1.out.bys
    clear HO4 HLB4 HLC4 HW4 HBY4 HR1 HO3
    go_upto_region 7 with (fail)
    clear hc1 hc2 HY1 HB5
    go_upto_region 8 with (go_at_call 80; (with_reducible refine (keeps_calls HW5.out.r w3.heap.size (.slice rA A.1.length rc) A.1 HR5.out (by have := HAL.out; omega) HN2.out HN3.out).mono ?_); rintro e w6 ⟨rfl, vb6, vc6, c6, hr6, hc6, hs6⟩; have HR6 := Lib.hid hr6; have HC6 := Lib.hid hc6; have HS6 := Lib.hid hs6; clear hr6 hc6 hs6)
    have HO6 := Lib.hid (show OBlk w6 ob o v from HS6.out.blk rfl HO5.out)
    have HLB6 := Lib.hid (HLB5.out.same8 HS6.out.s8)
    have HLC6 := Lib.hid (HLC5.out.same8 HS6.out.s8)
    have HW6 := Lib.hid (HW5.out.keep1 HR6.out HS6.out.s8 HR5.out HWW3.out HC6.out (fun j hj => ⟨HW3.out.ob.lt (HR5.out.lt j hj).1, HW3.out.oc.lt (HR5.out.lt j hj).1⟩))
    have HAW6 := Lib.hid (HAW.out.snoc (v := .slice rA A.1.length rc) (c := c6) (l := A.1) (fun hh => by have h1 := (HR5.out.lt gb hh).1; have h2 := HGB.out; omega) (fun hh => by have h1 := (HC6.out.lt gb hh).1; have h2 := HLB5.out.lt_; omega))
    have HBY6 := Lib.hid ((HBY.out.below HW6.out.r.low).more HW6.out.r.low.size)
    clear HO5 HLB5 HLC5 HW5 HR6 HC6 HS6 HR5
    have k9 : w6.cell? ⟨ob, 9, none⟩ = some (v.b) := Blk.cell HO6.out 9
    go_upto_region 9 with (go_at_call 86; (with_reducible refine (left_calls w1.heap.size (.slice (some ⟨gb, 0, none⟩) o.b.length (o.b.length + 3)) v.b o.b _ HLB6.out HBY6.out HB47.out).mono ?_); rintro e w7 ⟨rfl, rfl⟩)
    clear k9
    have HCY6 := Lib.hid (HCY.out.below HW6.out.r.low)
    have k10 : w6.cell? ⟨ob, 10, none⟩ = some (v.c) := Blk.cell HO6.out 10
    go_upto_region 10 with (go_at_call 87; (with_reducible refine (over_calls W0.heap.size w1.heap.size (.slice (some ⟨gb, 0, none⟩) o.b.length (o.b.length + 3)) v.c o.b o.c _ HLB6.out HCY6.out HWW.out HB47.out).mono ?_); rintro e w7 ⟨rfl, hl7, hgr⟩; have HG7 := Lib.hid (show w6.grownBy w7 (some gb) from hgr); have HLB7 := Lib.hid hl7; clear hl7 hgr)
    clear k10
    have HW7 := Lib.hid (HW6.out.over_ HLB6.out HWW.out HAW6.out HG7.out)
    have HO7 := Lib.hid (show OBlk w7 ob o v from Blk.grown HO6.out HG7.out (fun hh => by obtain ⟨g', e, -, hb⟩ := HLB6.out; injection e with e; injection e with e; injection e with e; injection hh with hh; exact Blk.ne_ HO6.out hb (by decide) (hh.trans e)))
    have HD7 := Lib.hid (HD.out.below HW7.out.r.low)
    clear HW6 HO6 HLB6 HG7 HCY6 HBY6
    obtain ⟨A2, hA2⟩ : ∃ z, ansS o.key o.user o.tree (overS o.b o.c) o.seed = z := ⟨_, rfl⟩
    have HA2 := Lib.hid hA2
    have HAL2 := Lib.hid (show A2.1.length ≤ 33 from by rw [← hA2]; exact ansS_len _ _ _ _ _)
    clear hA2
    have HBB7 := Lib.hid (show Bys w7 w7.heap.size (.slice (some ⟨gb, 0, none⟩) o.b.length (o.b.length + 3)) (overS o.b o.c) from HLB7.out.bys (by rw [overS_len]; exact HB47.out))
    have k3 : w7.cell? ⟨ob, 3, none⟩ = some (.string o.key) := Blk.cell HO7.out 3
    have k4 : w7.cell? ⟨ob, 4, none⟩ = some (.string o.user) := Blk.cell HO7.out 4
    have k5 : w7.cell? ⟨ob, 5, none⟩ = some (.string o.tree) := Blk.cell HO7.out 5
    have k6 : w7.cell? ⟨ob, 6, none⟩ = some (.int .u64 (o.seed : Int)) := Blk.cell HO7.out 6
    go_upto_region 11 with (go_at_call 21; (with_reducible refine (answer_any o.key o.user o.tree (.slice (some ⟨gb, 0, none⟩) o.b.length (o.b.length + 3)) (overS o.b o.c) o.seed w7.heap.size _ HBB7.out (Nat.le_refl _) HD7.out.tz HD7.out.sv HS64.out HK.out HU.out HTR.out).mono ?_); rw [HA2.out]; rintro e w8 ⟨⟨r2, rfl, hr2⟩, hb⟩; have HR2 := Lib.hid hr2; have HB8 := Lib.hid hb; clear hr2 hb)
    clear k3 k4 k5 k6
    obtain ⟨sA, sc, rfl⟩ := HR2.out.val
    have HO8 := Lib.hid (HO7.out.below HB8.out)
    have HW8 := Lib.hid (HW7.out.call HB8.out)
    have HBB8 := Lib.hid ((HBB7.out.below HB8.out).more HB8.out.size)
    have k3 : w8.cell? ⟨ob, 3, none⟩ = some (.string o.key) := Blk.cell HO8.out 3
    have k4 : w8.cell? ⟨ob, 4, none⟩ = some (.string o.user) := Blk.cell HO8.out 4
    have k5 : w8.cell? ⟨ob, 5, none⟩ = some (.string o.tree) := Blk.cell HO8.out 5
    have k6 : w8.cell? ⟨ob, 6, none⟩ = some (.int .u64 (o.seed : Int)) := Blk.cell HO8.out 6
    go_upto_region 12 with (go_at_call 130; (with_reducible refine (refAnswer_any o.key o.user o.tree (.slice (some ⟨gb, 0, none⟩) o.b.length (o.b.length + 3)) (overS o.b o.c) o.seed w8.heap.size _ HBB8.out (Nat.le_refl _) HS64.out HK.out HU.out HTR.out).mono ?_); rw [HA2.out]; rintro e w9 ⟨⟨y2, rfl, hy2⟩, hb⟩; have HY2 := Lib.hid hy2; have HB9 := Lib.hid hb; clear hy2 hb)
    clear k3 k4 k5 k6
    obtain ⟨yA, yc, rfl⟩ := HY2.out.val
    have HW9 := Lib.hid (HW8.out.call HB9.out)
    have HR9 := Lib.hid (HR2.out.below HB9.out)
    have HN4 := Lib.hid (show (bl ++ [(Value.slice rA A.1.length rc, A.1)]).length ≤ 1073741824 from by rw [List.length_append, List.length_singleton]; have := HNM.out.2.2; have := HM.out; omega)
    have HN5 := Lib.hid (show (cl ++ [(c6, A.1)]).length ≤ 1073741824 from by rw [List.length_append, List.length_singleton, ← HAG.out.len]; have := HNM.out.2.2; have := HM.out; omega)
    go_upto_region 13 with (go_at_call 80; (with_reducible refine (keeps_calls HW9.out.r w7.heap.size (.slice sA A2.1.length sc) A2.1 HR9.out (by have := HAL2.out; omega) HN4.out HN5.out).mono ?_); rintro e wA ⟨rfl, vbA, vcA, cA, hrA, hcA, hsA⟩; have HRA := Lib.hid hrA; have HCA := Lib.hid hcA; have HSA := Lib.hid hsA; clear hrA hcA hsA)
    have HWA := Lib.hid (HW9.out.keep1 HRA.out HSA.out.s8 HR9.out HW7.out.r.low.size HCA.out (fun j hj => ⟨HW7.out.ob.lt (HR9.out.lt j hj).1, HW7.out.oc.lt (HR9.out.lt j hj).1⟩))
    have hc1 := conv_any (HR9.out.same8 HSA.out.s8).bys
    have hc2 := conv_any (HY2.out.same8 HSA.out.s8).bys
    have HE := Lib.hid (show DW W0 q gu gr lo n (m + 2) (fun _ => False) wA from ⟨vt, vw, vbA, vcA, ts, _, _, HWA.out, (HAG.out.snoc _ c6 A.1).snoc _ cA A2.1, snoc_all (snoc_all HLN.out (by have := HAL.out; omega)) (by have := HAL2.out; omega), HTK.out, HNM.out.1, HNM.out.2.1, by rw [List.length_append, List.length_append, List.length_singleton, List.length_singleton]; have := HNM.out.2.2; omega, fun g hg => hg.elim⟩)
    clear HW9 HRA HCA HSA HWA
    go_wp2_with fail
    go_ret
    exact ⟨rfl, HE.out⟩
  | false =>
    go_upto_region 14 with (fail)
    clear hk7 k0
    obtain ⟨d, hd⟩ : ∃ z, confS o.key o.user o.tree o.b (o.seed : Int) o.c = z := ⟨_, rfl⟩
    have HCF := Lib.hid hd
    clear hd
    have HBB3 := Lib.hid (HLB3.out.bys HB47.out)
    have HBC3 := Lib.hid (HLC.out.bys HC47.out)
    go_upto_region 15 with (go_at_call 23; (with_reducible refine (confirms_calls o.key o.user o.tree (.slice (some ⟨gb, 0, none⟩) o.b.length (o.b.length + 3)) (.slice (some ⟨gc, 0, none⟩) o.c.length (o.c.length + 3)) o.b o.c (o.seed : Int) w3.heap.size _ HBB3.out HBC3.out (Nat.le_refl _) HD3.out.tz HD3.out.sv HK.out HU.out HTR.out).mono ?_); rw [HCF.out]; rintro e w4 ⟨rfl, hb⟩; have HB4 := Lib.hid hb; clear hb)
    clear k3 k4 k5 k6
    have HO4 := Lib.hid (HO3.out.below HB4.out)
    have HLB4 := Lib.hid (HLB3.out.below HB4.out)
    have HLC4 := Lib.hid (HLC.out.below HB4.out)
    have HW4 := Lib.hid (HW3.out.call HB4.out)
    have HBY4 := Lib.hid (HBY.out.below HW4.out.r.low)
    have HCY4 := Lib.hid (HCY.out.below HW4.out.r.low)
    have HWW4 := Lib.hid HW4.out.r.low.size
    have HBM4 := Lib.hid (HBY4.out.more HWW4.out)
    have HCM4 := Lib.hid (HCY4.out.more HWW4.out)
    have k9 : w4.cell? ⟨ob, 9, none⟩ = some (v.b) := Blk.cell HO4.out 9
    have k10 : w4.cell? ⟨ob, 10, none⟩ = some (v.c) := Blk.cell HO4.out 10
    go_upto_region 17 with (first
      | (go_at_call 86; (with_reducible refine (left_calls w1.heap.size (.slice (some ⟨gb, 0, none⟩) o.b.length (o.b.length + 3)) v.b o.b _ HLB4.out HBM4.out HB47.out).mono ?_); rintro e w7 ⟨rfl, rfl⟩)
      | (go_at_call 86; (with_reducible refine (left_calls w2.heap.size (.slice (some ⟨gc, 0, none⟩) o.c.length (o.c.length + 3)) v.c o.c _ HLC4.out HCM4.out HC47.out).mono ?_); rintro e w7 ⟨rfl, rfl⟩))
    clear k9 k10
    have k3 : w4.cell? ⟨ob, 3, none⟩ = some (.string o.key) := Blk.cell HO4.out 3
    have k4 : w4.cell? ⟨ob, 4, none⟩ = some (.string o.user) := Blk.cell HO4.out 4
    have k5 : w4.cell? ⟨ob, 5, none⟩ = some (.string o.tree) := Blk.cell HO4.out 5
    have k6 : w4.cell? ⟨ob, 6, none⟩ = some (.int .u64 (o.seed : Int)) := Blk.cell HO4.out 6
    have k9 : w4.cell? ⟨ob, 9, none⟩ = some (v.b) := Blk.cell HO4.out 9
    have k10 : w4.cell? ⟨ob, 10, none⟩ = some (v.c) := Blk.cell HO4.out 10
    go_wp2_with (go_at_call 131; (with_reducible refine (refConfirms_calls o.key o.user o.tree v.b v.c o.b o.c (o.seed : Int) W0.heap.size _ HBY4.out HCY4.out HWW4.out HK.out HU.out HTR.out).mono ?_); rw [HCF.out]; rintro e w5 ⟨rfl, hb⟩; have HE := Lib.hid (show DW W0 q gu gr lo n (m + 2) (fun _ => False) w5 from ⟨vt, vw, vb, vc, ts, bl, cl, HW4.out.call hb, HAG.out, HLN.out, HTK.out, HNM.out.1, HNM.out.2.1, by have := HNM.out.2.2; omega, fun g hg => hg.elim⟩); clear hb)
    go_ret
    exact ⟨by simp, HE.out⟩
end Go.Proofs.YtlenlldiimohjaaGreatDoor
namespace Go.Proofs.YtlenlldiimohjaaGreatDoor
open Go.RowKit SumLaw

theorem refOurs_calls (n a c : Int) (w : World) (hn : IntKind.u64.wrap n = n) :
    Calls Tryz.prog 84 #[.int .u64 n, .int .i64 a, .int .i64 c] w fun e w' => e = .returned (.int .u64 (sumZ [] [n, a, c])) ∧ Below w.heap.size w w' := by
  have h1 : sumZ [] [n, IntKind.u64.wrap a, IntKind.u64.wrap c] = sumZ [] [n, a, c] := by
    have := sumZ_wrap [] [n, a, c]
    simpa [hn] using this
  have H1 := Lib.hid h1; clear h1 hn
  go_enter Tryz.func84, Tryz.ntmps84
  go_wp2_with fail
  have hc : ∀ j, j < [n, IntKind.u64.wrap a, IntKind.u64.wrap c].length → (w.alloc (Obj.cells #[Value.int IntKind.u64 n, Value.int IntKind.u64 (IntKind.u64.wrap a), Value.int IntKind.u64 (IntKind.u64.wrap c)] 22)).cell? ⟨w.heap.size, 0 + j, none⟩ = some (.int .u64 ([n, IntKind.u64.wrap a, IntKind.u64.wrap c].getD j 0)) := by
    intro j hj
    refine cells_new w [Value.int IntKind.u64 n, Value.int IntKind.u64 (IntKind.u64.wrap a), Value.int IntKind.u64 (IntKind.u64.wrap c)] 22 j _ ?_
    match j, hj with
    | 0, _ => rfl
    | 1, _ => rfl
    | 2, _ => rfl
  refine (ref_sum_calls (ByteArray.mk #[]) w.heap.size 0 3 _ _ (by decide) (by simp [maxLen]) hc).mono ?_
  rintro e w' ⟨rfl, rfl⟩
  clear hc
  go_wp2
  go_ret
  exact ⟨ret_int H1.out, (Below.refl _ _).alloc (Nat.le_refl _) _⟩
theorem DW.less {W0 w : World} {q gu gr lo lo' n m : Nat} {G : Nat → Prop} (h : DW W0 q gu gr lo n m G w) (hl : lo' ≤ lo) : DW W0 q gu gr lo' n m G w := by
  obtain ⟨vt, vw, vb, vc, ts, bl, cl, h1, h2, h3, h4, h5, h6⟩ := h
  exact ⟨vt, vw, vb, vc, ts, bl, cl, h1, h2, h3, h4, Nat.le_trans hl h5, h6⟩
/-- What takes leaves. -/
theorem DW.took {W0 w' : World} {q gu gr lo n m : Nat} {vt vw vb vc v c : Value} {ts : List TalkW} {bl cl : List (Value × List UInt8)} {l : List UInt8} {x : TalkW} {e : Int}
    (hw : WB W0 q gu gr vt vw vb vc (if e = 0 then ts ++ [x] else ts) (bl ++ [(v, l)]) (cl ++ [(c, l)]) w') (hag : Ag bl cl) (hlen : ∀ p ∈ bl, p.2.length ≤ 100) (htk : ∀ y ∈ ts, TalkOk y.t y.l) (hlo : lo ≤ ts.length) (hn : ts.length ≤ n) (hm : bl.length ≤ m)
    (hx : e = 0 → TalkOk x.t x.l) (hl : l.length ≤ 100) : DW W0 q gu gr lo (n + 1) (m + 1) (fun _ => False) w' := by
  refine ⟨vt, vw, vb, vc, _, _, _, hw, hag.snoc v c l, snoc_all hlen hl, ?_, ?_, ?_, by rw [List.length_append, List.length_singleton]; omega, fun _ h => h.elim⟩
  · by_cases he : e = 0
    · rw [if_pos he]
      intro y hy
      rcases List.mem_append.1 hy with hy | hy
      · exact htk y hy
      · rw [List.mem_singleton] at hy
        subst hy
        exact hx he
    · rw [if_neg he]
      exact htk
  · split
    · rw [List.length_append]; omega
    · exact hlo
  · split
    · rw [List.length_append, List.length_singleton]; omega
    · omega
/-- What step makes of it. -/
def StepE (W0 : World) (q gu gr lo n m : Nat) (e : Ending) (w' : World) : Prop := e = .returned (.bool true) ∧ DW W0 q gu gr lo (n + 2) (m + 4) (fun _ => False) w'
/-- A step is loaded out of its box. -/
theorem wO {ops : Array Oper} {rest : List Oper} {op : Oper} {a : Act} {w : World} {Q : Exit → Act → World → Prop} {q : Nat} {o : OpD} {v : OpV} (hr : OBlk w q o v) (hgd : op.guard = none) (x : Operand) (ho : op.op = .load 92 x) (hx : a.eval x = .pointer (some ⟨q, 0, none⟩))
    (h : wpList Tryz.prog ops Q rest (a.put op.dst (opV o v)) w) : wpList Tryz.prog ops Q (op :: rest) a w :=
  wpList_load_mid hgd _ x ho q 0 hx (opL o v) _ (Blk.range hr 0 _ rfl) Tryz.underlying92 rfl op_size h
section
variable {w : World} {B : Nat} {o : OpD} {v : OpV}
theorem OpOk.hl (h : OpOk w B o v) : UInts w B v.l o.l := h.1
theorem OpOk.hm (h : OpOk w B o v) : UInts w B v.m o.m := h.2.1
theorem OpOk.hb (h : OpOk w B o v) : Bys w B v.b o.b := h.2.2.1
theorem OpOk.hc (h : OpOk w B o v) : Bys w B v.c o.c := h.2.2.2.1
theorem OpOk.ha (h : OpOk w B o v) : -9223372036854775808 ≤ o.at_ ∧ o.at_ ≤ 9223372036854775807 := h.2.2.2.2.1
theorem OpOk.hn (h : OpOk w B o v) : -9223372036854775808 ≤ o.n ∧ o.n ≤ 9223372036854775807 := h.2.2.2.2.2.1
theorem OpOk.hs (h : OpOk w B o v) : o.seed < 18446744073709551616 := h.2.2.2.2.2.2
end
theorem u64_id (n : Nat) (h : n < 18446744073709551616) : IntKind.u64.wrap (n : Int) = n := by
  simp [IntKind.wrap, IntKind.bits, IntKind.signed]
  omega
set_option maxRecDepth 100000 in
set_option maxHeartbeats 12800000 in
/-- Sum. -/
theorem step1_calls {W0 w : World} {q gu gr lo n m : Nat} {L : List Acct} (hd : DT W0 gu gr L) (h : DW W0 q gu gr lo n m (fun _ => False) w) (hl0 : 0 < lo) (o : OpD) (v : OpV) (hok : OpOk W0 W0.heap.size o v) (hw : o.weight ≤ 268435456) (hn : n ≤ 268435456) (hm : m ≤ 268435456) (hkd : o.kind = 1) :
    Calls Tryz.prog 30 #[.pointer (some ⟨q, 0, none⟩), opV o v] w fun e w' => StepE W0 q gu gr lo n m e w' := by
  obtain ⟨hk, hu, ht, hb28, hc28, hl28⟩ := weight_key o hw
  have HD := Lib.hid hd
  have HOK := Lib.hid hok
  have HK28 := Lib.hid hk
  have HU28 := Lib.hid hu
  have HT28 := Lib.hid ht
  have HB28 := Lib.hid hb28
  have HC28 := Lib.hid hc28
  have HL28 := Lib.hid hl28
  have HWT := Lib.hid hw
  have HNM := Lib.hid (And.intro hn hm)
  have HB1 := Lib.hid ((Below.refl w.heap.size w).alloc (Nat.le_refl _) (Obj.cells (opL o v).toArray 92))
  have HO1 := Lib.hid (show OBlk (w.alloc (Obj.cells (opL o v).toArray 92)) w.heap.size o v from Blk.new w _ _)
  have HD1 := Lib.hid (h.call HB1.out)
  have HL0 := Lib.hid hl0
  have HKD := Lib.hid hkd
  clear hkd hd hok hk hu ht hb28 hc28 hl28 h hw hn hm hl0
  go_enter Tryz.func30, Tryz.ntmps30
  go_upto_region 1 with (fail)
  change Code.wp _ _ _ _ (w.alloc (Obj.cells (opL o v).toArray 92))
  generalize w.alloc (Obj.cells (opL o v).toArray 92) = w1 at HB1 HO1 HD1 ⊢
  generalize w.heap.size = ob at HO1 ⊢
  clear HB1
  obtain ⟨vt, vw, vb, vc, ts, bl, cl, hwb, hag, hlen, htk, hlo, hnn, hmm, -⟩ := HD1.out
  have HW1 := Lib.hid hwb
  have HAG := Lib.hid hag
  have HLN := Lib.hid hlen
  have HTK := Lib.hid htk
  have HCN := Lib.hid (And.intro hlo (And.intro hnn hmm))
  have HT0 := Lib.hid (show 0 < ts.length from Nat.lt_of_lt_of_le HL0.out hlo)
  clear hwb hag hlen htk hlo hnn hmm
  obtain ⟨k, hk⟩ : ∃ z, atN o.at_ ts.length = z := ⟨_, rfl⟩
  have HKE := Lib.hid hk
  have HKT := Lib.hid (show k < ts.length from by rw [← hk]; exact atN_lt o.at_ HT0.out)
  clear hk
  have k1 : w1.cell? ⟨ob, 1, none⟩ = some (.int .i64 o.at_) := Blk.cell HO1.out 1
  go_upto_region 2 with (go_at_call 81; (with_reducible refine (at_calls HW1.out.r o.at_ HOK.out.ha HT0.out).mono ?_); rw [HKE.out]; rintro e w2 ⟨rfl, rfl⟩)
  clear k1
  have k0 : w1.cell? ⟨ob, 0, none⟩ = some (.int .i64 1) := by rw [← HKD.out]; exact Blk.cell HO1.out 0
  have k3 : w1.cell? ⟨ob, 3, none⟩ = some (.string o.key) := Blk.cell HO1.out 3
  have k7 : w1.cell? ⟨ob, 7, none⟩ = some (v.l) := Blk.cell HO1.out 7
  have k8 : w1.cell? ⟨ob, 8, none⟩ = some (v.m) := Blk.cell HO1.out 8
  go_upto_region 4 with (fail)
  have HLO := Lib.hid HW1.out.r.low
  have HU1 := Lib.hid ((HOK.out.hl.below HLO.out).more HLO.out.size)
  have HU2 := Lib.hid ((HOK.out.hm.below HLO.out).more HLO.out.size)
  go_wp2_with (go_at_call 82; (with_reducible refine (lsum_calls o.key v.l v.m o.l o.m _ HU1.out HU2.out HK28.out HL28.out).mono ?_); rintro e w2 ⟨rfl, hb⟩; have HB2 := Lib.hid hb; clear hb)
  go_ret
  exact ⟨rfl, (HD1.out.call HB2.out).more (by omega) (by omega) (fun _ h => h)⟩
set_option maxRecDepth 100000 in
set_option maxHeartbeats 12800000 in
/-- Ours. -/
theorem step2_calls {W0 w : World} {q gu gr lo n m : Nat} {L : List Acct} (hd : DT W0 gu gr L) (h : DW W0 q gu gr lo n m (fun _ => False) w) (hl0 : 0 < lo) (o : OpD) (v : OpV) (hok : OpOk W0 W0.heap.size o v) (hw : o.weight ≤ 268435456) (hn : n ≤ 268435456) (hm : m ≤ 268435456) (hkd : o.kind = 2) :
    Calls Tryz.prog 30 #[.pointer (some ⟨q, 0, none⟩), opV o v] w fun e w' => StepE W0 q gu gr lo n m e w' := by
  obtain ⟨hk, hu, ht, hb28, hc28, hl28⟩ := weight_key o hw
  have HD := Lib.hid hd
  have HOK := Lib.hid hok
  have HK28 := Lib.hid hk
  have HU28 := Lib.hid hu
  have HT28 := Lib.hid ht
  have HB28 := Lib.hid hb28
  have HC28 := Lib.hid hc28
  have HL28 := Lib.hid hl28
  have HWT := Lib.hid hw
  have HNM := Lib.hid (And.intro hn hm)
  have HB1 := Lib.hid ((Below.refl w.heap.size w).alloc (Nat.le_refl _) (Obj.cells (opL o v).toArray 92))
  have HO1 := Lib.hid (show OBlk (w.alloc (Obj.cells (opL o v).toArray 92)) w.heap.size o v from Blk.new w _ _)
  have HD1 := Lib.hid (h.call HB1.out)
  have HL0 := Lib.hid hl0
  have HKD := Lib.hid hkd
  clear hkd hd hok hk hu ht hb28 hc28 hl28 h hw hn hm hl0
  go_enter Tryz.func30, Tryz.ntmps30
  go_upto_region 1 with (fail)
  change Code.wp _ _ _ _ (w.alloc (Obj.cells (opL o v).toArray 92))
  generalize w.alloc (Obj.cells (opL o v).toArray 92) = w1 at HB1 HO1 HD1 ⊢
  generalize w.heap.size = ob at HO1 ⊢
  clear HB1
  obtain ⟨vt, vw, vb, vc, ts, bl, cl, hwb, hag, hlen, htk, hlo, hnn, hmm, -⟩ := HD1.out
  have HW1 := Lib.hid hwb
  have HAG := Lib.hid hag
  have HLN := Lib.hid hlen
  have HTK := Lib.hid htk
  have HCN := Lib.hid (And.intro hlo (And.intro hnn hmm))
  have HT0 := Lib.hid (show 0 < ts.length from Nat.lt_of_lt_of_le HL0.out hlo)
  clear hwb hag hlen htk hlo hnn hmm
  obtain ⟨k, hk⟩ : ∃ z, atN o.at_ ts.length = z := ⟨_, rfl⟩
  have HKE := Lib.hid hk
  have HKT := Lib.hid (show k < ts.length from by rw [← hk]; exact atN_lt o.at_ HT0.out)
  clear hk
  have k1 : w1.cell? ⟨ob, 1, none⟩ = some (.int .i64 o.at_) := Blk.cell HO1.out 1
  go_upto_region 2 with (go_at_call 81; (with_reducible refine (at_calls HW1.out.r o.at_ HOK.out.ha HT0.out).mono ?_); rw [HKE.out]; rintro e w2 ⟨rfl, rfl⟩)
  clear k1
  have k0 : w1.cell? ⟨ob, 0, none⟩ = some (.int .i64 2) := by rw [← HKD.out]; exact Blk.cell HO1.out 0
  have k6 : w1.cell? ⟨ob, 6, none⟩ = some (.int .u64 (o.seed : Int)) := Blk.cell HO1.out 6
  have k2 : w1.cell? ⟨ob, 2, none⟩ = some (.int .i64 o.n) := Blk.cell HO1.out 2
  have k1 : w1.cell? ⟨ob, 1, none⟩ = some (.int .i64 o.at_) := Blk.cell HO1.out 1
  have HWR := Lib.hid (u64_id o.seed HOK.out.hs)
  go_upto_region 7 with (go_at_call 83; (with_reducible refine (ours_calls (o.seed : Int) o.n o.at_ _ HWR.out).mono ?_); rintro e w2 ⟨rfl, hb⟩; have HB2 := Lib.hid hb; clear hb)
  have HO2 := Lib.hid (HO1.out.below HB2.out)
  clear k0 k6 k2 k1
  have k6 : w2.cell? ⟨ob, 6, none⟩ = some (.int .u64 (o.seed : Int)) := Blk.cell HO2.out 6
  have k2 : w2.cell? ⟨ob, 2, none⟩ = some (.int .i64 o.n) := Blk.cell HO2.out 2
  have k1 : w2.cell? ⟨ob, 1, none⟩ = some (.int .i64 o.at_) := Blk.cell HO2.out 1
  go_wp2_with (go_at_call 84; (with_reducible refine (refOurs_calls (o.seed : Int) o.n o.at_ _ HWR.out).mono ?_); rintro e w3 ⟨rfl, hb⟩; have HB3 := Lib.hid hb; clear hb)
  go_ret
  exact ⟨rfl, ((HD1.out.call HB2.out).call HB3.out).more (by omega) (by omega) (fun _ h => h)⟩
set_option maxRecDepth 100000 in
set_option maxHeartbeats 12800000 in
/-- Write. -/
theorem step5_calls {W0 w : World} {q gu gr lo n m : Nat} {L : List Acct} (hd : DT W0 gu gr L) (h : DW W0 q gu gr lo n m (fun _ => False) w) (hl0 : 0 < lo) (o : OpD) (v : OpV) (hok : OpOk W0 W0.heap.size o v) (hw : o.weight ≤ 268435456) (hn : n ≤ 268435456) (hm : m ≤ 268435456) (hkd : o.kind = 5) :
    Calls Tryz.prog 30 #[.pointer (some ⟨q, 0, none⟩), opV o v] w fun e w' => StepE W0 q gu gr lo n m e w' := by
  obtain ⟨hk, hu, ht, hb28, hc28, hl28⟩ := weight_key o hw
  have HD := Lib.hid hd
  have HOK := Lib.hid hok
  have HK28 := Lib.hid hk
  have HU28 := Lib.hid hu
  have HT28 := Lib.hid ht
  have HB28 := Lib.hid hb28
  have HC28 := Lib.hid hc28
  have HL28 := Lib.hid hl28
  have HWT := Lib.hid hw
  have HNM := Lib.hid (And.intro hn hm)
  have HB1 := Lib.hid ((Below.refl w.heap.size w).alloc (Nat.le_refl _) (Obj.cells (opL o v).toArray 92))
  have HO1 := Lib.hid (show OBlk (w.alloc (Obj.cells (opL o v).toArray 92)) w.heap.size o v from Blk.new w _ _)
  have HD1 := Lib.hid (h.call HB1.out)
  have HL0 := Lib.hid hl0
  have HKD := Lib.hid hkd
  clear hkd hd hok hk hu ht hb28 hc28 hl28 h hw hn hm hl0
  go_enter Tryz.func30, Tryz.ntmps30
  go_upto_region 1 with (fail)
  change Code.wp _ _ _ _ (w.alloc (Obj.cells (opL o v).toArray 92))
  generalize w.alloc (Obj.cells (opL o v).toArray 92) = w1 at HB1 HO1 HD1 ⊢
  generalize w.heap.size = ob at HO1 ⊢
  clear HB1
  obtain ⟨vt, vw, vb, vc, ts, bl, cl, hwb, hag, hlen, htk, hlo, hnn, hmm, -⟩ := HD1.out
  have HW1 := Lib.hid hwb
  have HAG := Lib.hid hag
  have HLN := Lib.hid hlen
  have HTK := Lib.hid htk
  have HCN := Lib.hid (And.intro hlo (And.intro hnn hmm))
  have HT0 := Lib.hid (show 0 < ts.length from Nat.lt_of_lt_of_le HL0.out hlo)
  clear hwb hag hlen htk hlo hnn hmm
  obtain ⟨k, hk⟩ : ∃ z, atN o.at_ ts.length = z := ⟨_, rfl⟩
  have HKE := Lib.hid hk
  have HKT := Lib.hid (show k < ts.length from by rw [← hk]; exact atN_lt o.at_ HT0.out)
  clear hk
  have k1 : w1.cell? ⟨ob, 1, none⟩ = some (.int .i64 o.at_) := Blk.cell HO1.out 1
  go_upto_region 2 with (go_at_call 81; (with_reducible refine (at_calls HW1.out.r o.at_ HOK.out.ha HT0.out).mono ?_); rw [HKE.out]; rintro e w2 ⟨rfl, rfl⟩)
  clear k1
  have k0 : w1.cell? ⟨ob, 0, none⟩ = some (.int .i64 5) := by rw [← HKD.out]; exact Blk.cell HO1.out 0
  have k9 : w1.cell? ⟨ob, 9, none⟩ = some (v.b) := Blk.cell HO1.out 9
  have k10 : w1.cell? ⟨ob, 10, none⟩ = some (v.c) := Blk.cell HO1.out 10
  go_upto_region 24 with (fail)
  have HLO := Lib.hid HW1.out.r.low
  have HDX := Lib.hid (show DW W0 q gu gr ts.length n m (fun _ => False) w1 from ⟨vt, vw, vb, vc, ts, bl, cl, HW1.out, HAG.out, HLN.out, HTK.out, Nat.le_refl _, HCN.out.2.1, HCN.out.2.2, fun _ h => h.elim⟩)
  have HBY := Lib.hid ((HOK.out.hb.below HLO.out).more HLO.out.size)
  go_wp2_with (go_at_call 89; (with_reducible refine (lwrite_calls HD.out HDX.out k HKT.out v.b v.c o.b o.c HBY.out HOK.out.hc HB28.out HNM.out.1 HNM.out.2).mono ?_); rintro e w2 ⟨rfl, hdw, -⟩; have HDW := Lib.hid hdw; clear hdw)
  go_ret
  exact ⟨rfl, (HDW.out.less HCN.out.1).more (by omega) (by omega) (fun _ h => h)⟩
set_option maxRecDepth 100000 in
set_option maxHeartbeats 12800000 in
/-- Answer. -/
theorem step7_calls {W0 w : World} {q gu gr lo n m : Nat} {L : List Acct} (hd : DT W0 gu gr L) (h : DW W0 q gu gr lo n m (fun _ => False) w) (hl0 : 0 < lo) (o : OpD) (v : OpV) (hok : OpOk W0 W0.heap.size o v) (hw : o.weight ≤ 268435456) (hn : n ≤ 268435456) (hm : m ≤ 268435456) (hkd : o.kind = 7) :
    Calls Tryz.prog 30 #[.pointer (some ⟨q, 0, none⟩), opV o v] w fun e w' => StepE W0 q gu gr lo n m e w' := by
  obtain ⟨hk, hu, ht, hb28, hc28, hl28⟩ := weight_key o hw
  have HD := Lib.hid hd
  have HOK := Lib.hid hok
  have HK28 := Lib.hid hk
  have HU28 := Lib.hid hu
  have HT28 := Lib.hid ht
  have HB28 := Lib.hid hb28
  have HC28 := Lib.hid hc28
  have HL28 := Lib.hid hl28
  have HWT := Lib.hid hw
  have HNM := Lib.hid (And.intro hn hm)
  have HB1 := Lib.hid ((Below.refl w.heap.size w).alloc (Nat.le_refl _) (Obj.cells (opL o v).toArray 92))
  have HO1 := Lib.hid (show OBlk (w.alloc (Obj.cells (opL o v).toArray 92)) w.heap.size o v from Blk.new w _ _)
  have HD1 := Lib.hid (h.call HB1.out)
  have HL0 := Lib.hid hl0
  have HKD := Lib.hid hkd
  clear hkd hd hok hk hu ht hb28 hc28 hl28 h hw hn hm hl0
  go_enter Tryz.func30, Tryz.ntmps30
  go_upto_region 1 with (fail)
  change Code.wp _ _ _ _ (w.alloc (Obj.cells (opL o v).toArray 92))
  generalize w.alloc (Obj.cells (opL o v).toArray 92) = w1 at HB1 HO1 HD1 ⊢
  generalize w.heap.size = ob at HO1 ⊢
  clear HB1
  obtain ⟨vt, vw, vb, vc, ts, bl, cl, hwb, hag, hlen, htk, hlo, hnn, hmm, -⟩ := HD1.out
  have HW1 := Lib.hid hwb
  have HAG := Lib.hid hag
  have HLN := Lib.hid hlen
  have HTK := Lib.hid htk
  have HCN := Lib.hid (And.intro hlo (And.intro hnn hmm))
  have HT0 := Lib.hid (show 0 < ts.length from Nat.lt_of_lt_of_le HL0.out hlo)
  clear hwb hag hlen htk hlo hnn hmm
  obtain ⟨k, hk⟩ : ∃ z, atN o.at_ ts.length = z := ⟨_, rfl⟩
  have HKE := Lib.hid hk
  have HKT := Lib.hid (show k < ts.length from by rw [← hk]; exact atN_lt o.at_ HT0.out)
  clear hk
  have k1 : w1.cell? ⟨ob, 1, none⟩ = some (.int .i64 o.at_) := Blk.cell HO1.out 1
  go_upto_region 2 with (go_at_call 81; (with_reducible refine (at_calls HW1.out.r o.at_ HOK.out.ha HT0.out).mono ?_); rw [HKE.out]; rintro e w2 ⟨rfl, rfl⟩)
  clear k1
  have k0 : w1.cell? ⟨ob, 0, none⟩ = some (.int .i64 7) := by rw [← HKD.out]; exact Blk.cell HO1.out 0
  go_upto_region 34 with (fail)
  go_wp2_with (first
    | (refine wO HO1.out rfl _ rfl rfl ?_)
    | (go_at_call 92; (with_reducible refine (lclient_calls HD.out HD1.out o v HOK.out HWT.out HNM.out.2).mono ?_); rintro e w2 ⟨rfl, hdw⟩; have HDW := Lib.hid hdw; clear hdw))
  go_ret
  exact ⟨rfl, HDW.out.more (by omega) (by omega) (fun _ h => h)⟩
set_option maxRecDepth 100000 in
set_option maxHeartbeats 12800000 in
/-- Confirms. -/
theorem step8_calls {W0 w : World} {q gu gr lo n m : Nat} {L : List Acct} (hd : DT W0 gu gr L) (h : DW W0 q gu gr lo n m (fun _ => False) w) (hl0 : 0 < lo) (o : OpD) (v : OpV) (hok : OpOk W0 W0.heap.size o v) (hw : o.weight ≤ 268435456) (hn : n ≤ 268435456) (hm : m ≤ 268435456) (hkd : o.kind = 8) :
    Calls Tryz.prog 30 #[.pointer (some ⟨q, 0, none⟩), opV o v] w fun e w' => StepE W0 q gu gr lo n m e w' := by
  obtain ⟨hk, hu, ht, hb28, hc28, hl28⟩ := weight_key o hw
  have HD := Lib.hid hd
  have HOK := Lib.hid hok
  have HK28 := Lib.hid hk
  have HU28 := Lib.hid hu
  have HT28 := Lib.hid ht
  have HB28 := Lib.hid hb28
  have HC28 := Lib.hid hc28
  have HL28 := Lib.hid hl28
  have HWT := Lib.hid hw
  have HNM := Lib.hid (And.intro hn hm)
  have HB1 := Lib.hid ((Below.refl w.heap.size w).alloc (Nat.le_refl _) (Obj.cells (opL o v).toArray 92))
  have HO1 := Lib.hid (show OBlk (w.alloc (Obj.cells (opL o v).toArray 92)) w.heap.size o v from Blk.new w _ _)
  have HD1 := Lib.hid (h.call HB1.out)
  have HL0 := Lib.hid hl0
  have HKD := Lib.hid hkd
  clear hkd hd hok hk hu ht hb28 hc28 hl28 h hw hn hm hl0
  go_enter Tryz.func30, Tryz.ntmps30
  go_upto_region 1 with (fail)
  change Code.wp _ _ _ _ (w.alloc (Obj.cells (opL o v).toArray 92))
  generalize w.alloc (Obj.cells (opL o v).toArray 92) = w1 at HB1 HO1 HD1 ⊢
  generalize w.heap.size = ob at HO1 ⊢
  clear HB1
  obtain ⟨vt, vw, vb, vc, ts, bl, cl, hwb, hag, hlen, htk, hlo, hnn, hmm, -⟩ := HD1.out
  have HW1 := Lib.hid hwb
  have HAG := Lib.hid hag
  have HLN := Lib.hid hlen
  have HTK := Lib.hid htk
  have HCN := Lib.hid (And.intro hlo (And.intro hnn hmm))
  have HT0 := Lib.hid (show 0 < ts.length from Nat.lt_of_lt_of_le HL0.out hlo)
  clear hwb hag hlen htk hlo hnn hmm
  obtain ⟨k, hk⟩ : ∃ z, atN o.at_ ts.length = z := ⟨_, rfl⟩
  have HKE := Lib.hid hk
  have HKT := Lib.hid (show k < ts.length from by rw [← hk]; exact atN_lt o.at_ HT0.out)
  clear hk
  have k1 : w1.cell? ⟨ob, 1, none⟩ = some (.int .i64 o.at_) := Blk.cell HO1.out 1
  go_upto_region 2 with (go_at_call 81; (with_reducible refine (at_calls HW1.out.r o.at_ HOK.out.ha HT0.out).mono ?_); rw [HKE.out]; rintro e w2 ⟨rfl, rfl⟩)
  clear k1
  have k0 : w1.cell? ⟨ob, 0, none⟩ = some (.int .i64 8) := by rw [← HKD.out]; exact Blk.cell HO1.out 0
  go_upto_region 34 with (fail)
  go_wp2_with (first
    | (refine wO HO1.out rfl _ rfl rfl ?_)
    | (go_at_call 92; (with_reducible refine (lclient_calls HD.out HD1.out o v HOK.out HWT.out HNM.out.2).mono ?_); rintro e w2 ⟨rfl, hdw⟩; have HDW := Lib.hid hdw; clear hdw))
  go_ret
  exact ⟨rfl, HDW.out.more (by omega) (by omega) (fun _ h => h)⟩
set_option maxRecDepth 100000 in
set_option maxHeartbeats 12800000 in
/-- Nothing. -/
theorem step0_calls {W0 w : World} {q gu gr lo n m : Nat} {L : List Acct} (hd : DT W0 gu gr L) (h : DW W0 q gu gr lo n m (fun _ => False) w) (hl0 : 0 < lo) (o : OpD) (v : OpV) (hok : OpOk W0 W0.heap.size o v) (hw : o.weight ≤ 268435456) (hn : n ≤ 268435456) (hm : m ≤ 268435456) (hkd : (o.kind == 1) = false ∧ (o.kind == 2) = false ∧ (o.kind == 3) = false ∧ (o.kind == 4) = false ∧ (o.kind == 5) = false ∧ (o.kind == 6) = false ∧ (o.kind == 7) = false ∧ (o.kind == 8) = false ∧ (o.kind == 9) = false) :
    Calls Tryz.prog 30 #[.pointer (some ⟨q, 0, none⟩), opV o v] w fun e w' => StepE W0 q gu gr lo n m e w' := by
  obtain ⟨hk, hu, ht, hb28, hc28, hl28⟩ := weight_key o hw
  have HD := Lib.hid hd
  have HOK := Lib.hid hok
  have HK28 := Lib.hid hk
  have HU28 := Lib.hid hu
  have HT28 := Lib.hid ht
  have HB28 := Lib.hid hb28
  have HC28 := Lib.hid hc28
  have HL28 := Lib.hid hl28
  have HWT := Lib.hid hw
  have HNM := Lib.hid (And.intro hn hm)
  have HB1 := Lib.hid ((Below.refl w.heap.size w).alloc (Nat.le_refl _) (Obj.cells (opL o v).toArray 92))
  have HO1 := Lib.hid (show OBlk (w.alloc (Obj.cells (opL o v).toArray 92)) w.heap.size o v from Blk.new w _ _)
  have HD1 := Lib.hid (h.call HB1.out)
  have HL0 := Lib.hid hl0
  have HKD := Lib.hid hkd
  clear hkd hd hok hk hu ht hb28 hc28 hl28 h hw hn hm hl0
  go_enter Tryz.func30, Tryz.ntmps30
  go_upto_region 1 with (fail)
  change Code.wp _ _ _ _ (w.alloc (Obj.cells (opL o v).toArray 92))
  generalize w.alloc (Obj.cells (opL o v).toArray 92) = w1 at HB1 HO1 HD1 ⊢
  generalize w.heap.size = ob at HO1 ⊢
  clear HB1
  obtain ⟨vt, vw, vb, vc, ts, bl, cl, hwb, hag, hlen, htk, hlo, hnn, hmm, -⟩ := HD1.out
  have HW1 := Lib.hid hwb
  have HAG := Lib.hid hag
  have HLN := Lib.hid hlen
  have HTK := Lib.hid htk
  have HCN := Lib.hid (And.intro hlo (And.intro hnn hmm))
  have HT0 := Lib.hid (show 0 < ts.length from Nat.lt_of_lt_of_le HL0.out hlo)
  clear hwb hag hlen htk hlo hnn hmm
  obtain ⟨k, hk⟩ : ∃ z, atN o.at_ ts.length = z := ⟨_, rfl⟩
  have HKE := Lib.hid hk
  have HKT := Lib.hid (show k < ts.length from by rw [← hk]; exact atN_lt o.at_ HT0.out)
  clear hk
  have k1 : w1.cell? ⟨ob, 1, none⟩ = some (.int .i64 o.at_) := Blk.cell HO1.out 1
  go_upto_region 2 with (go_at_call 81; (with_reducible refine (at_calls HW1.out.r o.at_ HOK.out.ha HT0.out).mono ?_); rw [HKE.out]; rintro e w2 ⟨rfl, rfl⟩)
  clear k1
  have k0 : w1.cell? ⟨ob, 0, none⟩ = some (.int .i64 o.kind) := Blk.cell HO1.out 0
  obtain ⟨e1, e2, e3, e4, e5, e6, e7, e8, e9⟩ := HKD.out
  go_wp2_with fail
  go_ret
  exact ⟨rfl, HD1.out.more (by omega) (by omega) (fun _ h => h)⟩
end Go.Proofs.YtlenlldiimohjaaGreatDoor
