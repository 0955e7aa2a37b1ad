
/-
  The document's answers to a wish: mode, length, called, group.
-/
import Derived.Test.YtlenlldiimohjaaGreatDoorRefT
import Derived.Test.YtlenlldiimohjaaGreatDoorChg
namespace Go.Proofs.YtlenlldiimohjaaGreatDoor
open Go.ChangeShapes Go.WideShapes Go.ChangeAt Go.RowKit

/-- Where such an answer stands: the table, and the node's box. -/
def QN (w0 : World) (g : Nat) (L : List Acct) (n : Nd) (w : World) : Prop := RTab w g L ∧ Below w0.heap.size w0 w ∧ NBlk w w0.heap.size n
section
variable {w0 w w' : World} {g : Nat} {L : List Acct} {n : Nd}
theorem QN.next (h : QN w0 g L n w) (hb : Below w.heap.size w w') : QN w0 g L n w' := ⟨h.1.below hb, h.2.1.trans (hb.mono h.2.1.size), h.2.2.below hb⟩
theorem QN.tab (h : QN w0 g L n w) : RTab w g L := h.1
theorem QN.low (h : QN w0 g L n w) : Below w0.heap.size w0 w := h.2.1
theorem QN.nb (h : QN w0 g L n w) : NBlk w w0.heap.size n := h.2.2
theorem QN.start (h : RTab w0 g L) (n : Nd) : QN w0 g L n (w0.alloc (Obj.cells (nodeL n).toArray 25)) := ⟨h.below ((Below.refl _ _).alloc (Nat.le_refl _) _), (Below.refl _ _).alloc (Nat.le_refl _) _, NBlk.new _ _⟩
end
/-- Mine, with the document's leading. -/
def rmineB (L : List Acct) (user : ByteArray) (n : Nd) : Bool := decide (user = n.uid) || rleads L user n.gid
theorem permS_two (p : Int) : permS p = 0 ∨ permS p = 91 := by
  unfold permS
  split
  · exact .inr rfl
  · split
    · split
      · exact .inr rfl
      · exact .inl rfl
    · exact .inl rfl
theorem and_dir : ∀ (a b : Nat), a < 4294967296 → b < 4294967296 → ((a ^^^ b) &&& 2147483648 = 0 ↔ a &&& 2147483648 = b &&& 2147483648) := by
  intro a b _ _
  rw [Nat.and_xor_distrib_right]
  constructor
  · intro h
    apply Nat.eq_of_testBit_eq
    intro i
    have h2 : ((a &&& 2147483648) ^^^ (b &&& 2147483648)).testBit i = false := by rw [h]; exact Nat.zero_testBit i
    rw [Nat.testBit_xor] at h2
    revert h2
    cases (a &&& 2147483648).testBit i <;> cases (b &&& 2147483648).testBit i <;> decide
  · intro h
    rw [h]
    exact Nat.xor_self _
theorem dir_apart {a b : Int} (a0 : 0 ≤ a) (a1 : a < 4294967296) (b0 : 0 ≤ b) (b1 : b < 4294967296) : (bits .and .u32 a 2147483648 != bits .and .u32 b 2147483648) = (bits .and .u32 (bits .xor .u32 a b) 2147483648 != 0) := by
  obtain ⟨x, rfl⟩ := Int.eq_ofNat_of_zero_le a0
  obtain ⟨y, rfl⟩ := Int.eq_ofNat_of_zero_le b0
  have hx : x ^^^ y < 2 ^ 32 := Nat.xor_lt_two_pow (by omega) (by omega)
  rw [show (2147483648 : Int) = ((2147483648 : Nat) : Int) from rfl, u32_and_nat x _ (by omega) (by omega), u32_and_nat y _ (by omega) (by omega), u32_xor_nat x y (by omega) (by omega), u32_and_nat _ _ (by omega) (by omega)]
  have h := and_dir x y (by omega) (by omega)
  rw [Bool.eq_iff_iff, bne_iff_ne, bne_iff_ne]
  constructor
  · intro h1 h2
    exact h1 (by rw [h.1 (by omega)])
  · intro h1 h2
    exact h1 (by rw [h.2 (by omega)]; rfl)

set_option maxRecDepth 100000 in
set_option maxHeartbeats 1600000 in
theorem refMode_calls (g : Nat) (L : List Acct) (user : ByteArray) (n : Nd) (to_ : Int) (s : St) (hto : s.mode = to_) (w : World) (h : RTab w g L) (hn : n.ok) (t0 : 0 ≤ to_) (t1 : to_ < 4294967296) :
    Calls Tryz.prog 47 #[.pointer (some ⟨g, 0, none⟩), .string user, nodeV n, .int .u32 to_] w fun e w' => e = .returned (.int .i64 (eMode (rmineB L user n) n s)) ∧ Below w.heap.size w w' := by
  have HQ := Lib.hid (QN.start h n)
  have hd := dir_apart t0 t1 hn.1 hn.2.1
  have HD := Lib.hid hd
  clear h hd t0 t1 hn
  obtain ⟨p, hp⟩ : ∃ p, permS to_ = p := ⟨_, rfl⟩
  have HP := Lib.hid hp
  have hp2 := permS_two to_
  rw [hp] at hp2
  have HP2 := Lib.hid hp2
  clear hp hp2
  cases ho : (user.toList == n.uid.toList)
  all_goals
    cases hl : rleads L user n.gid
  all_goals
    have HX := Lib.hid (show rmineB L user n = ((user.toList == n.uid.toList) || rleads L user n.gid) from by rw [beq_str]; rfl)
    rw [ho, hl] at HX
    have HL := Lib.hid hl
    clear hl
    go_enter Tryz.func47, Tryz.ntmps47
    go_upto_region 1 with (fail)
    generalize w.alloc (Obj.cells _ _) = w1 at HQ ⊢
    have c3 : w1.cell? ⟨w.heap.size, 3, none⟩ = some (.int .u32 n.mode) := Blk.cell HQ.out.nb 3
    have c4 : w1.cell? ⟨w.heap.size, 4, none⟩ = some (.string n.uid) := Blk.cell HQ.out.nb 4
    have c5 : w1.cell? ⟨w.heap.size, 5, none⟩ = some (.string n.gid) := Blk.cell HQ.out.nb 5
    go_wp2_with (first
      | (go_at_call 48; (with_reducible refine (refLeads_calls g L user n.gid _ HQ.out.tab).mono ?_); rw [HL.out]; rintro e w2 ⟨rfl, rfl⟩)
      | (go_at_call 109; (with_reducible refine (refPerm_calls to_ _).mono ?_); rw [HP.out]; rintro e w2 ⟨rfl, rfl⟩))
    all_goals
      go_ret
      refine ⟨?_, HQ.out.low⟩
      rw [HX.out]
      have hdd := HD.out
      have hpp := HP.out
      have hp3 := HP2.out
      clear HX HD HQ HL HP HP2 c3 c4 c5
      unfold eMode
      rw [hto, ← hdd, hpp]
      rcases hp3 with rfl | rfl <;> simp_all

theorem refMay2_calls (g : Nat) (text u : ByteArray) (n : Nd) (r : Int) (w : World) (h : RTab w g (tableL text)) (hn : n.ok) :
    Calls Tryz.prog 111 #[.pointer (some ⟨g, 0, none⟩), .string u, nodeV n, .int .u8 r] w fun e w' => e = .returned (.bool (mayB (rights (decide (u = n.uid)) (isMember (tableL text) u n.gid) n.mode) r)) ∧ Below w.heap.size w w' := by
  have h := refMay_calls g (tableL text) u n r w h hn
  rw [table_member] at h
  exact h
set_option maxRecDepth 100000 in
set_option maxHeartbeats 1600000 in
theorem refLength_calls (g : Nat) (text user : ByteArray) (n : Nd) (to_ : Int) (s : St) (hto : s.length = to_) (w : World) (h : RTab w g (tableL text)) (hn : n.ok) :
    Calls Tryz.prog 49 #[.pointer (some ⟨g, 0, none⟩), .string user, nodeV n, .int .u64 to_] w fun e w' => e = .returned (.int .i64 (eLen n s (rights (decide (user = n.uid)) (isMember (tableL text) user n.gid) n.mode))) ∧ Below w.heap.size w w' := by
  have HQ := Lib.hid (QN.start h n)
  have HN := Lib.hid hn
  clear h hn
  obtain ⟨r, hr⟩ : ∃ r, rights (decide (user = n.uid)) (isMember (tableL text) user n.gid) n.mode = r := ⟨_, rfl⟩
  rw [hr]
  have HR := Lib.hid hr
  clear hr
  cases hm : mayB r 2
  all_goals
    have HM := Lib.hid hm
    clear hm
    go_enter Tryz.func49, Tryz.ntmps49
    go_upto_region 1 with (fail)
    generalize w.alloc (Obj.cells _ _) = w1 at HQ ⊢
    have c3 : w1.cell? ⟨w.heap.size, 3, none⟩ = some (.int .u32 n.mode) := Blk.cell HQ.out.nb 3
    go_wp2_with (first
      | (refine wnN HQ.out.nb rfl _ rfl rfl ?_)
      | (go_at_call 111; (with_reducible refine (refMay2_calls g text user n _ _ HQ.out.tab HN.out).mono ?_); rw [HR.out, HM.out]; rintro e w2 ⟨rfl, hb⟩; replace HQ := Lib.hid (HQ.out.next hb); clear hb; have d3 : w2.cell? ⟨w.heap.size, 3, none⟩ = some (.int .u32 n.mode) := Blk.cell HQ.out.nb 3; have d10 : w2.cell? ⟨w.heap.size, 10, none⟩ = some (.int .u64 n.length) := Blk.cell HQ.out.nb 10))
    all_goals
      go_ret
      refine ⟨?_, HQ.out.low⟩
      have hm := HM.out
      clear HQ HN HR HM
      clear c3
      try clear d3 d10
      unfold eLen isB
      rw [hto]
      simp_all
      try rw [if_neg (by omega), if_neg (by omega)]
set_option maxRecDepth 100000 in
set_option maxHeartbeats 1600000 in
theorem refGroup_calls (g : Nat) (text user : ByteArray) (n : Nd) (gid : ByteArray) (s : St) (hto : s.gid = gid) (w : World) (h : RTab w g (tableL text)) :
    Calls Tryz.prog 51 #[.pointer (some ⟨g, 0, none⟩), .string user, nodeV n, .string gid] w fun e w' => e = .returned (.int .i64 (eGid (tableL text) user n s)) ∧ Below w.heap.size w w' := by
  subst hto
  have HQ := Lib.hid (QN.start h n)
  clear h
  cases hk : known (tableL text) s.gid <;> cases ho : (user.toList == n.uid.toList) <;> cases hb : isMember (tableL text) user s.gid <;> cases h1 : leads (tableL text) user n.gid <;> cases h2 : leads (tableL text) user s.gid
  all_goals
    have HX := Lib.hid (show eGid (tableL text) user n s = if known (tableL text) s.gid = false then 99 else if ((user.toList == n.uid.toList) && isMember (tableL text) user s.gid) = true then 0 else if (leads (tableL text) user n.gid && leads (tableL text) user s.gid) = true then 0 else 90 from by rw [beq_str]; rfl)
    rw [hk, ho, hb, h1, h2] at HX
    have HK := Lib.hid hk
    have HB := Lib.hid ((table_member text user s.gid).trans hb)
    have H1 := Lib.hid ((table_leads text user n.gid).trans h1)
    have H2 := Lib.hid ((table_leads text user s.gid).trans h2)
    clear hk hb h1 h2
    go_enter Tryz.func51, Tryz.ntmps51
    go_upto_region 1 with (fail)
    generalize w.alloc (Obj.cells _ _) = w1 at HQ ⊢
    have c4 : w1.cell? ⟨w.heap.size, 4, none⟩ = some (.string n.uid) := Blk.cell HQ.out.nb 4
    have c5 : w1.cell? ⟨w.heap.size, 5, none⟩ = some (.string n.gid) := Blk.cell HQ.out.nb 5
    go_wp2_with (first
      | (go_at_call 26; (with_reducible refine (refKnown_calls g _ s.gid _ HQ.out.tab).mono ?_); rw [HK.out]; rintro e w2 ⟨rfl, rfl⟩)
      | (go_at_call 110; (with_reducible refine (refMember_calls g _ user s.gid _ HQ.out.tab).mono ?_); rw [HB.out]; rintro e w2 ⟨rfl, rfl⟩)
      | (go_at_call 48; (with_reducible refine (refLeads_calls g _ user n.gid _ HQ.out.tab).mono ?_); rw [H1.out]; rintro e w2 ⟨rfl, rfl⟩)
      | (go_at_call 48; (with_reducible refine (refLeads_calls g _ user s.gid _ HQ.out.tab).mono ?_); rw [H2.out]; rintro e w2 ⟨rfl, rfl⟩))
    go_ret
    exact ⟨by rw [HX.out]; rfl, HQ.out.low⟩

def QF (w0 : World) (g : Nat) (L : List Acct) (n p : Nd) (taken full : Bool) (w : World) : Prop := RTab w g L ∧ Below w0.heap.size w0 w ∧ FBlk w w0.heap.size n p taken full
theorem QF.next {w0 w w' : World} {g : Nat} {L : List Acct} {n p : Nd} {taken full : Bool} (h : QF w0 g L n p taken full w) (hb : Below w.heap.size w w') : QF w0 g L n p taken full w' := ⟨h.1.below hb, h.2.1.trans (hb.mono h.2.1.size), h.2.2.below hb⟩
theorem QF.tab {w0 w : World} {g : Nat} {L : List Acct} {n p : Nd} {taken full : Bool} (h : QF w0 g L n p taken full w) : RTab w g L := h.1
theorem QF.low {w0 w : World} {g : Nat} {L : List Acct} {n p : Nd} {taken full : Bool} (h : QF w0 g L n p taken full w) : Below w0.heap.size w0 w := h.2.1
theorem QF.fb {w0 w : World} {g : Nat} {L : List Acct} {n p : Nd} {taken full : Bool} (h : QF w0 g L n p taken full w) : FBlk w w0.heap.size n p taken full := h.2.2
theorem QF.start {w0 : World} {g : Nat} {L : List Acct} (h : RTab w0 g L) (n p : Nd) (taken full : Bool) : QF w0 g L n p taken full (w0.alloc (Obj.cells #[.int .u64 n.path, .int .u64 n.parent, .string n.name, .int .u32 n.mode, .string n.uid, .string n.gid, .string n.muid, .int .u32 n.atime, .int .u32 n.mtime, .int .u32 n.vers, .int .u64 n.length, .int .i64 n.opens, .int .i64 n.kids, .int .u64 p.path, .int .u64 p.parent, .string p.name, .int .u32 p.mode, .string p.uid, .string p.gid, .string p.muid, .int .u32 p.atime, .int .u32 p.mtime, .int .u32 p.vers, .int .u64 p.length, .int .i64 p.opens, .int .i64 p.kids, .bool taken, .bool full] 27)) := ⟨h.below ((Below.refl _ _).alloc (Nat.le_refl _) _), (Below.refl _ _).alloc (Nat.le_refl _) _, FBlk.new _ _ _ _ _⟩
theorem wpF {ops : Array Oper} {rest : List Oper} {op : Oper} {a : Act} {w : World} {Q : Exit → Act → World → Prop} {q : Nat} {n p : Nd} {taken full : Bool} (hk : FBlk w q n p taken full) (hgd : Region.wanted op (yielded ops a.tmps) = true) (x : Operand) (ho : op.op = .load 25 x) (hx : a.eval x = .pointer (some ⟨q, 13, none⟩))
    (h : wpList Tryz.prog ops Q rest (a.put op.dst (nodeV p)) w) : wpList Tryz.prog ops Q (op :: rest) a w := wn hk 13 p rfl hgd x ho hx h
theorem checkS_or (s : ByteArray) : checkS s = 0 ∨ checkS s = 50 := by
  unfold checkS
  split <;> simp
theorem eName_50 (n : Nd) (s : St) (r : Int) (taken : Bool) : eName n s r taken = if (checkS s.name != 0) = true then 50 else if (n.path == 1) = true then 90 else if mayB r 2 = false then 90 else if taken = true then 95 else 0 := by
  unfold eName
  rcases checkS_or s.name with h | h
  · rw [h]; simp
  · rw [h]
set_option maxRecDepth 100000 in
set_option maxHeartbeats 1600000 in
theorem refCalled_calls (g : Nat) (text user : ByteArray) (n p : Nd) (taken full : Bool) (nm : ByteArray) (s : St) (hto : s.name = nm) (w : World) (h : RTab w g (tableL text)) (hp : p.ok) (hs : nm.size ≤ 16777216) :
    Calls Tryz.prog 50 #[.pointer (some ⟨g, 0, none⟩), .string user, factsV n p taken full, .string nm] w fun e w' => e = .returned (.int .i64 (eName n s (rights (decide (user = p.uid)) (isMember (tableL text) user p.gid) p.mode) taken)) ∧ Below w.heap.size w w' := by
  subst hto
  have HQ := Lib.hid (QF.start h n p taken full)
  have HN := Lib.hid hp
  have HS := Lib.hid hs
  clear h hp hs
  obtain ⟨r, hr⟩ : ∃ r, rights (decide (user = p.uid)) (isMember (tableL text) user p.gid) p.mode = r := ⟨_, rfl⟩
  rw [hr]
  have HR := Lib.hid hr
  clear hr
  have hx := eName_50 n s r taken
  cases hm : mayB r 2 <;> cases hc : (checkS s.name != 0) <;> cases h1 : (n.path == 1) <;> cases taken
  all_goals
    rw [hm, hc, h1] at hx
    have HX := Lib.hid hx
    clear hx
    have HM := Lib.hid hm
    obtain ⟨k, hk⟩ : ∃ k, checkS s.name = k := ⟨_, rfl⟩
    rw [hk] at hc
    have HK := Lib.hid hk
    clear hm hk
    go_enter Tryz.func50, Tryz.ntmps50
    go_upto_region 1 with (fail)
    generalize w.alloc (Obj.cells _ _) = w1 at HQ ⊢
    have c0 : w1.cell? ⟨w.heap.size, 0, none⟩ = some (.int .u64 n.path) := Blk.cell HQ.out.fb 0
    have c26 := Blk.cell HQ.out.fb 26
    simp at c26
    go_wp2_with (first
      | (refine wpF HQ.out.fb rfl _ rfl rfl ?_)
      | (go_at_call 112; (with_reducible refine (refCheck_calls s.name _ HS.out).mono ?_); rw [HK.out]; rintro e w2 ⟨rfl, rfl⟩)
      | (go_at_call 111; (with_reducible refine (refMay2_calls g text user p _ _ HQ.out.tab HN.out).mono ?_); rw [HR.out, HM.out]; rintro e w2 ⟨rfl, hb⟩; replace HQ := Lib.hid (HQ.out.next hb); clear hb; have d26 := Blk.cell HQ.out.fb 26; simp at d26))
    go_ret
    exact ⟨by rw [HX.out]; rfl, HQ.out.low⟩
end Go.Proofs.YtlenlldiimohjaaGreatDoor
