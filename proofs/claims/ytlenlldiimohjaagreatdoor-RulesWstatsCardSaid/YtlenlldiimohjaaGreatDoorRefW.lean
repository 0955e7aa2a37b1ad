
/-
  The document's Wstat: it answers what wstatS says.
-/
import Derived.Test.YtlenlldiimohjaaGreatDoorRefM
import Derived.Test.YtlenlldiimohjaaGreatDoorRefU
import Derived.Test.YtlenlldiimohjaaGreatDoorWsL
import Derived.Test.YtlenlldiimohjaaGreatDoorRec
import Derived.Laws.EntriesVeiled
namespace Go.Proofs.YtlenlldiimohjaaGreatDoor
open Go.ChangeShapes Go.WideShapes Go.ChangeAt Go.RowKit

theorem results_refWstat {tmps : Array Value} {w : World} {q : Nat} {n : Nd} {e : Int} (h12 : tmps.getD 8 undef = .pointer (some ⟨q, 0, none⟩)) (h13 : tmps.getD 9 undef = .int .i64 e) (hk : NBlk w q n) :
    (results Tryz.f12 tmps).run Tryz.prog w = .ok (.tuple #[nodeV n, .int .i64 e]) w := by
  have h12' : tmps[8]?.getD undef = .pointer (some ⟨q, 0, none⟩) := by simpa using h12
  have h13' : tmps[9]?.getD undef = .int .i64 e := by simpa using h13
  simp [results, Tryz.results12, h12', h13', asAddr, loadVar_node hk]

/-- What is asked for, of the fields below k. -/
def upB (b : Nat → Bool) (k : Nat) (i : Nat) : Bool := decide (i < k) && b i
theorem upB_no {b : Nat → Bool} {k : Nat} (h : b k = false) : upB b (k + 1) = upB b k := by
  funext i
  unfold upB
  by_cases hi : i = k
  · subst hi
    rw [h]
    simp
  · by_cases hk : i < k
    · simp [hk, show i < k + 1 by omega]
    · simp [hk, show ¬ i < k + 1 by omega]
theorem upB_no5 {b : Nat → Bool} (n : Nd) (s : St) : chN n s (upB b 5) = n := by
  unfold chN
  simp [upB]
theorem upB_all {b : Nat → Bool} (n : Nd) (s : St) : chN n s (upB b 13) = chN n s b := by
  unfold chN
  simp [upB]
theorem ch_up5 {b : Nat → Bool} {n : Nd} {s : St} (h : b 5 = true) : { chN n s (upB b 5) with mode := s.mode } = chN n s (upB b 6) := by
  unfold chN
  simp [upB, h]
theorem ch_up7 {b : Nat → Bool} {n : Nd} {s : St} (h : b 7 = true) : { chN n s (upB b 7) with mtime := s.mtime } = chN n s (upB b 8) := by
  unfold chN
  simp [upB, h]
theorem ch_up8 {b : Nat → Bool} {n : Nd} {s : St} (h : b 8 = true) : { chN n s (upB b 8) with length := s.length } = chN n s (upB b 9) := by
  unfold chN
  simp [upB, h]
theorem ch_up9 {b : Nat → Bool} {n : Nd} {s : St} (h : b 9 = true) : { chN n s (upB b 9) with name := s.name } = chN n s (upB b 10) := by
  unfold chN
  simp [upB, h]
theorem ch_up11 {b : Nat → Bool} {n : Nd} {s : St} (h : b 11 = true) : { chN n s (upB b 11) with gid := s.gid } = chN n s (upB b 12) := by
  unfold chN
  simp [upB, h]
theorem or_low (b : Nat → Bool) : orN b 13 &&& 31 = orN b 5 := by
  have st : ∀ k, 5 ≤ k → k < 13 → orN b (k + 1) &&& 31 = orN b k &&& 31 := fun k h1 h2 => by
    rw [orN]
    split
    · rw [Nat.and_or_distrib_right]
      have : 2 ^ k &&& 31 = 0 := by
        rcases (show k = 5 ∨ k = 6 ∨ k = 7 ∨ k = 8 ∨ k = 9 ∨ k = 10 ∨ k = 11 ∨ k = 12 by omega) with rfl | rfl | rfl | rfl | rfl | rfl | rfl | rfl <;> decide
      rw [this, Nat.or_zero]
    · rfl
  rw [st 12 (by omega) (by omega), st 11 (by omega) (by omega), st 10 (by omega) (by omega), st 9 (by omega) (by omega), st 8 (by omega) (by omega), st 7 (by omega) (by omega), st 6 (by omega) (by omega), st 5 (by omega) (by omega)]
  have h := orN_lt b 5
  rw [show 31 = 2 ^ 5 - 1 from rfl, Nat.and_two_pow_sub_one_eq_mod, Nat.mod_eq_of_lt h]
theorem low_zero (b : Nat → Bool) : (((orN b 5 : Nat) : Int) != 0) = (b 0 || b 1 || b 2 || b 3 || b 4) := by
  unfold orN orN orN orN orN orN
  cases b 0 <;> cases b 1 <;> cases b 2 <;> cases b 3 <;> cases b 4 <;> rfl
/-- The first five fields. -/
theorem and_low (b : Nat → Bool) : (bits .and .u16 ((orN b 13 : Nat) : Int) 31 != 0) = (b 0 || b 1 || b 2 || b 3 || b 4) := by
  have h1 := orN_lt b 13
  rw [show bits .and .u16 ((orN b 13 : Nat) : Int) 31 = ((orN b 13 &&& 31 : Nat) : Int) from u16_and_nat _ 31 (by omega) (by omega), or_low, low_zero]
theorem first5 {b : Nat → Bool} {e : Nat → Int} (h : ∀ k, k < 5 → e k = 97) : firstE b e 5 = if (b 0 || b 1 || b 2 || b 3 || b 4) = true then 97 else 0 := by
  unfold firstE firstE firstE firstE firstE firstE
  rw [h 0 (by omega), h 1 (by omega), h 2 (by omega), h 3 (by omega), h 4 (by omega)]
  cases b 0 <;> cases b 1 <;> cases b 2 <;> cases b 3 <;> cases b 4 <;> rfl

/-- Where the document's Wstat stands: its node lies at q. -/
def RW (w0 : World) (L : List Acct) (g : Nat) (n p : Nd) (taken full : Bool) (s : St) (q : Nat) (m : Nd) (w : World) : Prop :=
  (RTab w g L ∧ FBlk w w0.heap.size n p taken full ∧ SBlk w (w0.heap.size + 1) s ∧ NBlk w (w0.heap.size + 1 + 1) Nd.none ∧ Below w0.heap.size w0 w) ∧ NBlk w q m ∧ w0.heap.size + 1 + 1 < q
section
variable {w0 w w' : World} {g q : Nat} {L : List Acct} {n m p : Nd} {taken full : Bool} {s : St} {b : Nat → Bool} {e : Nat → Int} {k : Nat} {ek : Int}
theorem RW.next (h : RW w0 L g n p taken full s q m w) (hb : Below w.heap.size w w') : RW w0 L g n p taken full s q m w' :=
  ⟨⟨h.1.1.below hb, h.1.2.1.below hb, h.1.2.2.1.below hb, h.1.2.2.2.1.below hb, h.1.2.2.2.2.trans (hb.mono h.1.2.2.2.2.size)⟩, h.2.1.below hb, h.2.2⟩
theorem RW.tab (h : RW w0 L g n p taken full s q m w) : RTab w g L := h.1.1
theorem RW.fb (h : RW w0 L g n p taken full s q m w) : FBlk w w0.heap.size n p taken full := h.1.2.1
theorem RW.sb (h : RW w0 L g n p taken full s q m w) : SBlk w (w0.heap.size + 1) s := h.1.2.2.1
theorem RW.rb (h : RW w0 L g n p taken full s q m w) : NBlk w (w0.heap.size + 1 + 1) Nd.none := h.1.2.2.2.1
theorem RW.low (h : RW w0 L g n p taken full s q m w) : Below w0.heap.size w0 w := h.1.2.2.2.2
theorem RW.nb (h : RW w0 L g n p taken full s q m w) : NBlk w q m := h.2.1
theorem RW.set (h : RW w0 L g n p taken full s q m w) (i : Nat) (v : Value) {m' : Nd} (hm : NBlk (w.setCell ⟨q, i, none⟩ v) q m') : RW w0 L g n p taken full s q m' (w.setCell ⟨q, i, none⟩ v) := by
  have hq := h.2.2
  exact ⟨⟨h.tab.other h.nb (by decide) (setCell_other w q i v), Blk.far h.fb (by show w0.heap.size ≠ q; omega) v, Blk.far h.sb (by show w0.heap.size + 1 ≠ q; omega) v, Blk.far h.rb (by show w0.heap.size + 1 + 1 ≠ q; omega) v, h.low.setCell (by show w0.heap.size ≤ q; omega) v⟩, hm, hq⟩
/-- And with what it has found so far. -/
def RK (w0 : World) (L : List Acct) (g : Nat) (n p : Nd) (taken full : Bool) (s : St) (q : Nat) (b : Nat → Bool) (e : Nat → Int) (k : Nat) (v : Value) (w : World) : Prop :=
  ∃ m, v = .int .i64 (firstE b e k) ∧ RW w0 L g n p taken full s q m w ∧ (firstE b e k = 0 → m = chN n s (upB b k))
theorem RK.no (h : RW w0 L g n p taken full s q m w) (hk : firstE b e k = ek) (hm : firstE b e k = 0 → m = chN n s (upB b k)) (hq : ((ek == 0) && b k) = false) : RK w0 L g n p taken full s q b e (k + 1) (.int .i64 ek) w := by
  by_cases h0 : ek = 0
  · have hb : b k = false := by rw [h0] at hq; simpa using hq
    have h1 := first_no (hk.trans h0) hb
    refine ⟨m, by rw [h1, h0], h, fun _ => ?_⟩
    rw [upB_no hb]
    exact hm (hk.trans h0)
  · have h1 : firstE b e (k + 1) = firstE b e k := first_stays (by rw [hk, bne_iff_ne]; exact h0) 1
    refine ⟨m, by rw [h1, hk], h, fun hz => absurd (hk.symm.trans (h1.symm.trans hz)) h0⟩
theorem RK.never (h : RW w0 L g n p taken full s q m w) (hk : firstE b e k = ek) (hq : ((ek == 0) && b k) = true) (he : e k = 97) : RK w0 L g n p taken full s q b e (k + 1) (.int .i64 97) w := by
  have h2 : ek = 0 ∧ b k = true := by simpa using hq
  have h1 := first_yes (hk.trans h2.1) h2.2
  exact ⟨m, by rw [h1, he], h, fun hz => by rw [h1, he] at hz; exact absurd hz (by decide)⟩
theorem RK.yes (h : RW w0 L g n p taken full s q m w) (hk : firstE b e k = ek) (hq : ((ek == 0) && b k) = true) (hm : b k = true → m = chN n s (upB b (k + 1))) {v : Int} (hv : e k = v) : RK w0 L g n p taken full s q b e (k + 1) (.int .i64 v) w := by
  have h2 : ek = 0 ∧ b k = true := by simpa using hq
  have h1 := first_yes (hk.trans h2.1) h2.2
  exact ⟨m, by rw [h1, hv], h, fun _ => hm h2.2⟩
variable {ops : Array Oper} {op : Oper} {a : Act}
theorem yRN (hw : Region.wanted op (yielded ops a.tmps) = true) (x : Operand) (ho : op.op = .load 25 x) (hx : a.eval x = .pointer (some ⟨q, 0, none⟩)) : YieldsIf Tryz.prog ops (RW w0 L g n p taken full s q m) op (nodeV m) a :=
  yieldsIf_load_mid hw _ x ho _ _ hx (nodeL m) _ (fun _ hS => Blk.range hS.2.1 0 _ rfl) Tryz.underlying25 rfl node_size
theorem yRS (hw : Region.wanted op (yielded ops a.tmps) = true) (x : Operand) (ho : op.op = .load 34 x) (hx : a.eval x = .pointer (some ⟨w0.heap.size + 1, 0, none⟩)) : YieldsIf Tryz.prog ops (RW w0 L g n p taken full s q m) op (statV s) a :=
  yieldsIf_load_mid hw _ x ho _ _ hx (statL s) _ (fun _ hS => Blk.range hS.1.2.2.1 0 _ rfl) Tryz.underlying34 rfl stat_size
end
def RA (w0 : World) (L : List Acct) (g : Nat) (n p : Nd) (taken full : Bool) (s : St) (w : World) : Prop :=
  RTab w g L ∧ FBlk w w0.heap.size n p taken full ∧ SBlk w (w0.heap.size + 1) s ∧ NBlk w (w0.heap.size + 1 + 1) Nd.none ∧ Below w0.heap.size w0 w
theorem RA.start (w : World) (L : List Acct) (g : Nat) (n p : Nd) (taken full : Bool) (s : St) (hp : RTab w g L) : RA w L g n p taken full s (((w.alloc (Obj.cells #[.int .u64 n.path, .int .u64 n.parent, .string n.name, .int .u32 n.mode, .string n.uid, .string n.gid, .string n.muid, .int .u32 n.atime, .int .u32 n.mtime, .int .u32 n.vers, .int .u64 n.length, .int .i64 n.opens, .int .i64 n.kids, .int .u64 p.path, .int .u64 p.parent, .string p.name, .int .u32 p.mode, .string p.uid, .string p.gid, .string p.muid, .int .u32 p.atime, .int .u32 p.mtime, .int .u32 p.vers, .int .u64 p.length, .int .i64 p.opens, .int .i64 p.kids, .bool taken, .bool full] 27)).alloc (Obj.cells #[.int .u16 s.typ, .int .u32 s.dev, .int .u8 s.kind, .int .u32 s.vers, .int .u64 s.path, .int .u32 s.mode, .int .u32 s.atime, .int .u32 s.mtime, .int .u64 s.length, .string s.name, .string s.uid, .string s.gid, .string s.muid] 34)).alloc (Obj.cells #[.int .u64 0, .int .u64 0, .string ⟨#[]⟩, .int .u32 0, .string ⟨#[]⟩, .string ⟨#[]⟩, .string ⟨#[]⟩, .int .u32 0, .int .u32 0, .int .u32 0, .int .u64 0, .int .i64 0, .int .i64 0] 25)) := by
  have up : ∀ (W : World) (o : Obj), Below W.heap.size W (W.alloc o) := fun W o => (Below.refl _ _).alloc (Nat.le_refl _) o
  have h1 := FBlk.new w n p taken full
  have h2 : SBlk ((w.alloc (Obj.cells (factsL n p taken full).toArray 27)).alloc (Obj.cells (statL s).toArray 34)) (w.alloc (Obj.cells (factsL n p taken full).toArray 27)).heap.size s := Blk.new _ _ _
  have h3 := NBlk.zero ((w.alloc (Obj.cells (factsL n p taken full).toArray 27)).alloc (Obj.cells (statL s).toArray 34))
  simp only [World.size_alloc] at h2 h3
  exact ⟨((hp.below (up _ _)).below (up _ _)).below (up _ _), (h1.below (up _ _)).below (up _ _), h2.below (up _ _), h3, (((Below.refl _ _).alloc (Nat.le_refl _) _).alloc (by simp) _).alloc (by simp; omega) _⟩
theorem RA.rw_ {w0 w w' : World} {L : List Acct} {g : Nat} {n p : Nd} {taken full : Bool} {s : St} (h : RA w0 L g n p taken full s w) (hb : Below w.heap.size w w') (hn : NBlk w' w.heap.size n) : RW w0 L g n p taken full s w.heap.size n w' :=
  ⟨⟨h.1.below hb, h.2.1.below hb, h.2.2.1.below hb, h.2.2.2.1.below hb, h.2.2.2.2.trans (hb.mono h.2.2.2.2.size)⟩, hn, Blk.lt h.2.2.2.1⟩
theorem mine_leads (text user : ByteArray) (n : Nd) : rmineB (tableL text) user n = mineB (tableL text) user n := by
  unfold rmineB mineB
  rw [table_leads]
theorem uid_eq (user : ByteArray) (n : Nd) : (user.toList == n.uid.toList) = decide (user = n.uid) := beq_str _ _

set_option maxRecDepth 100000 in
set_option maxHeartbeats 12000000 in
theorem refWstat_calls (g : Nat) (text : ByteArray) (user : ByteArray) (n p : Nd) (taken full : Bool) (s : St) (w : World) (h : RTab w g (tableL text)) (hn : n.ok) (hp : p.ok) (hnf : (recS n).fit) (hsf : s.fit) (hs : s.name.size ≤ 16777216) :
    Calls Tryz.prog 12 #[.pointer (some ⟨g, 0, none⟩), .string user, factsV n p taken full, statV s] w fun e w' => e = .returned (.tuple #[nodeV (wstatS (tableL text) user n p taken s).1, .int .i64 (wstatS (tableL text) user n p taken s).2]) ∧ Below w.heap.size w w' := by
  have HA := Lib.hid (RA.start w (tableL text) g n p taken full s h)
  have HN := Lib.hid hn
  have HP := Lib.hid hp
  have HF1 := Lib.hid hnf
  have HF2 := Lib.hid hsf
  have HSZ := Lib.hid hs
  have HM0 := Lib.hid hsf.2.2.2.2.1.1
  have HM1 := Lib.hid hsf.2.2.2.2.1.2
  obtain ⟨b, hb⟩ : ∃ b, touchB s (recS n) = b := ⟨_, rfl⟩
  obtain ⟨e, he⟩ : ∃ e, eAt (tableL text) user n p taken s = e := ⟨_, rfl⟩
  obtain ⟨tc, ht⟩ : ∃ t : Int, ((orN b 13 : Nat) : Int) = t := ⟨_, rfl⟩
  have HTO := Lib.hid (show ∀ i, i < 13 → (bits .and .u16 tc ((2 ^ i : Nat) : Int) != 0) = b i from fun i hi => by
    have h1 := and_16 b i hi
    rw [ht] at h1
    show (!(bits .and .u16 tc ((2 ^ i : Nat) : Int) == 0)) = b i
    rw [h1, Bool.not_not])
  have HT5 := Lib.hid (show (bits .and .u16 tc 31 != 0) = (b 0 || b 1 || b 2 || b 3 || b 4) from by rw [← ht]; exact and_low b)
  have HE5 := Lib.hid (show firstE b e 5 = if (b 0 || b 1 || b 2 || b 3 || b 4) = true then 97 else 0 from first5 (fun k hk => by
    rw [← he]
    rcases (show k = 0 ∨ k = 1 ∨ k = 2 ∨ k = 3 ∨ k = 4 by omega) with rfl | rfl | rfl | rfl | rfl <;> rfl))
  have HBE := Lib.hid (And.intro hb (And.intro he ht))
  clear h hn hp hnf hsf hs hb he ht
  go_enter Tryz.func12, Tryz.ntmps12
  go_upto_region 1 with (fail)
  generalize ((w.alloc (Obj.cells #[.int .u64 n.path, .int .u64 n.parent, .string n.name, .int .u32 n.mode, .string n.uid, .string n.gid, .string n.muid, .int .u32 n.atime, .int .u32 n.mtime, .int .u32 n.vers, .int .u64 n.length, .int .i64 n.opens, .int .i64 n.kids, .int .u64 p.path, .int .u64 p.parent, .string p.name, .int .u32 p.mode, .string p.uid, .string p.gid, .string p.muid, .int .u32 p.atime, .int .u32 p.mtime, .int .u32 p.vers, .int .u64 p.length, .int .i64 p.opens, .int .i64 p.kids, .bool taken, .bool full] 27)).alloc (Obj.cells #[.int .u16 s.typ, .int .u32 s.dev, .int .u8 s.kind, .int .u32 s.vers, .int .u64 s.path, .int .u32 s.mode, .int .u32 s.atime, .int .u32 s.mtime, .int .u64 s.length, .string s.name, .string s.uid, .string s.gid, .string s.muid] 34)).alloc (Obj.cells #[.int .u64 0, .int .u64 0, .string ⟨#[]⟩, .int .u32 0, .string ⟨#[]⟩, .string ⟨#[]⟩, .string ⟨#[]⟩, .int .u32 0, .int .u32 0, .int .u32 0, .int .u64 0, .int .i64 0, .int .i64 0] 25) = w1 at HA ⊢
  go_upto_region 2 with (first
    | (refine wn HA.out.2.1 0 n rfl rfl _ rfl rfl ?_)
    | (refine wl_store (NBlk.zero _) n rfl _ _ rfl rfl rfl ?_; intro w2 hs ho hz hbl; have HR := Lib.hid (RA.rw_ HA.out (hbl _ _ ((Below.refl _ _).alloc (Nat.le_refl _) _) (Nat.le_refl _)) hs); clear hs ho hz hbl))
  clear HA
  generalize w1.heap.size = q at HR ⊢
  try simp only [Act.put]
  refine wp_region_held_drew (S := RW w (tableL text) g n p taken full s q n) (by kernel_rfl) (HR.out.next (below_drew _)) (fun hHeld => ?_)
  refine wpAnyH_takeD 15 (i := 0) rfl rfl (by kernel_rfl) (by kernel_rfl) (by kernel_rfl) (fun _ _ _ h => h) (yRS (by rfl) _ rfl rfl) (by assumption) ?_
  simp only [Act.put, List.setIfInBounds_toArray, List.set_cons_zero, List.set_cons_succ]
  refine wpAnyH_takeD 16 (i := 1) rfl rfl (by kernel_rfl) (by kernel_rfl) (by kernel_rfl) (fun _ _ _ h => h) (yRN (by rfl) _ rfl rfl) (by assumption) ?_
  simp only [Act.put, List.setIfInBounds_toArray, List.set_cons_zero, List.set_cons_succ]
  refine wpAnyH_ready (rs := [2]) (by kernel_rfl) (by simp) ?_
  refine AllReadyH.cons rfl (fun K hK => ?_) AllReadyH.nil
  rw [if_pos (by rfl)]
  go_simp
  (with_reducible refine (refRecord_calls n _ HN.out).mono ?_)
  rintro e w3 ⟨rfl, hb⟩
  dsimp only
  have hOld := hHeld.next hb
  clear hHeld hb
  refine hK.out _ _ hOld (fun hHeld => ?_)
  clear hK hOld
  refine wpAnyH_ready (rs := [3]) (by kernel_rfl) (by simp) ?_
  refine AllReadyH.cons rfl (fun K hK => ?_) AllReadyH.nil
  rw [if_pos (by rfl)]
  go_simp
  (with_reducible refine (refTouched_calls s (recS n) _ HF2.out HF1.out).mono ?_)
  rw [HBE.out.1, HBE.out.2.2]
  rintro e w3 ⟨rfl, hb⟩
  dsimp only
  have hOld := hHeld.next hb
  clear hHeld hb
  refine hK.out _ _ hOld (fun hHeld => ?_)
  clear hK hOld
  refine wpAnyH_takeD 11 (i := 4) (v := .int .u16 tc) rfl rfl (by kernel_rfl) (by kernel_rfl) (by kernel_rfl) (fun _ _ _ h => h) (Or.inl ⟨by rfl, fun wq hSw => by go_simp⟩) (by assumption) ?_
  simp only [Act.put, List.setIfInBounds_toArray, List.set_cons_zero, List.set_cons_succ]
  refine wpAnyH_done (by kernel_rfl) ?_ _
  replace HR := Lib.hid hHeld
  clear hHeld
  have ht := HT5.out
  go_upto_if 21 with (fail)
  go_cut [12] (fun v wx => RK w (tableL text) g n p taken full s q b e 5 v wx)
  case first =>
    as_aux_lemma =>
    cases hq : (b 0 || b 1 || b 2 || b 3 || b 4)
    · have HE := Lib.hid (show firstE b e 5 = 0 from by rw [HE5.out, hq]; rfl)
      go_wp2_with fail
      go_meet
      case rel => exact ⟨n, by rw [HE.out], HR.out, fun _ => (upB_no5 n s).symm⟩
    · have HE := Lib.hid (show firstE b e 5 = 97 from by rw [HE5.out, hq]; rfl)
      go_wp2_with fail
      go_meet
      case rel => exact ⟨n, by rw [HE.out], HR.out, fun hz => absurd (HE.out.symm.trans hz) (by decide)⟩
  clear ht HT5 HE5
  obtain ⟨m, rfl, hr, hm⟩ := hcut
  clear HR
  have HR := Lib.hid hr
  have HM := Lib.hid hm
  obtain ⟨ek, hek⟩ : ∃ x, firstE b e 5 = x := ⟨_, rfl⟩
  have HK := Lib.hid hek
  rw [hek]
  clear hr hm hek
  go_upto_region 6 with (fail)
  go_cut [28] (fun v wx => v = .bool ((ek == 0) && b 5) ∧ wx = wc)
  case first =>
    have ht : (bits .and .u16 tc 32 != 0) = b 5 := HTO.out 5 (by omega)
    as_aux_lemma =>
    cases h0 : (ek == 0)
    all_goals
      go_wp2_with fail
      go_meet
      case rel => exact ⟨by rw [h0]; rfl, rfl⟩
  obtain ⟨rfl, rfl⟩ := hcut
  go_upto_if 28 with (fail)
  go_cut [12] (fun v wx => RK w (tableL text) g n p taken full s q b e 6 v wx)
  case first =>
    as_aux_lemma =>
    cases hq : ((ek == 0) && b 5)
    · go_wp2_with fail
      go_meet
      case rel => exact RK.no HR.out HK.out HM.out hq
    · have HZ := Lib.hid (show ek = 0 from by
        have h2 : ek = 0 ∧ b 5 = true := by simpa using hq
        exact h2.1)
      have HM2 := Lib.hid (show b 5 = true → { m with mode := s.mode } = chN n s (upB b 6) from fun hb => by rw [HM.out (HK.out.trans HZ.out)]; exact ch_up5 hb)
      have k1 : wc.cell? ⟨w.heap.size + 1, 5, none⟩ = some (.int .u32 s.mode) := Blk.cell HR.out.sb 5
      go_upto_region 8 with (first
        | (refine wn HR.out.fb 0 n rfl rfl _ rfl rfl ?_)
        | (go_at_call 47; (with_reducible refine (refMode_calls g (tableL text) user n s.mode s rfl _ HR.out.tab HN.out HM0.out HM1.out).mono ?_); rw [show eMode (rmineB (tableL text) user n) n s = e 5 from by rw [mine_leads, ← HBE.out.2.1]; rfl]; rintro e2 w4 ⟨rfl, hb⟩; replace HR := Lib.hid (HR.out.next hb); clear hb))
      clear k1
      have k1 : w4.cell? ⟨w.heap.size + 1, 5, none⟩ = some (.int .u32 s.mode) := Blk.cell HR.out.sb 5
      have k2 : w4.cell? ⟨q, 3, none⟩ = some (.int .u32 m.mode) := Blk.cell HR.out.nb 3
      have k3 := Blk.frozen HR.out.nb 3
      go_wp2_with fail
      go_meet
      case rel => exact RK.yes (HR.out.set 3 _ (show NBlk _ q { m with mode := s.mode } from Blk.set_ HR.out.nb 3 _)) HK.out hq HM2.out rfl
  clear HM HK
  obtain ⟨m, rfl, hr, hm⟩ := hcut
  clear HR
  have HR := Lib.hid hr
  have HM := Lib.hid hm
  obtain ⟨ek, hek⟩ : ∃ x, firstE b e 6 = x := ⟨_, rfl⟩
  have HK := Lib.hid hek
  rw [hek]
  clear hr hm hek
  go_upto_region 9 with (fail)
  go_cut [45] (fun v wx => v = .bool ((ek == 0) && b 6) ∧ wx = wc)
  case first =>
    have ht : (bits .and .u16 tc 64 != 0) = b 6 := HTO.out 6 (by omega)
    as_aux_lemma =>
    cases h0 : (ek == 0)
    all_goals
      go_wp2_with fail
      go_meet
      case rel => exact ⟨by rw [h0]; rfl, rfl⟩
  obtain ⟨rfl, rfl⟩ := hcut
  go_upto_if 45 with (fail)
  go_cut [12] (fun v wx => RK w (tableL text) g n p taken full s q b e 7 v wx)
  case first =>
    as_aux_lemma =>
    cases hq : ((ek == 0) && b 6)
    · go_wp2_with fail
      go_meet
      case rel => exact RK.no HR.out HK.out HM.out hq
    · go_wp2_with fail
      go_meet
      case rel => exact RK.never HR.out HK.out hq (by rw [← HBE.out.2.1]; rfl)
  clear HM HK
  obtain ⟨m, rfl, hr, hm⟩ := hcut
  clear HR
  have HR := Lib.hid hr
  have HM := Lib.hid hm
  obtain ⟨ek, hek⟩ : ∃ x, firstE b e 7 = x := ⟨_, rfl⟩
  have HK := Lib.hid hek
  rw [hek]
  clear hr hm hek
  go_upto_region 11 with (fail)
  go_cut [52] (fun v wx => v = .bool ((ek == 0) && b 7) ∧ wx = wc)
  case first =>
    have ht : (bits .and .u16 tc 128 != 0) = b 7 := HTO.out 7 (by omega)
    as_aux_lemma =>
    cases h0 : (ek == 0)
    all_goals
      go_wp2_with fail
      go_meet
      case rel => exact ⟨by rw [h0]; rfl, rfl⟩
  obtain ⟨rfl, rfl⟩ := hcut
  go_upto_if 52 with (fail)
  go_cut [12] (fun v wx => RK w (tableL text) g n p taken full s q b e 8 v wx)
  case first =>
    as_aux_lemma =>
    cases hq : ((ek == 0) && b 7)
    · go_wp2_with fail
      go_meet
      case rel => exact RK.no HR.out HK.out HM.out hq
    · have HZ := Lib.hid (show ek = 0 from by
        have h2 : ek = 0 ∧ b 7 = true := by simpa using hq
        exact h2.1)
      have HM2 := Lib.hid (show b 7 = true → { m with mtime := s.mtime } = chN n s (upB b 8) from fun hb => by rw [HM.out (HK.out.trans HZ.out)]; exact ch_up7 hb)
      have k1 : wc.cell? ⟨w.heap.size + 1, 7, none⟩ = some (.int .u32 s.mtime) := Blk.cell HR.out.sb 7
      have k2 : wc.cell? ⟨q, 8, none⟩ = some (.int .u32 m.mtime) := Blk.cell HR.out.nb 8
      have k3 := Blk.frozen HR.out.nb 8
      have k4 : wc.cell? ⟨w.heap.size, 4, none⟩ = some (.string n.uid) := Blk.cell HR.out.fb 4
      have k5 : wc.cell? ⟨w.heap.size, 5, none⟩ = some (.string n.gid) := Blk.cell HR.out.fb 5
      have HEV := Lib.hid (show e 7 = if (decide (user = n.uid) || leads (tableL text) user n.gid) = false then 90 else 0 from by rw [← HBE.out.2.1]; rfl)
      cases hu : (user.toList == n.uid.toList)
      · have HU := Lib.hid ((uid_eq user n).symm.trans hu)
        cases hl : leads (tableL text) user n.gid
        · have HV := Lib.hid (show e 7 = 90 from by rw [HEV.out, HU.out, hl]; rfl)
          have HL := Lib.hid hl
          clear hl
          go_wp2_with (go_at_call 48; (with_reducible refine (refLeads_calls g (tableL text) user n.gid _ HR.out.tab).mono ?_); rw [table_leads, HL.out]; rintro e2 w4 ⟨rfl, rfl⟩)
          go_meet
          case rel => exact RK.yes (HR.out.set 8 _ (show NBlk _ q { m with mtime := s.mtime } from Blk.set_ HR.out.nb 8 _)) HK.out hq HM2.out HV.out
        · have HV := Lib.hid (show e 7 = ek from by rw [HEV.out, HU.out, hl, HZ.out]; rfl)
          have HL := Lib.hid hl
          clear hl
          go_wp2_with (go_at_call 48; (with_reducible refine (refLeads_calls g (tableL text) user n.gid _ HR.out.tab).mono ?_); rw [table_leads, HL.out]; rintro e2 w4 ⟨rfl, rfl⟩)
          go_meet
          case rel => exact RK.yes (HR.out.set 8 _ (show NBlk _ q { m with mtime := s.mtime } from Blk.set_ HR.out.nb 8 _)) HK.out hq HM2.out HV.out
      · have HU := Lib.hid ((uid_eq user n).symm.trans hu)
        have HV := Lib.hid (show e 7 = ek from by rw [HEV.out, HU.out, HZ.out]; rfl)
        go_wp2_with fail
        go_meet
        case rel => exact RK.yes (HR.out.set 8 _ (show NBlk _ q { m with mtime := s.mtime } from Blk.set_ HR.out.nb 8 _)) HK.out hq HM2.out HV.out
  clear HM HK
  obtain ⟨m, rfl, hr, hm⟩ := hcut
  clear HR
  have HR := Lib.hid hr
  have HM := Lib.hid hm
  obtain ⟨ek, hek⟩ : ∃ x, firstE b e 8 = x := ⟨_, rfl⟩
  have HK := Lib.hid hek
  rw [hek]
  clear hr hm hek
  go_upto_region 15 with (fail)
  go_cut [76] (fun v wx => v = .bool ((ek == 0) && b 8) ∧ wx = wc)
  case first =>
    have ht : (bits .and .u16 tc 256 != 0) = b 8 := HTO.out 8 (by omega)
    as_aux_lemma =>
    cases h0 : (ek == 0)
    all_goals
      go_wp2_with fail
      go_meet
      case rel => exact ⟨by rw [h0]; rfl, rfl⟩
  obtain ⟨rfl, rfl⟩ := hcut
  go_upto_if 76 with (fail)
  go_cut [12] (fun v wx => RK w (tableL text) g n p taken full s q b e 9 v wx)
  case first =>
    as_aux_lemma =>
    cases hq : ((ek == 0) && b 8)
    · go_wp2_with fail
      go_meet
      case rel => exact RK.no HR.out HK.out HM.out hq
    · have HZ := Lib.hid (show ek = 0 from by
        have h2 : ek = 0 ∧ b 8 = true := by simpa using hq
        exact h2.1)
      have HM2 := Lib.hid (show b 8 = true → { m with length := s.length } = chN n s (upB b 9) from fun hb => by rw [HM.out (HK.out.trans HZ.out)]; exact ch_up8 hb)
      have k1 : wc.cell? ⟨w.heap.size + 1, 8, none⟩ = some (.int .u64 s.length) := Blk.cell HR.out.sb 8
      go_upto_region 17 with (first
        | (refine wn HR.out.fb 0 n rfl rfl _ rfl rfl ?_)
        | (go_at_call 49; (with_reducible refine (refLength_calls g text user n s.length s rfl _ HR.out.tab HN.out).mono ?_); rw [show eLen n s (rights (decide (user = n.uid)) (isMember (tableL text) user n.gid) n.mode) = e 8 from by rw [← HBE.out.2.1]; rfl]; rintro e2 w4 ⟨rfl, hb⟩; replace HR := Lib.hid (HR.out.next hb); clear hb))
      clear k1
      have k1 : w4.cell? ⟨w.heap.size + 1, 8, none⟩ = some (.int .u64 s.length) := Blk.cell HR.out.sb 8
      have k2 : w4.cell? ⟨q, 10, none⟩ = some (.int .u64 m.length) := Blk.cell HR.out.nb 10
      have k3 := Blk.frozen HR.out.nb 10
      go_wp2_with fail
      go_meet
      case rel => exact RK.yes (HR.out.set 10 _ (show NBlk _ q { m with length := s.length } from Blk.set_ HR.out.nb 10 _)) HK.out hq HM2.out rfl
  clear HM HK
  obtain ⟨m, rfl, hr, hm⟩ := hcut
  clear HR
  have HR := Lib.hid hr
  have HM := Lib.hid hm
  obtain ⟨ek, hek⟩ : ∃ x, firstE b e 9 = x := ⟨_, rfl⟩
  have HK := Lib.hid hek
  rw [hek]
  clear hr hm hek
  go_upto_region 18 with (fail)
  go_cut [93] (fun v wx => v = .bool ((ek == 0) && b 9) ∧ wx = wc)
  case first =>
    have ht : (bits .and .u16 tc 512 != 0) = b 9 := HTO.out 9 (by omega)
    as_aux_lemma =>
    cases h0 : (ek == 0)
    all_goals
      go_wp2_with fail
      go_meet
      case rel => exact ⟨by rw [h0]; rfl, rfl⟩
  obtain ⟨rfl, rfl⟩ := hcut
  go_upto_if 93 with (fail)
  go_cut [12] (fun v wx => RK w (tableL text) g n p taken full s q b e 10 v wx)
  case first =>
    as_aux_lemma =>
    cases hq : ((ek == 0) && b 9)
    · go_wp2_with fail
      go_meet
      case rel => exact RK.no HR.out HK.out HM.out hq
    · have HZ := Lib.hid (show ek = 0 from by
        have h2 : ek = 0 ∧ b 9 = true := by simpa using hq
        exact h2.1)
      have HM2 := Lib.hid (show b 9 = true → { m with name := s.name } = chN n s (upB b 10) from fun hb => by rw [HM.out (HK.out.trans HZ.out)]; exact ch_up9 hb)
      have k1 : wc.cell? ⟨w.heap.size + 1, 9, none⟩ = some (.string s.name) := Blk.cell HR.out.sb 9
      go_upto_region 20 with (first
        | (refine wf HR.out.fb 0 n p taken full rfl rfl _ rfl rfl ?_)
        | (go_at_call 50; (with_reducible refine (refCalled_calls g text user n p taken full s.name s rfl _ HR.out.tab HP.out HSZ.out).mono ?_); rw [show eName n s (rights (decide (user = p.uid)) (isMember (tableL text) user p.gid) p.mode) taken = e 9 from by rw [← HBE.out.2.1]; rfl]; rintro e2 w4 ⟨rfl, hb⟩; replace HR := Lib.hid (HR.out.next hb); clear hb))
      clear k1
      have k1 : w4.cell? ⟨w.heap.size + 1, 9, none⟩ = some (.string s.name) := Blk.cell HR.out.sb 9
      have k2 : w4.cell? ⟨q, 2, none⟩ = some (.string m.name) := Blk.cell HR.out.nb 2
      have k3 := Blk.frozen HR.out.nb 2
      go_wp2_with fail
      go_meet
      case rel => exact RK.yes (HR.out.set 2 _ (show NBlk _ q { m with name := s.name } from Blk.set_ HR.out.nb 2 _)) HK.out hq HM2.out rfl
  clear HM HK
  obtain ⟨m, rfl, hr, hm⟩ := hcut
  clear HR
  have HR := Lib.hid hr
  have HM := Lib.hid hm
  obtain ⟨ek, hek⟩ : ∃ x, firstE b e 10 = x := ⟨_, rfl⟩
  have HK := Lib.hid hek
  rw [hek]
  clear hr hm hek
  go_upto_region 21 with (fail)
  go_cut [109] (fun v wx => v = .bool ((ek == 0) && b 10) ∧ wx = wc)
  case first =>
    have ht : (bits .and .u16 tc 1024 != 0) = b 10 := HTO.out 10 (by omega)
    as_aux_lemma =>
    cases h0 : (ek == 0)
    all_goals
      go_wp2_with fail
      go_meet
      case rel => exact ⟨by rw [h0]; rfl, rfl⟩
  obtain ⟨rfl, rfl⟩ := hcut
  go_upto_if 109 with (fail)
  go_cut [12] (fun v wx => RK w (tableL text) g n p taken full s q b e 11 v wx)
  case first =>
    as_aux_lemma =>
    cases hq : ((ek == 0) && b 10)
    · go_wp2_with fail
      go_meet
      case rel => exact RK.no HR.out HK.out HM.out hq
    · go_wp2_with fail
      go_meet
      case rel => exact RK.never HR.out HK.out hq (by rw [← HBE.out.2.1]; rfl)
  clear HM HK
  obtain ⟨m, rfl, hr, hm⟩ := hcut
  clear HR
  have HR := Lib.hid hr
  have HM := Lib.hid hm
  obtain ⟨ek, hek⟩ : ∃ x, firstE b e 11 = x := ⟨_, rfl⟩
  have HK := Lib.hid hek
  rw [hek]
  clear hr hm hek
  go_upto_region 23 with (fail)
  go_cut [116] (fun v wx => v = .bool ((ek == 0) && b 11) ∧ wx = wc)
  case first =>
    have ht : (bits .and .u16 tc 2048 != 0) = b 11 := HTO.out 11 (by omega)
    as_aux_lemma =>
    cases h0 : (ek == 0)
    all_goals
      go_wp2_with fail
      go_meet
      case rel => exact ⟨by rw [h0]; rfl, rfl⟩
  obtain ⟨rfl, rfl⟩ := hcut
  go_upto_if 116 with (fail)
  go_cut [12] (fun v wx => RK w (tableL text) g n p taken full s q b e 12 v wx)
  case first =>
    as_aux_lemma =>
    cases hq : ((ek == 0) && b 11)
    · go_wp2_with fail
      go_meet
      case rel => exact RK.no HR.out HK.out HM.out hq
    · have HZ := Lib.hid (show ek = 0 from by
        have h2 : ek = 0 ∧ b 11 = true := by simpa using hq
        exact h2.1)
      have HM2 := Lib.hid (show b 11 = true → { m with gid := s.gid } = chN n s (upB b 12) from fun hb => by rw [HM.out (HK.out.trans HZ.out)]; exact ch_up11 hb)
      have k1 : wc.cell? ⟨w.heap.size + 1, 11, none⟩ = some (.string s.gid) := Blk.cell HR.out.sb 11
      go_upto_region 25 with (first
        | (refine wn HR.out.fb 0 n rfl rfl _ rfl rfl ?_)
        | (go_at_call 51; (with_reducible refine (refGroup_calls g text user n s.gid s rfl _ HR.out.tab).mono ?_); rw [show eGid (tableL text) user n s = e 11 from by rw [← HBE.out.2.1]; rfl]; rintro e2 w4 ⟨rfl, hb⟩; replace HR := Lib.hid (HR.out.next hb); clear hb))
      clear k1
      have k1 : w4.cell? ⟨w.heap.size + 1, 11, none⟩ = some (.string s.gid) := Blk.cell HR.out.sb 11
      have k2 : w4.cell? ⟨q, 5, none⟩ = some (.string m.gid) := Blk.cell HR.out.nb 5
      have k3 := Blk.frozen HR.out.nb 5
      go_wp2_with fail
      go_meet
      case rel => exact RK.yes (HR.out.set 5 _ (show NBlk _ q { m with gid := s.gid } from Blk.set_ HR.out.nb 5 _)) HK.out hq HM2.out rfl
  clear HM HK
  obtain ⟨m, rfl, hr, hm⟩ := hcut
  clear HR
  have HR := Lib.hid hr
  have HM := Lib.hid hm
  obtain ⟨ek, hek⟩ : ∃ x, firstE b e 12 = x := ⟨_, rfl⟩
  have HK := Lib.hid hek
  rw [hek]
  clear hr hm hek
  go_upto_region 26 with (fail)
  go_cut [133] (fun v wx => v = .bool ((ek == 0) && b 12) ∧ wx = wc)
  case first =>
    have ht : (bits .and .u16 tc 4096 != 0) = b 12 := HTO.out 12 (by omega)
    as_aux_lemma =>
    cases h0 : (ek == 0)
    all_goals
      go_wp2_with fail
      go_meet
      case rel => exact ⟨by rw [h0]; rfl, rfl⟩
  obtain ⟨rfl, rfl⟩ := hcut
  go_upto_if 133 with (fail)
  go_cut [12] (fun v wx => RK w (tableL text) g n p taken full s q b e 13 v wx)
  case first =>
    as_aux_lemma =>
    cases hq : ((ek == 0) && b 12)
    · go_wp2_with fail
      go_meet
      case rel => exact RK.no HR.out HK.out HM.out hq
    · go_wp2_with fail
      go_meet
      case rel => exact RK.never HR.out HK.out hq (by rw [← HBE.out.2.1]; rfl)
  clear HM HK
  obtain ⟨m, rfl, hr, hm⟩ := hcut
  clear HR
  have HR := Lib.hid hr
  have HM := Lib.hid hm
  clear hr hm
  cases hz : (firstE b e 13 != 0)
  · have hz0 : firstE b e 13 = 0 := by simpa using hz
    have HW := Lib.hid (show wstatS (tableL text) user n p taken s = (m, 0) from by
      unfold wstatS
      rw [HBE.out.1, HBE.out.2.1, if_neg (by rw [hz]; decide), HM.out hz0, upB_all])
    clear hz0
    go_wp2_with (first
      | (refine wnN HR.out.nb rfl _ rfl rfl ?_)
      | (refine wl_store HR.out.rb m rfl _ _ rfl rfl rfl ?_; intro wh hs ho hz hbl; have HX := Lib.hid hs; have HL := Lib.hid (hbl _ _ HR.out.low (by omega)); clear hs ho hz hbl))
    exact bodyPost_ret (results_refWstat rfl rfl HX.out) rfl ⟨by rw [HW.out], HL.out⟩
  · have HW := Lib.hid (show wstatS (tableL text) user n p taken s = (Nd.none, firstE b e 13) from by
      unfold wstatS
      rw [HBE.out.1, HBE.out.2.1, if_pos hz])
    go_wp2_with (refine wl_store HR.out.rb Nd.none rfl _ _ rfl rfl rfl ?_; intro wh hs ho hz hbl; have HX := Lib.hid hs; have HL := Lib.hid (hbl _ _ HR.out.low (by omega)); clear hs ho hz hbl)
    exact bodyPost_ret (results_refWstat rfl rfl HX.out) rfl ⟨by rw [HW.out], HL.out⟩
end Go.Proofs.YtlenlldiimohjaaGreatDoor
