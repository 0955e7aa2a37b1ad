/-
  Records: Record of both; two records held against each other.
-/
import Derived.Test.YtlenlldiimohjaaDoorW2
import Derived.Test.YtlenlldiimohjaaDoorV0
namespace Go.Proofs.YtlenlldiimohjaaDoor
open Go.ChangeShapes Go.WideShapes Go.ChangeAt Go.RowKit

/-- A record. -/
structure St where
  typ : Int
  dev : Int
  kind : Int
  vers : Int
  path : Int
  mode : Int
  atime : Int
  mtime : Int
  length : Int
  name : ByteArray
  uid : ByteArray
  gid : ByteArray
  muid : ByteArray
abbrev statL (s : St) : List Value := [.int .u16 s.typ, .int .u32 s.dev, .int .u8 s.kind, .int .u32 s.vers, .int .u64 s.path, .int .u32 s.mode, .int .u32 s.atime, .int .u32 s.mtime, .int .u64 s.length, .string s.name, .string s.uid, .string s.gid, .string s.muid]
abbrev statV (s : St) : Value := .agg #[.int .u16 s.typ, .int .u32 s.dev, .int .u8 s.kind, .int .u32 s.vers, .int .u64 s.path, .int .u32 s.mode, .int .u32 s.atime, .int .u32 s.mtime, .int .u64 s.length, .string s.name, .string s.uid, .string s.gid, .string s.muid]
def St.none : St := ⟨0, 0, 0, 0, 0, 0, 0, 0, 0, ⟨#[]⟩, ⟨#[]⟩, ⟨#[]⟩, ⟨#[]⟩⟩
/-- A node's record. -/
def recS (n : Nd) : St := ⟨0, 0, n.mode / 16777216, n.vers, n.path, n.mode, n.atime, n.mtime, if isB n.mode 2147483648 = true then 0 else n.length, n.name, n.uid, n.gid, n.muid⟩

def SBlk (w : World) (q : Nat) (s : St) : Prop := Blk w q 66 (statL s).toArray
theorem stat_size : (Tryd.prog.info? 66).map (·.size) = some 13 := by kernel_rfl
theorem statV_cells (s : St) : (statL s).toArray.all (·.oneCell') = true := by simp [statL, Value.oneCell']
theorem over_stat (s t : St) : over (statL s).toArray 0 (statL t) = (statL t).toArray := by kernel_rfl
theorem SBlk.zero (w : World) : SBlk (w.alloc (Obj.cells #[.int .u16 0, .int .u32 0, .int .u8 0, .int .u32 0, .int .u64 0, .int .u32 0, .int .u32 0, .int .u32 0, .int .u64 0, .string ⟨#[]⟩, .string ⟨#[]⟩, .string ⟨#[]⟩, .string ⟨#[]⟩] 66)) w.heap.size St.none := Blk.new _ _ _
section
variable {ops : Array Oper} {rest : List Oper} {op : Oper} {a : Act} {w w' : World} {Q : Exit → Act → World → Prop} {q : Nat} {s : St}
theorem SBlk.below (h : SBlk w q s) (hb : Below w.heap.size w w') : SBlk w' q s := Blk.below h hb (Blk.lt h)
theorem wS (hk : SBlk w q s) (hgd : Region.wanted op (yielded ops a.tmps) = true) (x : Operand) (ho : op.op = .load 66 x) (hx : a.eval x = .pointer (some ⟨q, 0, none⟩))
    (h : wpList Tryd.prog ops Q rest (a.put op.dst (statV s)) w) : wpList Tryd.prog ops Q (op :: rest) a w :=
  wlw hk 0 (statL s) rfl hgd _ x ho hx _ Tryd.underlying66 rfl stat_size h
theorem wstS (hk : SBlk w q s) (t : St) (hgd : op.guard = none) (x y : Operand) (ho : op.op = .store 66 x y) (hx : a.eval x = .pointer (some ⟨q, 0, none⟩)) (hy : a.eval y = statV t)
    (h : ∀ w' : World, SBlk w' q t → (∀ i, i ≠ q → w'.heap[i]? = w.heap[i]?) → (∀ B (v : World), Below B v w → B ≤ q → Below B v w') → wpList Tryd.prog ops Q rest (a.put op.dst undef) w') : wpList Tryd.prog ops Q (op :: rest) a w :=
  wstK hk 0 (statL t) _ (over_stat s t) (Nat.le_refl 13) (statV_cells t) hgd _ x y ho hx hy stat_size h
theorem loadVar_stat (h : SBlk w q s) : (loadVar 66 ⟨q, 0, none⟩).run Tryd.prog w = .ok (statV s) w :=
  run_loadVar_mid w q 0 66 (statL s) _ (Blk.range h 0 (statL s) rfl) Tryd.underlying66 rfl stat_size
end
theorem results_record {tmps : Array Value} {w : World} {q : Nat} {s : St} (h2 : tmps.getD 2 undef = .pointer (some ⟨q, 0, none⟩)) (hk : SBlk w q s) :
    (results Tryd.f36 tmps).run Tryd.prog w = .ok (statV s) w := by
  have h2' : tmps[2]?.getD undef = .pointer (some ⟨q, 0, none⟩) := by simpa using h2
  simp [results, Tryd.results36, h2', asAddr, loadVar_stat hk]
theorem results_refRecord {tmps : Array Value} {w : World} {q : Nat} {s : St} (h2 : tmps.getD 2 undef = .pointer (some ⟨q, 0, none⟩)) (hk : SBlk w q s) :
    (results Tryd.f37 tmps).run Tryd.prog w = .ok (statV s) w := by
  have h2' : tmps[2]?.getD undef = .pointer (some ⟨q, 0, none⟩) := by simpa using h2
  simp [results, Tryd.results37, h2', asAddr, loadVar_stat hk]

/-- Where Record stands. -/
def ZAt (w0 : World) (n : Nd) (w : World) : Prop := NBlk w w0.heap.size n ∧ SBlk w (w0.heap.size + 1) St.none ∧ Below w0.heap.size w0 w
theorem ZAt.next {w0 w w' : World} {n : Nd} (h : ZAt w0 n w) (hb : Below w.heap.size w w') : ZAt w0 n w' := ⟨h.1.below hb, h.2.1.below hb, h.2.2.trans (hb.mono h.2.2.size)⟩
theorem ZAt.nb {w0 w : World} {n : Nd} (h : ZAt w0 n w) : NBlk w w0.heap.size n := h.1
theorem ZAt.rb {w0 w : World} {n : Nd} (h : ZAt w0 n w) : SBlk w (w0.heap.size + 1) St.none := h.2.1
theorem ZAt.low {w0 w : World} {n : Nd} (h : ZAt w0 n w) : Below w0.heap.size w0 w := h.2.2
theorem ZAt.start (w : World) (n : Nd) : ZAt w n ((w.alloc (Obj.cells #[.int .u64 n.path, .int .u64 n.parent, .string n.name, .int .u32 n.mode, .string n.uid, .string n.gid, .string n.muid, .int .u32 n.atime, .int .u32 n.mtime, .int .u32 n.vers, .int .u64 n.length, .int .i64 n.opens, .int .i64 n.kids] 34)).alloc (Obj.cells #[.int .u16 0, .int .u32 0, .int .u8 0, .int .u32 0, .int .u64 0, .int .u32 0, .int .u32 0, .int .u32 0, .int .u64 0, .string ⟨#[]⟩, .string ⟨#[]⟩, .string ⟨#[]⟩, .string ⟨#[]⟩] 66)) := by
  have h := SBlk.zero (w.alloc (Obj.cells (nodeL n).toArray 34))
  simp only [World.size_alloc] at h
  exact ⟨(NBlk.new w n).below ((Below.refl _ _).alloc (Nat.le_refl _) _), h, ((Below.refl _ _).alloc (Nat.le_refl _) _).alloc (by simp) _⟩
theorem ZAt.lt {w0 w : World} {n : Nd} (h : ZAt w0 n w) : w0.heap.size + 1 < w.heap.size := Blk.lt h.rb

theorem ZAt.far {w0 w : World} {n : Nd} {q i : Nat} {v : Value} (h : ZAt w0 n w) (hq : w0.heap.size + 1 < q) : ZAt w0 n (w.setCell ⟨q, i, none⟩ v) :=
  ⟨Blk.far h.nb (by show w0.heap.size ≠ q; omega) v, Blk.far h.rb (by show w0.heap.size + 1 ≠ q; omega) v, h.low.setCell (by show w0.heap.size ≤ q; omega) v⟩
theorem rec_f {n : Nd} (h : isB n.mode 2147483648 = false) : recS n = ⟨0, 0, n.mode / 16777216, n.vers, n.path, n.mode, n.atime, n.mtime, n.length, n.name, n.uid, n.gid, n.muid⟩ := by unfold recS; rw [if_neg (by rw [h]; decide)]
theorem rec_t {n : Nd} (h : isB n.mode 2147483648 = true) : recS n = ⟨0, 0, n.mode / 16777216, n.vers, n.path, n.mode, n.atime, n.mtime, 0, n.name, n.uid, n.gid, n.muid⟩ := by unfold recS; rw [if_pos h]

set_option maxRecDepth 100000 in
set_option maxHeartbeats 1600000 in
theorem record_calls (n : Nd) (w : World) (hn : n.ok) :
    Calls Tryd.prog 36 #[nodeV n] w fun e w' => e = .returned (statV (recS n)) ∧ Below w.heap.size w w' := by
  have HZ := Lib.hid (ZAt.start w n)
  have HN := Lib.hid hn
  obtain ⟨m0, m1, -⟩ := hn
  cases hd : (bits .and .u32 n.mode 2147483648 != 0)
  · have HD := Lib.hid (show isB n.mode 2147483648 = false from hd)
    clear hd
    go_enter Tryd.func36, Tryd.ntmps36
    go_upto_region 1 with (fail)
    generalize (w.alloc (Obj.cells #[.int .u64 n.path, .int .u64 n.parent, .string n.name, .int .u32 n.mode, .string n.uid, .string n.gid, .string n.muid, .int .u32 n.atime, .int .u32 n.mtime, .int .u32 n.vers, .int .u64 n.length, .int .i64 n.opens, .int .i64 n.kids] 34)).alloc (Obj.cells #[.int .u16 0, .int .u32 0, .int .u8 0, .int .u32 0, .int .u64 0, .int .u32 0, .int .u32 0, .int .u32 0, .int .u64 0, .string ⟨#[]⟩, .string ⟨#[]⟩, .string ⟨#[]⟩, .string ⟨#[]⟩] 66) = w1 at HZ ⊢
    obtain ⟨a0, a1, a2, a3, a4, a5, a6, a7, a8, a9, a10, a11, a12⟩ := HZ.out.nb.c13
    go_upto_region 2 with (first
      | (refine wstS (SBlk.zero _) ⟨0, 0, n.mode / 16777216, n.vers, n.path, n.mode, n.atime, n.mtime, n.length, n.name, n.uid, n.gid, n.muid⟩ rfl _ _ rfl rfl rfl ?_; intro w2 hs ho hbl; have hb := hbl _ _ ((Below.refl _ _).alloc (Nat.le_refl _) _) (Nat.le_refl _); have hz := HZ.out.lt; have HS := Lib.hid hs; replace HZ := Lib.hid (HZ.out.next hb); clear hs ho hbl hb))
    generalize w1.heap.size = q3 at HS hz ⊢
    clear a0 a1 a2 a3 a4 a5 a6 a7 a8 a9 a10 a11 a12
    go_upto_region 4 with (first
      | (refine wnN HZ.out.nb rfl _ rfl rfl ?_)
      | (go_at_call 42; (with_reducible refine (is_calls n _ _ HN.out).mono ?_); rw [HD.out]; rintro e w3 ⟨rfl, hb⟩; replace HZ := Lib.hid (HZ.out.next hb); replace HS := Lib.hid (SBlk.below HS.out hb); clear hb; have c8 : w3.cell? ⟨q3, 8, none⟩ = some (.int .u64 n.length) := Blk.cell HS.out 8; have z8 := Blk.frozen HS.out 8))
    go_wp2_with (first
      | (refine wS HS.out rfl _ rfl rfl ?_)
      | (refine wstS HZ.out.rb ⟨0, 0, n.mode / 16777216, n.vers, n.path, n.mode, n.atime, n.mtime, n.length, n.name, n.uid, n.gid, n.muid⟩ rfl _ _ rfl rfl rfl ?_; intro w5 hs ho hbl; have hb := hbl _ _ HZ.out.low (Nat.le_succ _); have HX := Lib.hid hs; have HL := Lib.hid hb; clear hs ho hbl hb))
    exact bodyPost_ret (results_record rfl HX.out) rfl ⟨by rw [rec_f HD.out], HL.out⟩
  · have HD := Lib.hid (show isB n.mode 2147483648 = true from hd)
    clear hd
    go_enter Tryd.func36, Tryd.ntmps36
    go_upto_region 1 with (fail)
    generalize (w.alloc (Obj.cells #[.int .u64 n.path, .int .u64 n.parent, .string n.name, .int .u32 n.mode, .string n.uid, .string n.gid, .string n.muid, .int .u32 n.atime, .int .u32 n.mtime, .int .u32 n.vers, .int .u64 n.length, .int .i64 n.opens, .int .i64 n.kids] 34)).alloc (Obj.cells #[.int .u16 0, .int .u32 0, .int .u8 0, .int .u32 0, .int .u64 0, .int .u32 0, .int .u32 0, .int .u32 0, .int .u64 0, .string ⟨#[]⟩, .string ⟨#[]⟩, .string ⟨#[]⟩, .string ⟨#[]⟩] 66) = w1 at HZ ⊢
    obtain ⟨a0, a1, a2, a3, a4, a5, a6, a7, a8, a9, a10, a11, a12⟩ := HZ.out.nb.c13
    go_upto_region 2 with (first
      | (refine wstS (SBlk.zero _) ⟨0, 0, n.mode / 16777216, n.vers, n.path, n.mode, n.atime, n.mtime, n.length, n.name, n.uid, n.gid, n.muid⟩ rfl _ _ rfl rfl rfl ?_; intro w2 hs ho hbl; have hb := hbl _ _ ((Below.refl _ _).alloc (Nat.le_refl _) _) (Nat.le_refl _); have hz := HZ.out.lt; have HS := Lib.hid hs; replace HZ := Lib.hid (HZ.out.next hb); clear hs ho hbl hb))
    generalize w1.heap.size = q3 at HS hz ⊢
    clear a0 a1 a2 a3 a4 a5 a6 a7 a8 a9 a10 a11 a12
    go_upto_region 4 with (first
      | (refine wnN HZ.out.nb rfl _ rfl rfl ?_)
      | (go_at_call 42; (with_reducible refine (is_calls n _ _ HN.out).mono ?_); rw [HD.out]; rintro e w3 ⟨rfl, hb⟩; replace HZ := Lib.hid (HZ.out.next hb); replace HS := Lib.hid (SBlk.below HS.out hb); clear hb; have c8 : w3.cell? ⟨q3, 8, none⟩ = some (.int .u64 n.length) := Blk.cell HS.out 8; have z8 := Blk.frozen HS.out 8))
    replace HZ := Lib.hid (HZ.out.far (i := 8) (v := .int .u64 0) hz)
    replace HS := Lib.hid (show SBlk (w3.setCell ⟨q3, 8, none⟩ (.int .u64 0)) q3 ⟨0, 0, n.mode / 16777216, n.vers, n.path, n.mode, n.atime, n.mtime, 0, n.name, n.uid, n.gid, n.muid⟩ from Blk.set_ HS.out 8 _)
    clear c8 z8
    change Code.wp _ _ _ _ (w3.setCell ⟨q3, 8, none⟩ (.int .u64 0))
    generalize w3.setCell ⟨q3, 8, none⟩ (.int .u64 0) = w4 at HZ HS ⊢
    go_wp2_with (first
      | (refine wS HS.out rfl _ rfl rfl ?_)
      | (refine wstS HZ.out.rb ⟨0, 0, n.mode / 16777216, n.vers, n.path, n.mode, n.atime, n.mtime, 0, n.name, n.uid, n.gid, n.muid⟩ rfl _ _ rfl rfl rfl ?_; intro w5 hs ho hbl; have hb := hbl _ _ HZ.out.low (Nat.le_succ _); have HX := Lib.hid hs; have HL := Lib.hid hb; clear hs ho hbl hb))
    exact bodyPost_ret (results_record rfl HX.out) rfl ⟨by rw [rec_t HD.out], HL.out⟩

set_option maxRecDepth 100000 in
set_option maxHeartbeats 1600000 in
theorem refRecord_calls (n : Nd) (w : World) (hn : n.ok) :
    Calls Tryd.prog 37 #[nodeV n] w fun e w' => e = .returned (statV (recS n)) ∧ Below w.heap.size w w' := by
  have HZ := Lib.hid (ZAt.start w n)
  have HN := Lib.hid hn
  obtain ⟨m0, m1, -⟩ := hn
  cases hd : (bits .and .u32 n.mode 2147483648 != 0)
  · have HD := Lib.hid (show isB n.mode 2147483648 = false from hd)
    
    go_enter Tryd.func37, Tryd.ntmps37
    go_upto_region 1 with (fail)
    generalize (w.alloc (Obj.cells #[.int .u64 n.path, .int .u64 n.parent, .string n.name, .int .u32 n.mode, .string n.uid, .string n.gid, .string n.muid, .int .u32 n.atime, .int .u32 n.mtime, .int .u32 n.vers, .int .u64 n.length, .int .i64 n.opens, .int .i64 n.kids] 34)).alloc (Obj.cells #[.int .u16 0, .int .u32 0, .int .u8 0, .int .u32 0, .int .u64 0, .int .u32 0, .int .u32 0, .int .u32 0, .int .u64 0, .string ⟨#[]⟩, .string ⟨#[]⟩, .string ⟨#[]⟩, .string ⟨#[]⟩] 66) = w1 at HZ ⊢
    obtain ⟨a0, a1, a2, a3, a4, a5, a6, a7, a8, a9, a10, a11, a12⟩ := HZ.out.nb.c13
    go_upto_region 2 with (first
      | (refine wstS (SBlk.zero _) ⟨0, 0, n.mode / 16777216, n.vers, n.path, n.mode, n.atime, n.mtime, n.length, n.name, n.uid, n.gid, n.muid⟩ rfl _ _ rfl rfl rfl ?_; intro w2 hs ho hbl; have hb := hbl _ _ ((Below.refl _ _).alloc (Nat.le_refl _) _) (Nat.le_refl _); have hz := HZ.out.lt; have HS := Lib.hid hs; replace HZ := Lib.hid (HZ.out.next hb); clear hs ho hbl hb))
    generalize w1.heap.size = q3 at HS hz ⊢
    clear a0 a1 a2 a3 a4 a5 a6 a7 a8 a9 a10 a11 a12
    have a3 : w2.cell? ⟨w.heap.size, 3, none⟩ = some (.int .u32 n.mode) := HZ.out.nb.c13.2.2.2.1
    obtain ⟨w3, hw3⟩ : ∃ w3, w2 = w3 := ⟨_, rfl⟩
    subst hw3
    go_wp2_with (first
      | (refine wS HS.out rfl _ rfl rfl ?_)
      | (refine wstS HZ.out.rb ⟨0, 0, n.mode / 16777216, n.vers, n.path, n.mode, n.atime, n.mtime, n.length, n.name, n.uid, n.gid, n.muid⟩ rfl _ _ rfl rfl rfl ?_; intro w5 hs ho hbl; have hb := hbl _ _ HZ.out.low (Nat.le_succ _); have HX := Lib.hid hs; have HL := Lib.hid hb; clear hs ho hbl hb))
    exact bodyPost_ret (results_refRecord rfl HX.out) rfl ⟨by rw [rec_f HD.out], HL.out⟩
  · have HD := Lib.hid (show isB n.mode 2147483648 = true from hd)
    
    go_enter Tryd.func37, Tryd.ntmps37
    go_upto_region 1 with (fail)
    generalize (w.alloc (Obj.cells #[.int .u64 n.path, .int .u64 n.parent, .string n.name, .int .u32 n.mode, .string n.uid, .string n.gid, .string n.muid, .int .u32 n.atime, .int .u32 n.mtime, .int .u32 n.vers, .int .u64 n.length, .int .i64 n.opens, .int .i64 n.kids] 34)).alloc (Obj.cells #[.int .u16 0, .int .u32 0, .int .u8 0, .int .u32 0, .int .u64 0, .int .u32 0, .int .u32 0, .int .u32 0, .int .u64 0, .string ⟨#[]⟩, .string ⟨#[]⟩, .string ⟨#[]⟩, .string ⟨#[]⟩] 66) = w1 at HZ ⊢
    obtain ⟨a0, a1, a2, a3, a4, a5, a6, a7, a8, a9, a10, a11, a12⟩ := HZ.out.nb.c13
    go_upto_region 2 with (first
      | (refine wstS (SBlk.zero _) ⟨0, 0, n.mode / 16777216, n.vers, n.path, n.mode, n.atime, n.mtime, n.length, n.name, n.uid, n.gid, n.muid⟩ rfl _ _ rfl rfl rfl ?_; intro w2 hs ho hbl; have hb := hbl _ _ ((Below.refl _ _).alloc (Nat.le_refl _) _) (Nat.le_refl _); have hz := HZ.out.lt; have HS := Lib.hid hs; replace HZ := Lib.hid (HZ.out.next hb); clear hs ho hbl hb))
    generalize w1.heap.size = q3 at HS hz ⊢
    clear a0 a1 a2 a3 a4 a5 a6 a7 a8 a9 a10 a11 a12
    have a3 : w2.cell? ⟨w.heap.size, 3, none⟩ = some (.int .u32 n.mode) := HZ.out.nb.c13.2.2.2.1
    obtain ⟨w3, hw3⟩ : ∃ w3, w2 = w3 := ⟨_, rfl⟩
    subst hw3
    have c8 : w2.cell? ⟨q3, 8, none⟩ = some (.int .u64 n.length) := Blk.cell HS.out 8
    have z8 := Blk.frozen HS.out 8
    go_upto_region 4 with (fail)
    replace HZ := Lib.hid (HZ.out.far (i := 8) (v := .int .u64 0) hz)
    replace HS := Lib.hid (show SBlk (w2.setCell ⟨q3, 8, none⟩ (.int .u64 0)) q3 ⟨0, 0, n.mode / 16777216, n.vers, n.path, n.mode, n.atime, n.mtime, 0, n.name, n.uid, n.gid, n.muid⟩ from Blk.set_ HS.out 8 _)
    clear c8 z8
    change Code.wp _ _ _ _ (w2.setCell ⟨q3, 8, none⟩ (.int .u64 0))
    generalize w2.setCell ⟨q3, 8, none⟩ (.int .u64 0) = w4 at HZ HS ⊢
    go_wp2_with (first
      | (refine wS HS.out rfl _ rfl rfl ?_)
      | (refine wstS HZ.out.rb ⟨0, 0, n.mode / 16777216, n.vers, n.path, n.mode, n.atime, n.mtime, 0, n.name, n.uid, n.gid, n.muid⟩ rfl _ _ rfl rfl rfl ?_; intro w5 hs ho hbl; have hb := hbl _ _ HZ.out.low (Nat.le_succ _); have HX := Lib.hid hs; have HL := Lib.hid hb; clear hs ho hbl hb))
    exact bodyPost_ret (results_refRecord rfl HX.out) rfl ⟨by rw [rec_t HD.out], HL.out⟩
end Go.Proofs.YtlenlldiimohjaaDoor
