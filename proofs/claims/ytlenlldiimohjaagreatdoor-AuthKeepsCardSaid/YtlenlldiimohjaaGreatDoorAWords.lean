
/-
  Append from whatever source onto a row that is one's own; the Talk of layer 7 and its bytes. No function of the program is walked here.
-/
import Derived.Test.YtlenlldiimohjaaGreatDoorB0
import Derived.Test.YtlenlldiimohjaaGreatDoorW2
import Derived.Maps.AppendAt
import Derived.OwnWalk
import Derived.WalkKit
namespace Go.Proofs.YtlenlldiimohjaaGreatDoor
open Go.RowKit

/-- A Talk, but for its bytes. -/
structure Tk where
  user : ByteArray
  tree : ByteArray
  ours : Int
  theirs : Int
  step : Int
  said : Int
abbrev talkL (t : Tk) (hv : Value) : List Value := [.string t.user, .string t.tree, .int .u64 t.ours, .int .u64 t.theirs, .int .u8 t.step, .int .i64 t.said, hv]
abbrev talkV (t : Tk) (hv : Value) : Value := .agg #[.string t.user, .string t.tree, .int .u64 t.ours, .int .u64 t.theirs, .int .u8 t.step, .int .i64 t.said, hv]
def Tk.none : Tk := ⟨⟨#[]⟩, ⟨#[]⟩, 0, 0, 0, 0⟩
def TBlk (w : World) (q : Nat) (t : Tk) (hv : Value) : Prop := Blk w q 54 (talkL t hv).toArray
abbrev byteL (l : List UInt8) : List Value := l.map fun c => .int .u8 (c.toNat : Int)
/-- The value hv reads as the bytes l, and lies below B. -/
def Bys (w : World) (B : Nat) (hv : Value) (l : List UInt8) : Prop := ∃ A cap, hv = .slice A l.length cap ∧ l.length ≤ cap ∧ cap ≤ maxLen ∧ Reads w B 1 A l.length (byteL l)
theorem Bys.nil_ (w : World) (B : Nat) : Bys w B (.slice none 0 0) [] := ⟨none, 0, rfl, Nat.le_refl _, Nat.zero_le _, Reads.none_⟩
theorem Bys.keep {w w' : World} {B : Nat} {hv : Value} {l : List UInt8} (h : Bys w B hv l) (hk : ∀ p : Addr, p.block < B → w'.cell? p = w.cell? p) : Bys w' B hv l := by
  obtain ⟨A, cap, e, h1, h2, h3⟩ := h
  exact ⟨A, cap, e, h1, h2, h3.keep hk⟩
theorem Bys.below {w w' : World} {B : Nat} {hv : Value} {l : List UInt8} (h : Bys w B hv l) (hb : Below B w w') : Bys w' B hv l := h.keep fun _ hp => hb.cell hp
theorem Bys.more {w : World} {B B' : Nat} {hv : Value} {l : List UInt8} (h : Bys w B hv l) (hB : B ≤ B') : Bys w B' hv l := by
  obtain ⟨A, cap, e, h1, h2, h3⟩ := h
  exact ⟨A, cap, e, h1, h2, h3.more hB⟩
theorem byteL_one (l : List UInt8) : ∀ u ∈ byteL l, u.oneCell' = true := by
  intro u hu
  obtain ⟨c, _, rfl⟩ := List.mem_map.1 hu
  rfl
theorem Bys.of_own {w : World} {base : Nat} {hv : Value} {l : List UInt8} {n : Nat} (h : w.ownsRow base 5 1 hv n (byteL l)) : Bys w w.heap.size hv l := by
  have hn : n = l.length := by
    have := h.1
    simp at this
    exact this.symm
  subst hn
  rcases h.2 with ⟨rfl, h0⟩ | ⟨g, cap, cur, rfl, _, _, hc, hm, _⟩
  · have : l = [] := List.eq_nil_of_length_eq_zero h0
    subst this
    exact Bys.nil_ _ _
  · exact ⟨_, cap, rfl, hc, hm, Reads.of_own h⟩
theorem talk_size : (Tryz.prog.info? 54).map (·.size) = some 7 := by kernel_rfl
theorem talk_cells (t : Tk) (hv : Value) (h : hv.oneCell' = true) : (talkL t hv).toArray.all (·.oneCell') = true := by
  rw [← Array.all_toList]
  show List.all (talkL t hv) (·.oneCell') = true
  simp only [talkL, List.all_cons, List.all_nil, h]
  rfl
theorem over_talk (t u : Tk) (hv hu : Value) : over (talkL t hv).toArray 0 (talkL u hu) = (talkL u hu).toArray := by kernel_rfl
theorem Bys.one {w : World} {B : Nat} {hv : Value} {l : List UInt8} (h : Bys w B hv l) : hv.oneCell' = true := by
  obtain ⟨A, cap, e, -⟩ := h
  rw [e]
  rfl
section
variable {ops : Array Oper} {rest : List Oper} {op : Oper} {a : Act} {w w' : World} {Q : Exit → Act → World → Prop} {q : Nat} {t : Tk} {hv : Value}
theorem TBlk.below (h : TBlk w q t hv) (hb : Below w.heap.size w w') : TBlk w' q t hv := Blk.below h hb (Blk.lt h)
theorem TBlk.zero (w : World) : TBlk (w.alloc (Obj.cells #[.string ⟨#[]⟩, .string ⟨#[]⟩, .int .u64 0, .int .u64 0, .int .u8 0, .int .i64 0, .slice none 0 0] 54)) w.heap.size Tk.none (.slice none 0 0) := Blk.new _ _ _
theorem wT (hk : TBlk w q t hv) (hgd : Region.wanted op (yielded ops a.tmps) = true) (x : Operand) (ho : op.op = .load 54 x) (hx : a.eval x = .pointer (some ⟨q, 0, none⟩))
    (h : wpList Tryz.prog ops Q rest (a.put op.dst (talkV t hv)) w) : wpList Tryz.prog ops Q (op :: rest) a w :=
  wlw hk 0 (talkL t hv) rfl hgd _ x ho hx _ Tryz.underlying54 rfl talk_size h
theorem wstT (hk : TBlk w q t hv) (u : Tk) (hu : Value) (h1 : hu.oneCell' = true) (hgd : op.guard = none) (x y : Operand) (ho : op.op = .store 54 x y) (hx : a.eval x = .pointer (some ⟨q, 0, none⟩)) (hy : a.eval y = talkV u hu)
    (h : ∀ w' : World, TBlk w' q u hu → (∀ i, i ≠ q → w'.heap[i]? = w.heap[i]?) → (∀ B (v : World), Below B v w → B ≤ q → Below B v w') → wpList Tryz.prog ops Q rest (a.put op.dst undef) w') : wpList Tryz.prog ops Q (op :: rest) a w :=
  wstK hk 0 (talkL u hu) _ (over_talk t u hv hu) (Nat.le_refl 7) (talk_cells u hu h1) hgd _ x y ho hx hy talk_size h
theorem loadVar_talk (h : TBlk w q t hv) : (loadVar 54 ⟨q, 0, none⟩).run Tryz.prog w = .ok (talkV t hv) w :=
  run_loadVar_mid w q 0 54 (talkL t hv) _ (Blk.range h 0 (talkL t hv) rfl) Tryz.underlying54 rfl talk_size
end
end Go.Proofs.YtlenlldiimohjaaGreatDoor
