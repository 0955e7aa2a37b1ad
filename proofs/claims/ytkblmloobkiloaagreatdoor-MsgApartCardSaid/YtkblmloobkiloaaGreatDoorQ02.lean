/-
  G1 G2 M0 MB: what the laws of package msg need of them.
-/
import Derived.Test.YtkblmloobkiloaaGreatDoorQ01
import Derived.WalkKit
import Derived.ProofKit
import Derived.OpenShut
import Derived.BigQuiet
import Derived.Deep.QuietTactic
import Derived.Deep.DeepCutAuto
import Derived.StillTailTactics
import Derived.OwnWalk
import Derived.Lib.OthersKept
import Derived.Lib.RuneCountTail
import Derived.Laws.RangeAny
import Derived.Laws.Runes
import Derived.WalkMore
import Derived.WalkLawsBesides
import Derived.Lib.ItoaNum
import Derived.Maps.AppendAt
import Derived.Deep.Light
namespace Go.Proofs.YtkblmloobkiloaaGreatDoor
open Go.ChangeShapes Go.WideShapes Go.ChangeAt Go.RowKit

end Go.Proofs.YtkblmloobkiloaaGreatDoor

namespace Go.Proofs.YtkblmloobkiloaaGreatDoor
open Go.ChangeShapes Go.WideShapes Go.ChangeAt Go.RowKit

/-- What cuts has laid so far, and what is left. -/
def CutAt (c : UInt8) (s : ByteArray) (done : List ByteArray) (from_ i : Nat) : Prop :=
  done ++ (cutL c (s.data.toList.drop from_)).map ofL = cut c s ∧ (∀ (j : Nat) (h : j < s.size), from_ ≤ j → j < i → s[j] ≠ c)

theorem extract_ofL (s : ByteArray) (a b : Nat) : s.extract a b = ofL ((s.data.toList.drop a).take (b - a)) := by
  apply ByteArray.ext
  unfold ofL
  rw [ByteArray.data_extract]
  apply Array.ext'
  simp [List.extract_eq_take_drop]

theorem no_in (c : UInt8) (s : ByteArray) (a b : Nat) (h : ∀ (j : Nat) (h : j < s.size), a ≤ j → j < b → s[j] ≠ c) : ∀ x ∈ (s.data.toList.drop a).take (b - a), x ≠ c := by
  intro x hx
  obtain ⟨q, hq, rfl⟩ := List.mem_iff_getElem.1 hx
  simp only [List.length_take, List.length_drop, Array.length_toList, ByteArray.size_data] at hq
  rw [List.getElem_take, List.getElem_drop]
  have := h (a + q) (by omega) (by omega) (by omega)
  exact this

theorem CutAt.start (c : UInt8) (s : ByteArray) : CutAt c s [] 0 0 := ⟨rfl, fun _ _ _ h => absurd h (Nat.not_lt_zero _)⟩
theorem CutAt.hit {c : UInt8} {s : ByteArray} {done : List ByteArray} {f i : Nat} (h : CutAt c s done f i) (hf : f ≤ i) (hi : i < s.size) (he : s[i] = c) : CutAt c s (done ++ [s.extract f i]) (i + 1) (i + 1) := by
  refine ⟨?_, fun j _ h1 h2 => absurd h2 (by omega)⟩
  rw [← h.1]
  have e : s.data.toList.drop f = (s.data.toList.drop f).take (i - f) ++ c :: s.data.toList.drop (i + 1) := by
    have h1 : s.data.toList.drop f = (s.data.toList.drop f).take (i - f) ++ (s.data.toList.drop f).drop (i - f) := (List.take_append_drop _ _).symm
    rw [List.drop_drop, show f + (i - f) = i from by omega] at h1
    have hl : i < s.data.toList.length := by simpa using hi
    rw [List.drop_eq_getElem_cons hl] at h1
    have : s.data.toList[i] = c := he
    rw [this] at h1
    exact h1
  conv => rhs; rw [e, cutL_hit c _ _ (no_in c s f i h.2)]
  rw [List.map_cons, extract_ofL, List.append_assoc, List.singleton_append]
theorem CutAt.done {c : UInt8} {s : ByteArray} {done : List ByteArray} {f i : Nat} (h : CutAt c s done f i) (hi : s.size ≤ i) : done ++ [s.extract f s.size] = cut c s := by
  rw [← h.1]
  have hno : ∀ x ∈ s.data.toList.drop f, x ≠ c := by
    have := no_in c s f i h.2
    rwa [List.take_of_length_le (by simp; omega)] at this
  rw [cutL_none c _ hno, extract_ofL, List.take_of_length_le (by simp)]
  rfl

end Go.Proofs.YtkblmloobkiloaaGreatDoor

namespace Go.Proofs.YtkblmloobkiloaaGreatDoor
open Go.ChangeShapes Go.WideShapes Go.ChangeAt Go.RowKit

end Go.Proofs.YtkblmloobkiloaaGreatDoor

namespace Go.Proofs.YtkblmloobkiloaaGreatDoor
open Go.ChangeShapes Go.WideShapes Go.ChangeAt Go.RowKit

end Go.Proofs.YtkblmloobkiloaaGreatDoor

namespace Go.Proofs.YtkblmloobkiloaaGreatDoor
open Go.ChangeShapes Go.WideShapes Go.ChangeAt Go.RowKit

end Go.Proofs.YtkblmloobkiloaaGreatDoor

namespace Go.Proofs.YtkblmloobkiloaaGreatDoor
open Go.ChangeShapes Go.WideShapes Go.ChangeAt Go.RowKit

theorem empty_f {s : ByteArray} (h : ¬ s.size = 0) : s.toList.isEmpty = false := by
  rw [← Bool.not_eq_true]
  intro e
  rw [ByteArray.toList_eq, List.isEmpty_iff, Array.toList_eq_nil_iff, ← Array.size_eq_zero_iff] at e
  exact h e

end Go.Proofs.YtkblmloobkiloaaGreatDoor

namespace Go.Proofs.YtkblmloobkiloaaGreatDoor
open Go.ChangeShapes Go.WideShapes Go.ChangeAt Go.RowKit

end Go.Proofs.YtkblmloobkiloaaGreatDoor

namespace Go.Proofs.YtkblmloobkiloaaGreatDoor
open Go.ChangeShapes Go.WideShapes Go.ChangeAt Go.RowKit

end Go.Proofs.YtkblmloobkiloaaGreatDoor

namespace Go.Proofs.YtkblmloobkiloaaGreatDoor
open Go.ChangeShapes Go.WideShapes Go.ChangeAt Go.RowKit

end Go.Proofs.YtkblmloobkiloaaGreatDoor

namespace Go.Proofs.YtkblmloobkiloaaGreatDoor
open Go.ChangeShapes Go.WideShapes Go.ChangeAt Go.RowKit

end Go.Proofs.YtkblmloobkiloaaGreatDoor

namespace Go.Proofs.YtkblmloobkiloaaGreatDoor
open Go.ChangeShapes Go.WideShapes Go.ChangeAt Go.RowKit

end Go.Proofs.YtkblmloobkiloaaGreatDoor
namespace Go.Proofs.YtkblmloobkiloaaGreatDoor
open Go.ChangeShapes Go.WideShapes Go.ChangeAt Go.RowKit

/-- What the program's own calls want of the world: the tables of utf8, and bytealg's number. -/
def Ready (w : World) : Prop := Lib.Utf8Tabs 3 4 w ∧ ∃ m, w.cell? ⟨7, 0, none⟩ = some (.int .i64 m)

theorem Ready.below {w w' : World} {B : Nat} (h : Ready w) (hb : Below B w w') (hB : w.heap.size ≤ B) : Ready w' := by
  obtain ⟨⟨h1, h2⟩, m, h3⟩ := h
  have key : ∀ (a : Addr) u, w.cell? a = some u → w'.cell? a = some u := fun a u hu => (hb.cell (Nat.lt_of_lt_of_le (World.block_lt_of_cell? w a hu) hB)).trans hu
  exact ⟨⟨fun c hc => key _ _ (h1 c hc), fun i hi => ⟨key _ _ (h2 i hi).1, key _ _ (h2 i hi).2⟩⟩, m, key _ _ h3⟩
theorem Ready.alloc {w : World} (h : Ready w) (x : Obj) : Ready (w.alloc x) := h.below ((Below.refl _ _).alloc (Nat.le_refl _) x) (Nat.le_refl _)
theorem width_pos (s : ByteArray) (pos : Nat) (h : pos < s.size) : 1 ≤ (Utf8.decode s pos).2 := by
  by_cases ha : (s[pos]'h).toNat < 128
  · rw [decode_ascii s pos h ha]
    exact Nat.le_refl _
  · exact (decode_high s pos h (by omega)).2

theorem goodFrom_end {s : ByteArray} {f pos : Nat} (h : ¬ pos < s.size) : goodFrom s f pos = true := by
  cases f with
  | zero => rfl
  | succ f => rw [goodFrom, if_neg h]
theorem goodFrom_bad {s : ByteArray} {f pos : Nat} (h : pos < s.size) (hf : s.size ≤ pos + f) (hb : (Utf8.decode s pos).1 = 0 ∨ ((Utf8.decode s pos).1 = 65533 ∧ (Utf8.decode s pos).2 = 1)) : goodFrom s f pos = false := by
  cases f with
  | zero => omega
  | succ f => rw [goodFrom, if_pos h, if_pos hb]
theorem goodFrom_next {s : ByteArray} {f pos : Nat} (h : pos < s.size) (hf : s.size ≤ pos + f) (hb : ¬ ((Utf8.decode s pos).1 = 0 ∨ ((Utf8.decode s pos).1 = 65533 ∧ (Utf8.decode s pos).2 = 1))) : goodFrom s f pos = goodFrom s (f - 1) (pos + (Utf8.decode s pos).2) := by
  cases f with
  | zero => omega
  | succ f => rw [goodFrom, if_pos h, if_neg hb]; rfl

theorem wireBad_calls (s : ByteArray) (w : World) (hr : Ready w) :
    Calls Tryz.prog 196 #[.string s] w fun e w' => (∃ i : Int, e = .returned (.int .i64 i) ∧ (decide (i < 0)) = good s) ∧ Below w.heap.size w w' := by
  have HR := Lib.hid hr; clear hr
  go_enter Tryz.func196, Tryz.ntmps196
  go_wp2_with fail
  go_loopw [] (fun wr => ∃ (pos f : Nat), wr.heap[w.heap.size]? = some (.stringIter s pos) ∧ Below w.heap.size w wr ∧ Ready wr ∧ goodFrom s f pos = good s ∧ s.size ≤ pos + f) (fun wr => s.size - wr.iterPos w.heap.size)
  case atStart =>
    refine ⟨0, s.size, World.iter_heap w s 0, (Below.refl _ w).alloc (Nat.le_refl _) _, HR.out.alloc _, rfl, by omega⟩
  case round =>
    obtain ⟨pos, f, hit, hb, hr, hg, hf⟩ := hrel
    have hsz : w.heap.size < wr.heap.size := (Array.getElem?_eq_some_iff.1 hit).1
    have HB := Lib.hid hb; clear hb
    have HRR := Lib.hid hr; clear hr
    have HG := Lib.hid hg; clear hg
    by_cases hp : pos < s.size
    · have hnx : ∀ ty, (Instr.next (.pointer (some ⟨w.heap.size, 0, none⟩)) true ty).run Tryz.prog wr = _ := fun ty => Lib.run_next_any_at wr w.heap.size s pos ty hit hp
      have HWD := Lib.hid (width_pos s pos hp)
      have HIT2 := Lib.hid (Lib.iterAt_heap wr w.heap.size s pos (pos + (Utf8.decode s pos).2) hit)
      have HB2 := Lib.hid (Lib.below_iterAt HB.out (k := w.heap.size) (Nat.le_refl _) s (pos + (Utf8.decode s pos).2))
      have HPOS := Lib.hid (show wr.iterPos w.heap.size = pos from by simp [World.iterPos, hit])
      have HIT := Lib.hid hit
      clear hit
      have HR2 := Lib.hid (show Ready (wr.iterAt w.heap.size s (pos + (Utf8.decode s pos).2)) from HR.out.below HB2.out (Nat.le_refl _))
      generalize hdec : Utf8.decode s pos = d at HWD HIT2 HB2 HR2 hnx
      obtain ⟨r, k⟩ := d
      have HD := Lib.hid hdec; clear hdec
      dsimp only at hnx HWD HIT2 HB2 HR2
      rcases Nat.eq_zero_or_pos r with h0 | h0
      · have HX := Lib.hid (show goodFrom s f pos = false from goodFrom_bad hp hf (.inl (by rw [HD.out]; exact h0)))
        have h0i : ((r : Int) == 0) = true := by rw [beq_iff_eq]; omega
        clear h0
        go_wp2_with fail
        go_ret
        exact ⟨⟨pos, rfl, by rw [← HG.out, HX.out]; exact decide_eq_false (by omega)⟩, HB2.out⟩
      · have h0i : ((r : Int) == 0) = false := by rw [beq_eq_false_iff_ne]; omega
        have HPS := Lib.hid h0; clear h0
        by_cases h6 : r = 65533
        · have h6i : ((r : Int) == 65533) = true := by rw [beq_iff_eq]; omega
          have HDG := Lib.hid (show Lib.decodeGo (s.extract pos s.size) = (r, k) from by
            unfold Lib.decodeGo
            rw [if_neg (by simp; omega), Lib.tail_decode, Nat.add_zero]
            exact HD.out)
          have H6 := Lib.hid h6; clear h6
          by_cases hk : k = 1
          · have hki : ((k : Int) == 1) = true := by rw [beq_iff_eq]; omega
            have HX := Lib.hid (show goodFrom s f pos = false from goodFrom_bad hp hf (.inr (by rw [HD.out]; exact ⟨H6.out, hk⟩)))
            clear hk
            go_wp2_with fail
            refine (Tryz.utf8_DecodeRuneInString (s.extract pos s.size) _ HR2.out.1).mono ?_
            rintro e w2 ⟨rfl, hb2⟩
            have HB3 := Lib.hid (HB2.out.trans (hb2.mono HB2.out.size)); clear hb2
            rw [HDG.out]
            go_wp2_with fail
            go_ret
            exact ⟨⟨pos, rfl, by rw [← HG.out, HX.out]; exact decide_eq_false (by omega)⟩, HB3.out⟩
          · have hki : ((k : Int) == 1) = false := by rw [beq_eq_false_iff_ne]; omega
            have HX := Lib.hid (goodFrom_next hp hf (show ¬ ((Utf8.decode s pos).1 = 0 ∨ ((Utf8.decode s pos).1 = 65533 ∧ (Utf8.decode s pos).2 = 1)) from by
              rw [HD.out]; rintro (h | ⟨_, h⟩)
              · have := HPS.out; dsimp only at h; omega
              · exact hk h))
            clear hk
            have hit3 := HIT2.out
            go_wp2_with fail
            refine (Tryz.utf8_DecodeRuneInString (s.extract pos s.size) _ HR2.out.1).mono ?_
            rintro e w2 ⟨rfl, hb2⟩
            have HB3 := Lib.hid (HB2.out.trans (hb2.mono HB2.out.size))
            have HIT3 := Lib.hid ((hb2.block w.heap.size (by rw [Lib.iterAt_size]; exact hsz)).trans HIT2.out)
            have HR3 := Lib.hid (HR2.out.below hb2 (Nat.le_refl _))
            clear hb2 hit3
            rw [HDG.out]
            go_wp2_with fail
            go_roundw
            case rel => exact ⟨pos + k, f - 1, HIT3.out, HB3.out, HR3.out, by rw [← HG.out, HX.out, HD.out], by have := HWD.out; omega⟩
            case measure => have := HWD.out; rw [HPOS.out]; simp only [World.iterPos, HIT3.out]; omega
        · have h6i : ((r : Int) == 65533) = false := by rw [beq_eq_false_iff_ne]; omega
          have HX := Lib.hid (goodFrom_next hp hf (show ¬ ((Utf8.decode s pos).1 = 0 ∨ ((Utf8.decode s pos).1 = 65533 ∧ (Utf8.decode s pos).2 = 1)) from by
              rw [HD.out]; rintro (h | ⟨h, _⟩)
              · have := HPS.out; dsimp only at h; omega
              · exact h6 h))
          clear h6
          go_wp2_with fail
          go_roundw
          case rel => exact ⟨pos + k, f - 1, HIT2.out, HB2.out, HR2.out, by rw [← HG.out, HX.out, HD.out], by have := HWD.out; omega⟩
          case measure => have := HWD.out; rw [HPOS.out]; simp only [World.iterPos, HIT2.out]; omega
    · have hnx : ∀ ty, (Instr.next (.pointer (some ⟨w.heap.size, 0, none⟩)) true ty).run Tryz.prog wr = _ := fun ty => Lib.run_next_end_at wr w.heap.size s pos ty hit hp
      go_wp2_with fail
      go_ret
      exact ⟨⟨-1, rfl, by rw [← HG.out, goodFrom_end hp]; rfl⟩, HB.out⟩

theorem wireGood_calls (s : ByteArray) (w : World) (hr : Ready w) :
    Calls Tryz.prog 133 #[.string s] w fun e w' => e = .returned (.bool (good s)) ∧ Below w.heap.size w w' := by
  have HR := Lib.hid hr; clear hr
  go_enter Tryz.func133, Tryz.ntmps133
  go_wp2_with fail
  refine (wireBad_calls s _ HR.out).mono ?_
  rintro e w2 ⟨⟨i, rfl, hi⟩, hb⟩
  have HB := Lib.hid hb; clear hb
  have HI := Lib.hid hi; clear hi
  go_wp2_with fail
  go_ret
  exact ⟨ret_bool HI.out, HB.out⟩
end Go.Proofs.YtkblmloobkiloaaGreatDoor

namespace Go.Proofs.YtkblmloobkiloaaGreatDoor
open Go.ChangeShapes Go.WideShapes Go.ChangeAt Go.RowKit

end Go.Proofs.YtkblmloobkiloaaGreatDoor

namespace Go.Proofs.YtkblmloobkiloaaGreatDoor
open Go.ChangeShapes Go.WideShapes Go.ChangeAt Go.RowKit

end Go.Proofs.YtkblmloobkiloaaGreatDoor

namespace Go.Proofs.YtkblmloobkiloaaGreatDoor
open Go.ChangeShapes Go.WideShapes Go.ChangeAt Go.RowKit

section
variable {a : Acct} {mv : Value} {w w' w'' : World}
end

end Go.Proofs.YtkblmloobkiloaaGreatDoor

namespace Go.Proofs.YtkblmloobkiloaaGreatDoor
open Go.ChangeShapes Go.WideShapes Go.ChangeAt Go.RowKit

end Go.Proofs.YtkblmloobkiloaaGreatDoor
namespace Go.Proofs.YtkblmloobkiloaaGreatDoor
open Go.Lib (decDigits)

structure Qd where
  kind : Nat
  vers : Nat
  path : Nat
structure Sta where
  type : Nat
  dev : Nat
  qid : Qd
  mode : Nat
  atime : Nat
  mtime : Nat
  length : Nat
  name : ByteArray
  uid : ByteArray
  gid : ByteArray
  muid : ByteArray
structure Mg where
  kind : Nat
  tag : Nat
  msize : Nat
  version : ByteArray
  afid : Nat
  uname : ByteArray
  aname : ByteArray
  ename : ByteArray
  oldtag : Nat
  fid : Nat
  newfid : Nat
  names : List ByteArray
  qids : List Qd
  qid : Qd
  mode : Nat
  iounit : Nat
  name : ByteArray
  perm : Nat
  offset : Nat
  count : Nat
  data : List UInt8
  stat : Sta
abbrev e0 : ByteArray := ⟨#[]⟩
def zq : Qd := ⟨0, 0, 0⟩
def zst : Sta := ⟨0, 0, zq, 0, 0, 0, 0, e0, e0, e0, e0⟩
/-- A message of a kind and a tag, else zero. -/
def head (kind tag : Nat) : Mg := ⟨kind, tag, 0, e0, 0, e0, e0, e0, 0, 0, 0, [], [], zq, 0, 0, e0, 0, 0, 0, [], zst⟩
def Qd.ok (q : Qd) : Prop := q.kind < 256 ∧ q.vers < 4294967296 ∧ q.path < 18446744073709551616
def Sta.ok (s : Sta) : Prop := s.type < 65536 ∧ s.dev < 4294967296 ∧ s.qid.ok ∧ s.mode < 4294967296 ∧ s.atime < 4294967296 ∧ s.mtime < 4294967296 ∧ s.length < 18446744073709551616

inductive Fld where
  | msize | version | afid | uname | aname | ename | oldtag | fid | newfid | names | qids | qid | mode | iounit | name | perm | offset | count | data | stat
def Fld.ix : Fld → Nat
  | .msize => 0 | .version => 1 | .afid => 2 | .uname => 3 | .aname => 4 | .ename => 5 | .oldtag => 6 | .fid => 7 | .newfid => 8 | .names => 9 | .qids => 10 | .qid => 11 | .mode => 12 | .iounit => 13 | .name => 14 | .perm => 15 | .offset => 16 | .count => 17 | .data => 18 | .stat => 19
/-- How many bytes a number has; 0: the field is none. -/
def Fld.width : Fld → Nat
  | .msize => 4 | .afid => 4 | .fid => 4 | .newfid => 4 | .iounit => 4 | .perm => 4 | .count => 4 | .oldtag => 2 | .mode => 1 | .offset => 8 | _ => 0
def Fld.isText : Fld → Bool
  | .version | .uname | .aname | .ename | .name => true | _ => false
def Mg.num (m : Mg) : Fld → Nat
  | .msize => m.msize | .afid => m.afid | .fid => m.fid | .newfid => m.newfid | .iounit => m.iounit | .perm => m.perm | .count => m.count | .oldtag => m.oldtag | .mode => m.mode | .offset => m.offset | _ => 0
def Mg.setNum (m : Mg) (n : Nat) : Fld → Mg
  | .msize => { m with msize := n }
  | .afid => { m with afid := n }
  | .fid => { m with fid := n }
  | .newfid => { m with newfid := n }
  | .iounit => { m with iounit := n }
  | .perm => { m with perm := n }
  | .count => { m with count := n }
  | .oldtag => { m with oldtag := n }
  | .mode => { m with mode := n }
  | .offset => { m with offset := n }
  | _ => m
def Mg.txt (m : Mg) : Fld → ByteArray
  | .version => m.version | .uname => m.uname | .aname => m.aname | .ename => m.ename | .name => m.name | _ => e0
def Mg.setTxt (m : Mg) (s : ByteArray) : Fld → Mg
  | .version => { m with version := s }
  | .uname => { m with uname := s }
  | .aname => { m with aname := s }
  | .ename => { m with ename := s }
  | .name => { m with name := s }
  | _ => m
/-- The numbers are what numbers of that width can be. -/
structure Mg.ok (m : Mg) : Prop where
  kind : m.kind < 256
  tag : m.tag < 65536
  msize : m.msize < 4294967296
  afid : m.afid < 4294967296
  fid : m.fid < 4294967296
  newfid : m.newfid < 4294967296
  iounit : m.iounit < 4294967296
  perm : m.perm < 4294967296
  count : m.count < 4294967296
  oldtag : m.oldtag < 65536
  mode : m.mode < 256
  offset : m.offset < 18446744073709551616
  qids : ∀ q ∈ m.qids, q.ok
  qid : m.qid.ok
  stat : m.stat.ok
/-- The fields that a kind uses. -/
def kindF : Nat → Option (List Fld)
  | 100 => some [.msize, .version]
  | 101 => some [.msize, .version]
  | 102 => some [.afid, .uname, .aname]
  | 103 => some [.qid]
  | 104 => some [.fid, .afid, .uname, .aname]
  | 105 => some [.qid]
  | 107 => some [.ename]
  | 108 => some [.oldtag]
  | 109 => some []
  | 110 => some [.fid, .newfid, .names]
  | 111 => some [.qids]
  | 112 => some [.fid, .mode]
  | 113 => some [.qid, .iounit]
  | 114 => some [.fid, .name, .perm, .mode]
  | 115 => some [.qid, .iounit]
  | 116 => some [.fid, .offset, .count]
  | 117 => some [.data]
  | 118 => some [.fid, .offset, .data]
  | 119 => some [.count]
  | 120 => some [.fid]
  | 121 => some []
  | 122 => some [.fid]
  | 123 => some []
  | 124 => some [.fid]
  | 125 => some [.stat]
  | 126 => some [.fid, .stat]
  | 127 => some []
  | _ => none
/-- A kind as it is called. -/
def kindN : Nat → List UInt8
  | 100 => [84, 118, 101, 114, 115, 105, 111, 110]
  | 101 => [82, 118, 101, 114, 115, 105, 111, 110]
  | 102 => [84, 97, 117, 116, 104]
  | 103 => [82, 97, 117, 116, 104]
  | 104 => [84, 97, 116, 116, 97, 99, 104]
  | 105 => [82, 97, 116, 116, 97, 99, 104]
  | 107 => [82, 101, 114, 114, 111, 114]
  | 108 => [84, 102, 108, 117, 115, 104]
  | 109 => [82, 102, 108, 117, 115, 104]
  | 110 => [84, 119, 97, 108, 107]
  | 111 => [82, 119, 97, 108, 107]
  | 112 => [84, 111, 112, 101, 110]
  | 113 => [82, 111, 112, 101, 110]
  | 114 => [84, 99, 114, 101, 97, 116, 101]
  | 115 => [82, 99, 114, 101, 97, 116, 101]
  | 116 => [84, 114, 101, 97, 100]
  | 117 => [82, 114, 101, 97, 100]
  | 118 => [84, 119, 114, 105, 116, 101]
  | 119 => [82, 119, 114, 105, 116, 101]
  | 120 => [84, 99, 108, 117, 110, 107]
  | 121 => [82, 99, 108, 117, 110, 107]
  | 122 => [84, 114, 101, 109, 111, 118, 101]
  | 123 => [82, 114, 101, 109, 111, 118, 101]
  | 124 => [84, 115, 116, 97, 116]
  | 125 => [82, 115, 116, 97, 116]
  | 126 => [84, 119, 115, 116, 97, 116]
  | 127 => [82, 119, 115, 116, 97, 116]
  | _ => []
/-- A field as it is called in a line. -/
def Fld.word : Fld → List UInt8
  | .msize => [109, 115, 105, 122, 101]
  | .version => [118, 101, 114, 115, 105, 111, 110]
  | .afid => [97, 102, 105, 100]
  | .uname => [117, 110, 97, 109, 101]
  | .aname => [97, 110, 97, 109, 101]
  | .ename => [101, 110, 97, 109, 101]
  | .oldtag => [111, 108, 100, 116, 97, 103]
  | .fid => [102, 105, 100]
  | .newfid => [110, 101, 119, 102, 105, 100]
  | .names => [110, 97, 109, 101, 115]
  | .qids => [113, 105, 100, 115]
  | .qid => [113, 105, 100]
  | .mode => [109, 111, 100, 101]
  | .iounit => [105, 111, 117, 110, 105, 116]
  | .name => [110, 97, 109, 101]
  | .perm => [112, 101, 114, 109]
  | .offset => [111, 102, 102, 115, 101, 116]
  | .count => [99, 111, 117, 110, 116]
  | .data => [100, 97, 116, 97]
  | .stat => [115, 116, 97, 116]

def le : Nat → Nat → List UInt8
  | 0, _ => []
  | k + 1, n => UInt8.ofNat (n % 256) :: le k (n / 256)
def strB (s : ByteArray) : List UInt8 := le 2 s.size ++ s.data.toList
def qidB (q : Qd) : List UInt8 := le 1 q.kind ++ le 4 q.vers ++ le 8 q.path
def stSize (s : Sta) : Nat := 49 + s.name.size + s.uid.size + s.gid.size + s.muid.size
def statB (s : Sta) : List UInt8 :=
  le 2 (stSize s - 2) ++ le 2 s.type ++ le 4 s.dev ++ qidB s.qid ++ le 4 s.mode ++ le 4 s.atime ++ le 4 s.mtime ++ le 8 s.length ++ strB s.name ++ strB s.uid ++ strB s.gid ++ strB s.muid
/-- A field as bytes. -/
def Mg.bytes (m : Mg) : Fld → List UInt8
  | .names => le 2 m.names.length ++ m.names.flatMap strB
  | .qids => le 2 m.qids.length ++ m.qids.flatMap qidB
  | .qid => qidB m.qid
  | .data => le 4 m.data.length ++ m.data
  | .stat => le 2 (stSize m.stat) ++ statB m.stat
  | f => if f.isText then strB (m.txt f) else le f.width (m.num f)
/-- How many bytes a field has. -/
def Mg.long (m : Mg) : Fld → Nat
  | .names => 2 + (m.names.map fun s => 2 + s.size).sum
  | .qids => 2 + 13 * m.qids.length
  | .qid => 13
  | .data => 4 + m.data.length
  | .stat => 2 + stSize m.stat
  | f => if f.isText then 2 + (m.txt f).size else f.width
def Sta.good (s : Sta) : Bool := Go.Proofs.YtkblmloobkiloaaGreatDoor.good s.name && Go.Proofs.YtkblmloobkiloaaGreatDoor.good s.uid && Go.Proofs.YtkblmloobkiloaaGreatDoor.good s.gid && Go.Proofs.YtkblmloobkiloaaGreatDoor.good s.muid
/-- Can a field be written? -/
def Mg.good (m : Mg) : Fld → Bool
  | .names => decide (m.names.length ≤ 16) && m.names.all Go.Proofs.YtkblmloobkiloaaGreatDoor.good
  | .qids => decide (m.qids.length ≤ 16)
  | .stat => m.stat.good
  | f => if f.isText then Go.Proofs.YtkblmloobkiloaaGreatDoor.good (m.txt f) else true
def Mg.size (m : Mg) (fs : List Fld) : Nat := 7 + (fs.map m.long).sum
/-- The error with which a message can't be written, and the bytes of its frame. -/
def refused (m : Mg) : Nat × Nat :=
  match kindF m.kind with
  | none => (32, 0)
  | some fs => if fs.all m.good then if 65536 < m.size fs then (31, 0) else (0, m.size fs) else (30, 0)
def body (m : Mg) (fs : List Fld) : List UInt8 := fs.flatMap m.bytes
def enc (m : Mg) : List UInt8 × Nat :=
  match kindF m.kind with
  | none => ([], 32)
  | some fs => if (refused m).1 = 0 then (le 4 (m.size fs) ++ le 1 m.kind ++ le 2 m.tag ++ body m fs, 0) else ([], (refused m).1)
/-- A field moved. -/
def Mg.move (c m : Mg) : Fld → Mg
  | .names => { c with names := m.names }
  | .qids => { c with qids := m.qids }
  | .qid => { c with qid := m.qid }
  | .data => { c with data := m.data }
  | .stat => { c with stat := m.stat }
  | f => if f.isText then c.setTxt (m.txt f) f else c.setNum (m.num f) f
def clean (m : Mg) : Mg := ((kindF m.kind).getD []).foldl (fun c f => c.move m f) (head m.kind m.tag)

/-! Reading a frame. -/
def numL : List UInt8 → Nat
  | [] => 0
  | b :: t => b.toNat + 256 * numL t
def getN (n : Nat) (l : List UInt8) : Option (List UInt8 × List UInt8) := if n ≤ l.length then some (l.take n, l.drop n) else none
def getNum (k : Nat) (l : List UInt8) : Option (Nat × List UInt8) := (getN k l).map fun p => (numL p.1, p.2)
def getStr (l : List UInt8) : Option (ByteArray × List UInt8) :=
  match getNum 2 l with
  | none => none
  | some (n, r) =>
    match getN n r with
    | none => none
    | some (s, r) => if Go.Proofs.YtkblmloobkiloaaGreatDoor.good (ofL s) then some (ofL s, r) else none
def getQid (l : List UInt8) : Option (Qd × List UInt8) := if 13 ≤ l.length then some (⟨numL (l.take 1), numL ((l.drop 1).take 4), numL ((l.drop 5).take 8)⟩, l.drop 13) else none
def getMany {α : Type} (one : List UInt8 → Option (α × List UInt8)) : Nat → List UInt8 → Option (List α × List UInt8)
  | 0, l => some ([], l)
  | n + 1, l =>
    match one l with
    | none => none
    | some (x, r) =>
      match getMany one n r with
      | none => none
      | some (xs, r) => some (x :: xs, r)
def getList {α : Type} (one : List UInt8 → Option (α × List UInt8)) (l : List UInt8) : Option (List α × List UInt8) :=
  match getNum 2 l with
  | none => none
  | some (n, r) => if 16 < n then none else getMany one n r
/-- The four texts at the end of a record. -/
def getTexts (l : List UInt8) : Option ((ByteArray × ByteArray × ByteArray × ByteArray) × List UInt8) :=
  match getStr l with
  | none => none
  | some (a, r) =>
    match getStr r with
    | none => none
    | some (b, r) =>
      match getStr r with
      | none => none
      | some (c, r) =>
        match getStr r with
        | none => none
        | some (d, r) => some ((a, b, c, d), r)
/-- A record, which has to be all. -/
def getRec (l : List UInt8) : Option Sta :=
  if l.length < 49 then none else
  if numL (l.take 2) + 2 ≠ l.length then none else
  match getTexts (l.drop 41) with
  | some ((a, b, c, d), []) => some ⟨numL ((l.drop 2).take 2), numL ((l.drop 4).take 4), ⟨numL ((l.drop 8).take 1), numL ((l.drop 9).take 4), numL ((l.drop 13).take 8)⟩, numL ((l.drop 21).take 4), numL ((l.drop 25).take 4), numL ((l.drop 29).take 4), numL ((l.drop 33).take 8), a, b, c, d⟩
  | _ => none
/-- A record with its count: it has to be all that is left. -/
def getStat (l : List UInt8) : Option (Sta × List UInt8) :=
  match getNum 2 l with
  | none => none
  | some (n, r) => if n = r.length then (getRec r).map fun s => (s, []) else none
/-- The next field. -/
def getF (m : Mg) (l : List UInt8) : Fld → Option (Mg × List UInt8)
  | .names => (getList getStr l).map fun p => ({ m with names := p.1 }, p.2)
  | .qids => (getList getQid l).map fun p => ({ m with qids := p.1 }, p.2)
  | .qid => (getQid l).map fun p => ({ m with qid := p.1 }, p.2)
  | .data =>
    match getNum 4 l with
    | none => none
    | some (n, r) => (getN n r).map fun p => ({ m with data := p.1 }, p.2)
  | .stat => (getStat l).map fun p => ({ m with stat := p.1 }, p.2)
  | f => if f.isText then (getStr l).map fun p => (m.setTxt p.1 f, p.2) else (getNum f.width l).map fun p => (m.setNum p.1 f, p.2)
def getAll : List Fld → Mg → List UInt8 → Option (Mg × List UInt8)
  | [], m, l => some (m, l)
  | f :: fs, m, l =>
    match getF m l f with
    | none => none
    | some (m, l) => getAll fs m l
def dec (l : List UInt8) : Mg × Nat :=
  if l.length < 7 ∨ 65536 < l.length then (head 0 0, 31) else
  if numL (l.take 4) ≠ l.length then (head 0 0, 31) else
  match kindF (numL ((l.drop 4).take 1)) with
  | none => (head (numL ((l.drop 4).take 1)) (numL ((l.drop 5).take 2)), 32)
  | some fs =>
    match getAll fs (head (numL ((l.drop 4).take 1)) (numL ((l.drop 5).take 2))) (l.drop 7) with
    | some (m, []) => (m, 0)
    | _ => (head (numL ((l.drop 4).take 1)) (numL ((l.drop 5).take 2)), 33)

/-! Lines. -/
def hexD (n : Nat) : UInt8 := UInt8.ofNat (if n < 10 then 48 + n else 87 + n)
def hexB (c : UInt8) : List UInt8 := [hexD (c.toNat / 16), hexD (c.toNat % 16)]
def ctl (c : UInt8) : Bool := decide (c.toNat < 32) || decide (c.toNat = 127)
def esc (c : UInt8) : Bool := decide (c.toNat = 34) || decide (c.toNat = 92)
def quoteC (c : UInt8) : List UInt8 := if esc c then [92, c] else if ctl c then 92 :: 120 :: hexB c else [c]
def quoteL (l : List UInt8) : List UInt8 := 34 :: (l.flatMap quoteC ++ [34])
def quoteS (s : ByteArray) : List UInt8 := quoteL s.data.toList
def dotL (q : Qd) : List UInt8 := decDigits q.kind ++ 46 :: (decDigits q.vers ++ 46 :: decDigits q.path)
def recL (s : Sta) : List UInt8 :=
  [123, 116, 121, 112, 101, 61] ++ decDigits s.type ++ [32, 100, 101, 118, 61] ++ decDigits s.dev ++ [32, 113, 105, 100, 61] ++ dotL s.qid ++ [32, 109, 111, 100, 101, 61] ++ decDigits s.mode ++ [32, 97, 116, 105, 109, 101, 61] ++ decDigits s.atime ++ [32, 109, 116, 105, 109, 101, 61] ++ decDigits s.mtime ++ [32, 108, 101, 110, 103, 116, 104, 61] ++ decDigits s.length ++ [32, 110, 97, 109, 101, 61] ++ quoteS s.name ++ [32, 117, 105, 100, 61] ++ quoteS s.uid ++ [32, 103, 105, 100, 61] ++ quoteS s.gid ++ [32, 109, 117, 105, 100, 61] ++ quoteS s.muid ++ [125]
def joinS (l : List (List UInt8)) : List UInt8 :=
  match l with
  | [] => []
  | x :: r => x ++ r.flatMap fun y => 32 :: y
/-- A field's value in a line. -/
def Mg.val (m : Mg) : Fld → List UInt8
  | .names => 91 :: (joinS (m.names.map quoteS) ++ [93])
  | .qids => 91 :: (joinS (m.qids.map dotL) ++ [93])
  | .qid => dotL m.qid
  | .data => m.data.flatMap hexB
  | .stat => recL m.stat
  | f => if f.isText then quoteS (m.txt f) else decDigits (m.num f)
def Mg.part (m : Mg) (f : Fld) : List UInt8 := 32 :: (f.word ++ 61 :: m.val f)
def textM (m : Mg) : List UInt8 :=
  match kindF m.kind with
  | none => []
  | some fs => if (refused m).1 = 0 then kindN m.kind ++ 32 :: (decDigits m.tag ++ fs.flatMap m.part) else []

/-! Reading a line: the part and what stands behind it, or how many bytes stand from the place on at which it is wrong. -/
def isDig (c : UInt8) : Bool := decide (48 ≤ c.toNat) && decide (c.toNat ≤ 57)
def isHexC (c : UInt8) : Bool := isDig c || (decide (97 ≤ c.toNat) && decide (c.toNat ≤ 102))
def isLet (c : UInt8) : Bool := (decide (65 ≤ c.toNat) && decide (c.toNat ≤ 90)) || (decide (97 ≤ c.toNat) && decide (c.toNat ≤ 122))
def hexV (c : UInt8) : Nat := if c.toNat < 58 then c.toNat - 48 else c.toNat - 87
def decV (l : List UInt8) : Nat := l.foldl (fun n c => n * 10 + (c.toNat - 48)) 0
def pWord (w l : List UInt8) : Except Nat (List UInt8) := if w.isPrefixOf l then .ok (l.drop w.length) else .error l.length
def pNum (most : Nat) (l : List UInt8) : Except Nat (Nat × List UInt8) :=
  let d := l.takeWhile isDig
  if d = [] ∨ (2 ≤ d.length ∧ d.head? = some 48) ∨ most < decV d then .error l.length else .ok (decV d, l.drop d.length)
def pairs : List UInt8 → List UInt8
  | h :: k :: r => UInt8.ofNat (hexV h * 16 + hexV k) :: pairs r
  | _ => []
def pData (l : List UInt8) : Except Nat (List UInt8 × List UInt8) :=
  let d := l.takeWhile isHexC
  if d.length % 2 = 1 then .error l.length else .ok (pairs d, l.drop d.length)
/-- What stands between quotes (behind the first one): the text, and what stands behind the last one. -/
def unq : List UInt8 → Option (List UInt8 × List UInt8)
  | [] => none
  | c :: r =>
    if c.toNat = 34 then some ([], r) else
    if ctl c then none else
    if c.toNat ≠ 92 then (unq r).map fun p => (c :: p.1, p.2) else
    match r with
    | [] => none
    | d :: r1 =>
      if esc d then (unq r1).map fun p => (d :: p.1, p.2) else
      if d.toNat ≠ 120 then none else
      match r1 with
      | h :: k :: r2 => if isHexC h && isHexC k && ctl (UInt8.ofNat (hexV h * 16 + hexV k)) then (unq r2).map fun p => (UInt8.ofNat (hexV h * 16 + hexV k) :: p.1, p.2) else none
      | _ => none
def pText (l : List UInt8) : Except Nat (ByteArray × List UInt8) :=
  match l with
  | [] => .error 0
  | c :: r =>
    if c.toNat ≠ 34 then .error l.length else
    match unq r with
    | none => .error l.length
    | some (t, r) => if Go.Proofs.YtkblmloobkiloaaGreatDoor.good (ofL t) then .ok (ofL t, r) else .error l.length
def pQid (l : List UInt8) : Except Nat (Qd × List UInt8) := do
  let (k, l) ← pNum 255 l
  let l ← pWord [46] l
  let (v, l) ← pNum 4294967295 l
  let l ← pWord [46] l
  let (p, l) ← pNum 18446744073709551615 l
  return (⟨k, v, p⟩, l)
/-- The things of a list, at most n, behind the first place. -/
def pMany {α : Type} (one : List UInt8 → Except Nat (α × List UInt8)) : Nat → Bool → List UInt8 → Except Nat (List α × List UInt8)
  | n, first, l =>
    if l.head? = some 93 then .ok ([], l.drop 1) else
    match n with
    | 0 => .error l.length
    | n + 1 => do
      let l ← if first then pure l else pWord [32] l
      let (x, l) ← one l
      let (xs, l) ← pMany one n false l
      return (x :: xs, l)
def pList {α : Type} (one : List UInt8 → Except Nat (α × List UInt8)) (l : List UInt8) : Except Nat (List α × List UInt8) := do
  let l ← pWord [91] l
  pMany one 16 true l
def pRec (l : List UInt8) : Except Nat (Sta × List UInt8) := do
  let l ← pWord [123, 116, 121, 112, 101, 61] l
  let (vtype, l) ← pNum 65535 l
  let l ← pWord [32, 100, 101, 118, 61] l
  let (vdev, l) ← pNum 4294967295 l
  let l ← pWord [32, 113, 105, 100, 61] l
  let (vqid, l) ← pQid l
  let l ← pWord [32, 109, 111, 100, 101, 61] l
  let (vmode, l) ← pNum 4294967295 l
  let l ← pWord [32, 97, 116, 105, 109, 101, 61] l
  let (vatime, l) ← pNum 4294967295 l
  let l ← pWord [32, 109, 116, 105, 109, 101, 61] l
  let (vmtime, l) ← pNum 4294967295 l
  let l ← pWord [32, 108, 101, 110, 103, 116, 104, 61] l
  let (vlength, l) ← pNum 18446744073709551615 l
  let l ← pWord [32, 110, 97, 109, 101, 61] l
  let (vname, l) ← pText l
  let l ← pWord [32, 117, 105, 100, 61] l
  let (vuid, l) ← pText l
  let l ← pWord [32, 103, 105, 100, 61] l
  let (vgid, l) ← pText l
  let l ← pWord [32, 109, 117, 105, 100, 61] l
  let (vmuid, l) ← pText l
  let l ← pWord [125] l
  return (⟨vtype, vdev, vqid, vmode, vatime, vmtime, vlength, vname, vuid, vgid, vmuid⟩, l)
def most (k : Nat) : Nat := 256 ^ k - 1
def pF (m : Mg) (l : List UInt8) : Fld → Except Nat (Mg × List UInt8)
  | .names => (pList pText l).map fun p => ({ m with names := p.1 }, p.2)
  | .qids => (pList pQid l).map fun p => ({ m with qids := p.1 }, p.2)
  | .qid => (pQid l).map fun p => ({ m with qid := p.1 }, p.2)
  | .data => (pData l).map fun p => ({ m with data := p.1 }, p.2)
  | .stat => (pRec l).map fun p => ({ m with stat := p.1 }, p.2)
  | f => if f.isText then (pText l).map fun p => (m.setTxt p.1 f, p.2) else (pNum (most f.width) l).map fun p => (m.setNum p.1 f, p.2)
def pAll : List Fld → Mg → List UInt8 → Except Nat (Mg × List UInt8)
  | [], m, l => .ok (m, l)
  | f :: fs, m, l => do
    let l ← pWord (32 :: (f.word ++ [61])) l
    let (m, l) ← pF m l f
    pAll fs m l
/-- The kind that is called so. -/
def kindOf (s : List UInt8) : Option Nat := if s = [] then none else (List.range 28).find? (fun i => decide (kindN (100 + i) = s)) |>.map (100 + ·)
/-- A line's message, or how many bytes stand from the wrong place on. -/
def pLine (l : List UInt8) : Except Nat Mg :=
  let n := l.takeWhile isLet
  match kindOf n with
  | none => .error l.length
  | some k => do
    let l ← pWord [32] (l.drop n.length)
    let (t, l) ← pNum 65535 l
    let (m, l) ← pAll ((kindF k).getD []) (head k t) l
    if l = [] then .ok m else .error l.length
/-- The message, the place, the error. -/
def parseM (l : List UInt8) : Mg × Nat × Nat :=
  match pLine l with
  | .error n => (head 0 0, l.length - n, 34)
  | .ok m => if (refused m).1 = 0 then (m, 0, 0) else (head 0 0, l.length, (refused m).1)
end Go.Proofs.YtkblmloobkiloaaGreatDoor
namespace Go.Proofs.YtkblmloobkiloaaGreatDoor
open Go.RowKit

abbrev byteL (l : List UInt8) : List Value := l.map fun c => .int .u8 (c.toNat : Int)
theorem byteL_app (a b : List UInt8) : byteL (a ++ b) = byteL a ++ byteL b := List.map_append
theorem byteL_len (l : List UInt8) : (byteL l).length = l.length := List.length_map ..
theorem byteL_one (l : List UInt8) : ∀ u ∈ byteL l, u.oneCell' = true := by
  intro u hu
  obtain ⟨c, -, rfl⟩ := List.mem_map.1 hu
  rfl
abbrev strL (l : List ByteArray) : List Value := l.map Value.string
theorem strL_one (l : List ByteArray) : ∀ u ∈ strL l, u.oneCell' = true := by
  intro u hu
  obtain ⟨c, -, rfl⟩ := List.mem_map.1 hu
  rfl
abbrev natL (l : List Nat) : List Value := l.map fun n : Nat => .int .i64 (n : Int)
abbrev qidC (q : Qd) : List Value := [.int .u8 (q.kind : Int), .int .u32 (q.vers : Int), .int .u64 (q.path : Int)]
abbrev qidL (l : List Qd) : List Value := l.flatMap qidC
theorem qidL_len (l : List Qd) : (qidL l).length = l.length * 3 := by
  induction l with
  | nil => rfl
  | cons q l ih =>
    show (qidC q ++ qidL l).length = _
    rw [List.length_append, ih]
    simp only [List.length_cons, List.length_nil]
    omega
theorem qidL_one (l : List Qd) : ∀ u ∈ qidL l, u.oneCell' = true := by
  intro u hu
  obtain ⟨q, -, hq⟩ := List.mem_flatMap.1 hu
  simp only [qidC, List.mem_cons, List.not_mem_nil, or_false] at hq
  rcases hq with rfl | rfl | rfl <;> rfl
theorem u8_info : (Tryz.prog.info? 5).map (fun i => (i.zero, i.size, i.bytes)) = some (some (.int .u8 0), 1, 1) := by kernel_rfl
theorem str_inf : (Tryz.prog.info? 9).map (fun i => (i.zero, i.size, i.bytes)) = some (some (.string ⟨#[]⟩), 1, 16) := by kernel_rfl
theorem int_inf : (Tryz.prog.info? 3).map (fun i => (i.zero, i.size, i.bytes)) = some (some (.int .i64 0), 1, 8) := by kernel_rfl
theorem qid_info : (Tryz.prog.info? 37).map (fun i => (i.zero, i.size, i.bytes)) = some (some (.agg #[.int .u8 0, .int .u32 0, .int .u64 0]), 3, 16) := by kernel_rfl
theorem own_len {w : World} {base n size : Nat} {e : TypeId} {v : Value} {xs : List Value} (h : w.ownsRow base e size v n xs) : ∃ A cap, v = .slice A n cap ∧ n ≤ cap ∧ cap ≤ maxLen := by
  rcases h.2 with ⟨rfl, rfl⟩ | ⟨g, cap, cur, rfl, _, _, hc, hm, _⟩
  · exact ⟨none, 0, rfl, Nat.le_refl _, Nat.zero_le _⟩
  · exact ⟨_, cap, rfl, hc, hm⟩
theorem own_nil (w : World) (base : Nat) (e : TypeId) (size : Nat) : w.ownsRow base e size (.slice none 0 0) 0 [] := World.ownsRow_nil _ _ _ _
theorem own_other {w w' : World} {base q n : Nat} {e : TypeId} {size : Nat} {v : Value} {xs : List Value} (h : w.ownsRow base e size v n xs) (hv : v.ownBlock ≠ some q) (ho : ∀ i, i < w.heap.size → i ≠ q → w'.heap[i]? = w.heap[i]?) : w'.ownsRow base e size v n xs := by
  refine ⟨h.1, ?_⟩
  rcases h.2 with h0 | ⟨g, cap, cur, rfl, hb, hg, r⟩
  · exact .inl h0
  · refine .inr ⟨g, cap, cur, rfl, hb, (ho g (heap_lt hg) (fun hq => hv (by rw [hq]; rfl))).trans hg, r⟩
theorem setCell_other (w : World) (q i : Nat) (v : Value) : ∀ (j : Nat), j < w.heap.size → j ≠ q → (w.setCell ⟨q, i, none⟩ v).heap[j]? = w.heap[j]? := fun _ _ hj => Below.heap_setCell _ _ _ _ hj
theorem below_drew (w : World) : Below w.heap.size w w.drew := (Below.refl _ _).drew

/-- The value hv reads as the bytes l, and lies below B. -/
def Bys (w : World) (B : Nat) (hv : Value) (l : List UInt8) : Prop := ∃ A cap, hv = .slice A l.length cap ∧ l.length ≤ cap ∧ cap ≤ maxLen ∧ Reads w B 1 A l.length (byteL l)
theorem Bys.nil_ (w : World) (B : Nat) : Bys w B (.slice none 0 0) [] := ⟨none, 0, rfl, Nat.le_refl _, Nat.zero_le _, Reads.none_⟩
theorem Bys.keep {w w' : World} {B : Nat} {hv : Value} {l : List UInt8} (h : Bys w B hv l) (hk : ∀ p : Addr, p.block < B → w'.cell? p = w.cell? p) : Bys w' B hv l := by
  obtain ⟨A, cap, e, h1, h2, h3⟩ := h
  exact ⟨A, cap, e, h1, h2, h3.keep hk⟩
theorem Bys.below {w w' : World} {B : Nat} {hv : Value} {l : List UInt8} (h : Bys w B hv l) (hb : Below B w w') : Bys w' B hv l := h.keep fun _ hp => hb.cell hp
theorem Bys.more {w : World} {B B' : Nat} {hv : Value} {l : List UInt8} (h : Bys w B hv l) (hB : B ≤ B') : Bys w B' hv l := by
  obtain ⟨A, cap, e, h1, h2, h3⟩ := h
  exact ⟨A, cap, e, h1, h2, h3.more hB⟩
theorem Bys.of_own {w : World} {base : Nat} {hv : Value} {l : List UInt8} {n : Nat} (h : w.ownsRow base 5 1 hv n (byteL l)) : Bys w w.heap.size hv l := by
  have hn : n = l.length := by
    have := h.1
    simp at this
    exact this.symm
  subst hn
  rcases h.2 with ⟨rfl, h0⟩ | ⟨g, cap, cur, rfl, _, _, hc, hm, _⟩
  · have : l = [] := List.eq_nil_of_length_eq_zero h0
    subst this
    exact Bys.nil_ _ _
  · exact ⟨_, cap, rfl, hc, hm, Reads.of_own h⟩
theorem conv_bys {w : World} {B : Nat} {hv : Value} {l : List UInt8} (h : Bys w B hv l) : (convert 22 9 hv).run Tryz.prog w = .ok (.string (ofL l)) w := by
  by_cases hl : l = []
  · subst hl
    obtain ⟨A, cap, rfl, -⟩ := h
    cases A with
    | none => exact run_convert_bytes_nil (P := Tryz.prog) (w := w) 22 5 Tryz.underlying22 Tryz.underlying5 0 cap 9 Tryz.underlying9
    | some ad => exact run_convert_bytes_back (P := Tryz.prog) w 22 9 5 ad cap [] Tryz.underlying22 Tryz.underlying5 Tryz.underlying9 (fun j hj => absurd hj (Nat.not_lt_zero _))
  · obtain ⟨A, cap, rfl, _, _, hr⟩ := h
    have hp : 0 < l.length := List.length_pos_iff.2 hl
    obtain ⟨ad, rfl, _, hc⟩ := hr.2 hp
    refine run_convert_bytes_back (P := Tryz.prog) w 22 9 5 ad cap l Tryz.underlying22 Tryz.underlying5 Tryz.underlying9 (fun j hj => hc j _ ?_)
    rw [List.getElem?_map, List.getElem?_eq_getElem hj]
    rfl
/-- A row that was just laid reads as its cells. -/
theorem readsNew (w : World) (t : TypeId) (xs : List Value) (n size : Nat) (hn : xs.length = n * size) : Reads (w.alloc (.cells xs.toArray t)) (w.heap.size + 1) size (some ⟨w.heap.size, 0, none⟩) n xs := by
  refine ⟨hn, fun _ => ⟨_, rfl, Nat.lt_succ_self _, fun j u hj => ?_⟩⟩
  have h := (Blk.new w t xs.toArray).cell j
  have e : (Addr.mk w.heap.size 0 none).add j = ⟨w.heap.size, j, none⟩ := by
    unfold Addr.add
    by_cases h0 : j = 0 <;> simp [h0]
  rw [e, h]
  simpa using hj

section
variable {w : World}
/-- append onto a row of bytes that is one's own, from whatever source. -/
theorem appU8 {ops : Array Oper} {rest : List Oper} {o : Oper} {a : Act} {Q : Exit → Act → World → Prop} (s x : Operand) (hgd : o.guard = none)
    (ho : o.op = .call { callee := .builtin .append, args := #[s, x], argTypes := #[22, 22] })
    (base : Nat) (v : Value) (l : List UInt8) (hs : a.eval s = v) (hown : w.ownsRow base 5 1 v l.length (byteL l))
    (B : Nat) (A : Option Addr) (c : Nat) (news : List UInt8) (hx : a.eval x = .slice A news.length c) (hr : Reads w B 1 A news.length (byteL news))
    (hlen : l.length + news.length ≤ 140737488355327) (hbase : base ≤ w.heap.size)
    (h : ∀ v' w', w'.ownsRow base 5 1 v' (l ++ news).length (byteL (l ++ news)) → w.grownBy w' v.ownBlock → (v'.ownBlock = v.ownBlock ∨ v'.ownBlock = some w.heap.size) → wpList Tryz.prog ops Q rest (a.put o.dst v') w') : wpList Tryz.prog ops Q (o :: rest) a w := by
  obtain ⟨i0, hi0, hz0, hz1, hz2⟩ := info_parts u8_info
  refine wpList_append_any w hgd s x _ ho base 5 i0 _ 1 1 Tryz.underlying22 hi0 hz0 hz1 hz2 rfl (by omega) v l.length (byteL l) hs hown B A news.length c (byteL news) hx hr (byteL_one news) (by unfold maxLen; omega) (by omega) hbase ?_
  intro v' w' h1 h2 h3
  refine h v' w' ?_ h2 h3
  rw [List.length_append, byteL_app]
  exact h1
theorem appStr {ops : Array Oper} {rest : List Oper} {o : Oper} {a : Act} {Q : Exit → Act → World → Prop} (s x : Operand) (hgd : o.guard = none)
    (ho : o.op = .call { callee := .builtin .append, args := #[s, x], argTypes := #[33, 33] })
    (base : Nat) (v : Value) (l : List ByteArray) (hs : a.eval s = v) (hown : w.ownsRow base 9 1 v l.length (strL l))
    (B : Nat) (A : Option Addr) (c : Nat) (news : List ByteArray) (hx : a.eval x = .slice A news.length c) (hr : Reads w B 1 A news.length (strL news))
    (hlen : l.length + news.length ≤ 8796093022207) (hbase : base ≤ w.heap.size)
    (h : ∀ v' w', w'.ownsRow base 9 1 v' (l ++ news).length (strL (l ++ news)) → w.grownBy w' v.ownBlock → (v'.ownBlock = v.ownBlock ∨ v'.ownBlock = some w.heap.size) → wpList Tryz.prog ops Q rest (a.put o.dst v') w') : wpList Tryz.prog ops Q (o :: rest) a w := by
  obtain ⟨i0, hi0, hz0, hz1, hz2⟩ := info_parts str_inf
  refine wpList_append_any w hgd s x _ ho base 9 i0 _ 1 16 Tryz.underlying33 hi0 hz0 hz1 hz2 rfl (by omega) v l.length (strL l) hs hown B A news.length c (strL news) hx hr (strL_one news) (by unfold maxLen; omega) (by omega) hbase ?_
  intro v' w' h1 h2 h3
  refine h v' w' ?_ h2 h3
  rw [List.length_append, strL, List.map_append]
  exact h1
theorem appInt {ops : Array Oper} {rest : List Oper} {o : Oper} {a : Act} {Q : Exit → Act → World → Prop} (s x : Operand) (hgd : o.guard = none)
    (ho : o.op = .call { callee := .builtin .append, args := #[s, x], argTypes := #[157, 157] })
    (base : Nat) (v : Value) (l : List Nat) (hs : a.eval s = v) (hown : w.ownsRow base 3 1 v l.length (natL l))
    (B : Nat) (A : Option Addr) (c : Nat) (news : List Nat) (hx : a.eval x = .slice A news.length c) (hr : Reads w B 1 A news.length (natL news))
    (hlen : l.length + news.length ≤ 8796093022207) (hbase : base ≤ w.heap.size)
    (h : ∀ v' w', w'.ownsRow base 3 1 v' (l ++ news).length (natL (l ++ news)) → w.grownBy w' v.ownBlock → (v'.ownBlock = v.ownBlock ∨ v'.ownBlock = some w.heap.size) → wpList Tryz.prog ops Q rest (a.put o.dst v') w') : wpList Tryz.prog ops Q (o :: rest) a w := by
  obtain ⟨i0, hi0, hz0, hz1, hz2⟩ := info_parts int_inf
  refine wpList_append_any w hgd s x _ ho base 3 i0 _ 1 8 Tryz.underlying157 hi0 hz0 hz1 hz2 rfl (by omega) v l.length (natL l) hs hown B A news.length c (natL news) hx hr (fun u hu => by obtain ⟨n, -, rfl⟩ := List.mem_map.1 hu; rfl) (by unfold maxLen; omega) (by omega) hbase ?_
  intro v' w' h1 h2 h3
  refine h v' w' ?_ h2 h3
  rw [List.length_append, natL, List.map_append]
  exact h1
theorem appQid {ops : Array Oper} {rest : List Oper} {o : Oper} {a : Act} {Q : Exit → Act → World → Prop} (s x : Operand) (hgd : o.guard = none)
    (ho : o.op = .call { callee := .builtin .append, args := #[s, x], argTypes := #[34, 34] })
    (base : Nat) (v : Value) (l : List Qd) (hs : a.eval s = v) (hown : w.ownsRow base 37 3 v l.length (qidL l))
    (B : Nat) (A : Option Addr) (c : Nat) (news : List Qd) (hx : a.eval x = .slice A news.length c) (hr : Reads w B 3 A news.length (qidL news))
    (hlen : l.length + news.length ≤ 8796093022207) (hbase : base ≤ w.heap.size)
    (h : ∀ v' w', w'.ownsRow base 37 3 v' (l ++ news).length (qidL (l ++ news)) → w.grownBy w' v.ownBlock → (v'.ownBlock = v.ownBlock ∨ v'.ownBlock = some w.heap.size) → wpList Tryz.prog ops Q rest (a.put o.dst v') w') : wpList Tryz.prog ops Q (o :: rest) a w := by
  obtain ⟨i0, hi0, hz0, hz1, hz2⟩ := info_parts qid_info
  refine wpList_append_any w hgd s x _ ho base 37 i0 _ 3 16 Tryz.underlying34 hi0 hz0 hz1 hz2 rfl (by omega) v l.length (qidL l) hs hown B A news.length c (qidL news) hx hr (qidL_one news) (by unfold maxLen; omega) (by omega) hbase ?_
  intro v' w' h1 h2 h3
  refine h v' w' ?_ h2 h3
  rw [List.length_append, qidL, List.flatMap_append]
  exact h1
end

/-- Only blocks of that kind may have changed, and new ones have come. -/
structure Off (S : Nat → Prop) (w w' : World) : Prop where
  os : w'.os = w.os
  tape : w'.tape = w.tape
  output : w'.output = w.output
  size : w.heap.size ≤ w'.heap.size
  block : ∀ k, k < w.heap.size → ¬ S k → w'.heap[k]? = w.heap[k]?
section
variable {S S' : Nat → Prop} {a b c w w' : World} {B : Nat}
theorem Off.refl (S : Nat → Prop) (w : World) : Off S w w := ⟨rfl, rfl, rfl, Nat.le_refl _, fun _ _ _ => rfl⟩
theorem Off.trans (h : Off S a b) (k : Off S b c) : Off S a c :=
  ⟨k.os.trans h.os, k.tape.trans h.tape, k.output.trans h.output, Nat.le_trans h.size k.size, fun i hi hs => (k.block i (Nat.lt_of_lt_of_le hi h.size) hs).trans (h.block i hi hs)⟩
theorem Off.mono (h : Off S a b) (hs : ∀ k, k < a.heap.size → S k → S' k) : Off S' a b := ⟨h.os, h.tape, h.output, h.size, fun i hi hn => h.block i hi fun hh => hn (hs i hi hh)⟩
theorem Off.below (h : Off S a b) (hS : ∀ k, S k → B ≤ k) (hB : B ≤ a.heap.size) : Below B a b := ⟨h.os, h.tape, h.output, h.size, fun k hk => h.block k (Nat.lt_of_lt_of_le hk hB) fun hs => Nat.lt_irrefl _ (Nat.lt_of_lt_of_le hk (hS k hs))⟩
theorem Off.of_below (h : Below a.heap.size a b) : Off S a b := ⟨h.os, h.tape, h.output, h.size, fun k hk _ => h.block k hk⟩
theorem Off.drew (h : Off S a b) : Off S a b.drew := ⟨h.os, h.tape, h.output, h.size, h.block⟩
theorem Off.alloc (h : Off S a b) (o : Obj) : Off S a (b.alloc o) := h.trans (Off.of_below ((Below.refl _ _).alloc (Nat.le_refl _) o))
theorem Off.setCell (h : Off S a b) {p : Addr} (hp : S p.block) (u : Value) : Off S a (b.setCell p u) :=
  h.trans ⟨rfl, rfl, rfl, by simp [World.setCell], fun _ _ hn => Below.heap_setCell _ _ _ _ (fun hh => hn (by rw [hh]; exact hp))⟩
theorem Off.blk {g : Nat} {t : TypeId} {cs : Array Value} (h : Off S a b) (hg : Blk a g t cs) (hn : ¬ S g) : Blk b g t cs := (h.block g hg.lt hn).trans hg
theorem Off.own {base n size : Nat} {e : TypeId} {v : Value} {xs : List Value} (h : Off S a b) (ho : a.ownsRow base e size v n xs) (hn : ∀ k, v.ownBlock = some k → ¬ S k) : b.ownsRow base e size v n xs := by
  refine ⟨ho.1, ?_⟩
  rcases ho.2 with h0 | ⟨g, cap, cur, rfl, hb, hg, r⟩
  · exact .inl h0
  · exact .inr ⟨g, cap, cur, rfl, hb, (h.block g (heap_lt hg) (hn g rfl)).trans hg, r⟩
end
end Go.Proofs.YtkblmloobkiloaaGreatDoor
