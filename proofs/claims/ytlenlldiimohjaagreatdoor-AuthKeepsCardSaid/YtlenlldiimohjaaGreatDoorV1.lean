
/-
  The table of the examples. No program in sight.
  vergerlaw09: known.
-/
import Derived.Test.YtlenlldiimohjaaGreatDoorB0
import Derived.Test.YtlenlldiimohjaaGreatDoorV0
namespace Go.Proofs.YtlenlldiimohjaaGreatDoor

/-- "glenda:::\nsys:glenda:bob:\nbob:::\neve:::\n" -/
def peopleS : ByteArray := ⟨#[103, 108, 101, 110, 100, 97, 58, 58, 58, 10, 115, 121, 115, 58, 103, 108, 101, 110, 100, 97, 58, 98, 111, 98, 58, 10, 98, 111, 98, 58, 58, 58, 10, 101, 118, 101, 58, 58, 58, 10]⟩
def glendaB : ByteArray := ⟨#[103, 108, 101, 110, 100, 97]⟩
def sysB : ByteArray := ⟨#[115, 121, 115]⟩
def bobB : ByteArray := ⟨#[98, 111, 98]⟩
def eveB : ByteArray := ⟨#[101, 118, 101]⟩
def peopleL : List Acct := [⟨glendaB, ⟨#[]⟩, [], ⟨#[]⟩⟩, ⟨sysB, glendaB, [bobB], ⟨#[]⟩⟩, ⟨bobB, ⟨#[]⟩, [], ⟨#[]⟩⟩, ⟨eveB, ⟨#[]⟩, [], ⟨#[]⟩⟩]
theorem people_parse : parse peopleS = .ok peopleL := by kernel_rfl
theorem people_size : peopleS.size ≤ 16777216 := by decide
theorem people_mem : isMember peopleL bobB sysB = true ∧ isMember peopleL glendaB sysB = false ∧ isMember peopleL eveB sysB = false ∧ isMember peopleL bobB bobB = true := by decide +kernel
end Go.Proofs.YtlenlldiimohjaaGreatDoor

namespace Go.Proofs.YtlenlldiimohjaaGreatDoor
open Go.ChangeShapes Go.WideShapes Go.ChangeAt Go.RowKit

theorem NBlk.zero (w : World) : NBlk (w.alloc (Obj.cells #[.int .u64 0, .int .u64 0, .string ⟨#[]⟩, .int .u32 0, .string ⟨#[]⟩, .string ⟨#[]⟩, .string ⟨#[]⟩, .int .u32 0, .int .u32 0, .int .u32 0, .int .u64 0, .int .i64 0, .int .i64 0] 25)) w.heap.size Nd.none := NBlk.new w Nd.none

def nA : Nd := ⟨7, 0, ⟨#[]⟩, 416, bobB, sysB, ⟨#[]⟩, 0, 0, 0, 0, 0, 0⟩
def nB : Nd := ⟨3, 0, ⟨#[]⟩, 2147484141, bobB, bobB, ⟨#[]⟩, 0, 0, 0, 0, 0, 0⟩
def nC : Nd := ⟨0, 3, ⟨#[120]⟩, 493, bobB, bobB, bobB, 0, 0, 0, 0, 0, 0⟩
theorem nA_ok : nA.ok := by unfold Nd.ok; decide
theorem nB_ok : nB.ok := by unfold Nd.ok; decide
theorem ex_create : createS nB (rights (decide (bobB = nB.uid)) (isMember peopleL bobB nB.gid) nB.mode) bobB ⟨#[120]⟩ 511 0 false false = (nC, 0) := by kernel_rfl
theorem ex_wants : wantsP 18 = (6, 0) := by kernel_rfl
theorem ex_open : openS nA (rights (decide (eveB = nA.uid)) (isMember peopleL eveB nA.gid) nA.mode) (rights (decide (eveB = nB.uid)) (isMember peopleL eveB nB.gid) nB.mode) 0 (wantsP 0) = 90 := by kernel_rfl
theorem ex_bob : rights (decide (bobB = nA.uid)) (isMember peopleL bobB nA.gid) nA.mode = 6 := by kernel_rfl
theorem ex_glenda : rights (decide (glendaB = nA.uid)) (isMember peopleL glendaB nA.gid) nA.mode = 0 := by kernel_rfl

/-- Where known stands: the table, the nodes laid so far. -/
def KAt (w0 : World) (g : Nat) (bs : List (Nat × Nd)) (w : World) : Prop := PTab w g peopleL ∧ Below w0.heap.size w0 w ∧ Ready w ∧ ∀ x ∈ bs, NBlk w x.1 x.2
section
variable {w0 w w' : World} {g : Nat} {bs : List (Nat × Nd)}
theorem KAt.next (h : KAt w0 g bs w) (hb : Below w.heap.size w w') : KAt w0 g bs w' :=
  ⟨h.1.below hb, h.2.1.trans (hb.mono h.2.1.size), h.2.2.1.below hb (Nat.le_refl _), fun x hx => (h.2.2.2 x hx).below hb⟩
theorem KAt.add (h : KAt w0 g bs w) (hb : Below w.heap.size w w') {q : Nat} {n : Nd} (hn : NBlk w' q n) : KAt w0 g ((q, n) :: bs) w' :=
  ⟨h.1.below hb, h.2.1.trans (hb.mono h.2.1.size), h.2.2.1.below hb (Nat.le_refl _), fun x hx => by
    rcases List.mem_cons.1 hx with rfl | hx
    · exact hn
    · exact (h.2.2.2 x hx).below hb⟩
theorem KAt.start (hr : Ready w0) (hb : Below w0.heap.size w0 w) (hp : PTab w g peopleL) : KAt w0 g [] w := ⟨hp, hb, hr.below hb (Nat.le_refl _), fun _ h => absurd h (by simp)⟩
theorem KAt.tab (h : KAt w0 g bs w) : PTab w g peopleL := h.1
theorem KAt.low (h : KAt w0 g bs w) : Below w0.heap.size w0 w := h.2.1
theorem KAt.ready (h : KAt w0 g bs w) : Ready w := h.2.2.1
theorem KAt.n0 {q : Nat} {n : Nd} (h : KAt w0 g ((q, n) :: bs) w) : NBlk w q n := h.2.2.2 (q, n) (by simp)
theorem KAt.n1 {x : Nat × Nd} {q : Nat} {n : Nd} (h : KAt w0 g (x :: (q, n) :: bs) w) : NBlk w q n := h.2.2.2 (q, n) (by simp)
theorem KAt.n2 {x y : Nat × Nd} {q : Nat} {n : Nd} (h : KAt w0 g (x :: y :: (q, n) :: bs) w) : NBlk w q n := h.2.2.2 (q, n) (by simp)
end

set_option maxRecDepth 100000 in
set_option maxHeartbeats 1600000 in
theorem exKnown_calls (w : World) (hr : Ready w) : Calls Tryz.prog 9 #[] w fun e w' => e = .returned (.bool true) ∧ Below w.heap.size w w' := by
  have HR := Lib.hid hr; clear hr
  go_enter Tryz.func9, Tryz.ntmps9
  go_upto_region 9 with (first
    | (go_at_call 27; refine (parse_calls peopleS _ HR.out).mono ?_; rintro e w1 ⟨hb, hm⟩; rw [people_parse] at hm; obtain ⟨g, hg, rfl, hp⟩ := hm; have HT := Lib.hid (KAt.start HR.out hb hp); clear hg hp hb)
    | (go_at_call 33; refine (create_calls _ peopleL bobB nB nB false false ⟨#[120]⟩ 511 0 _ HT.out.tab nB_ok HT.out.ready (by decide)).mono ?_; rw [ex_create]; rintro e w' ⟨rfl, hb⟩; replace HT := Lib.hid (HT.out.next hb); clear hb)
    | (go_at_call 34; refine (wants_calls 18 _).mono ?_; rw [ex_wants]; rintro e w' ⟨rfl, rfl⟩)
    | (go_at_call 35; refine (open_calls _ peopleL eveB nA nB false false 0 _ HT.out.tab nA_ok nB_ok (by decide)).mono ?_; rw [ex_open]; rintro e w' ⟨rfl, hb⟩; replace HT := Lib.hid (HT.out.next hb); clear hb)
    | (go_at_call_of 36 (ByteArray.mk #[98, 111, 98]); refine (rights_calls _ peopleL bobB nA _ HT.out.tab nA_ok (by decide)).mono ?_; rw [ex_bob]; rintro e w' ⟨rfl, hb⟩; replace HT := Lib.hid (HT.out.next hb); clear hb)
    | (go_at_call_of 36 (ByteArray.mk #[103, 108, 101, 110, 100, 97]); refine (rights_calls _ peopleL glendaB nA _ HT.out.tab nA_ok (by decide)).mono ?_; rw [ex_glenda]; rintro e w' ⟨rfl, hb⟩; replace HT := Lib.hid (HT.out.next hb); clear hb
       have c1 := Blk.cell HT.out.n0 1
       have c2 := Blk.cell HT.out.n0 2
       have c3 := Blk.cell HT.out.n0 3
       have c4 := Blk.cell HT.out.n0 4)
    | (refine wl_node HT.out.n2 rfl _ rfl rfl ?_)
    | (refine wl_node HT.out.n1 rfl _ rfl rfl ?_)
    | (refine wl_node HT.out.n0 rfl _ rfl rfl ?_)
    | (refine wl_store (NBlk.zero _) nA rfl _ _ rfl rfl rfl ?_; intro ws hs ho hz hbl; replace HT := Lib.hid (HT.out.add (hbl _ _ ((Below.refl _ _).alloc (Nat.le_refl _) _) (Nat.le_refl _)) hs); clear ho hz hs hbl)
    | (refine wl_store (NBlk.zero _) nB rfl _ _ rfl rfl rfl ?_; intro ws hs ho hz hbl; replace HT := Lib.hid (HT.out.add (hbl _ _ ((Below.refl _ _).alloc (Nat.le_refl _) _) (Nat.le_refl _)) hs); clear ho hz hs hbl)
    | (refine wl_store (NBlk.zero _) nC rfl _ _ rfl rfl rfl ?_; intro ws hs ho hz hbl; replace HT := Lib.hid (HT.out.add (hbl _ _ ((Below.refl _ _).alloc (Nat.le_refl _) _) (Nat.le_refl _)) hs); clear ho hz hs hbl))
  go_wp2_with (first
    | (go_at_call_of 36 (ByteArray.mk #[98, 111, 98]); refine (rights_calls _ peopleL bobB nA _ HT.out.tab nA_ok (by decide)).mono ?_; rw [ex_bob]; rintro e w' ⟨rfl, hb⟩; replace HT := Lib.hid (HT.out.next hb); clear hb
       obtain ⟨a0, a1, a2, a3, a4, a5, a6, a7, a8, a9, a10, a11, a12⟩ := HT.out.n2.c13)
    | (go_at_call_of 36 (ByteArray.mk #[103, 108, 101, 110, 100, 97]); refine (rights_calls _ peopleL glendaB nA _ HT.out.tab nA_ok (by decide)).mono ?_; rw [ex_glenda]; rintro e w' ⟨rfl, hb⟩; replace HT := Lib.hid (HT.out.next hb); clear hb a0 a1 a2 a3 a4 a5 a6 a7 a8 a9 a10 a11 a12
       have c1 := Blk.cell HT.out.n0 1
       have c2 := Blk.cell HT.out.n0 2
       have c3 := Blk.cell HT.out.n0 3
       have c4 := Blk.cell HT.out.n0 4
       simp [nC, bobB] at c1 c2 c3 c4)
    | (refine wl_node HT.out.n2 rfl _ rfl rfl ?_))
  go_ret
  exact ⟨rfl, HT.out.low⟩
end Go.Proofs.YtlenlldiimohjaaGreatDoor
