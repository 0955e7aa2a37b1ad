
/-
  vergerlaw09: RulesOpens. Condition: the tables of utf8 lie as laid.
-/
import Derived.Test.YtlenlldiimohjaaGreatDoorW1
import Derived.Deep.RegionHeld3
namespace Go.Proofs.YtlenlldiimohjaaGreatDoor
open Go.ChangeShapes Go.WideShapes Go.ChangeAt Go.RowKit

/-- Where a law with both tables stands. -/
def OS (w0 : World) (cs : Array Value) (g h : Nat) (L : List Acct) (w : World) : Prop := LAt w0 cs w ∧ PTab w g L ∧ RTab w h L
section
variable {w0 w w' : World} {cs : Array Value} {g h : Nat} {L : List Acct}
theorem OS.next (s : OS w0 cs g h L w) (hb : Below w.heap.size w w') : OS w0 cs g h L w' := ⟨s.1.next hb, s.2.1.below hb, s.2.2.below hb⟩
theorem OS.at_ (s : OS w0 cs g h L w) : LAt w0 cs w := s.1
theorem OS.pt (s : OS w0 cs g h L w) : PTab w g L := s.2.1
theorem OS.rt (s : OS w0 cs g h L w) : RTab w h L := s.2.2
variable {ops : Array Oper} {op : Oper} {a : Act} {text user name : ByteArray} {n p : Nd} {taken full : Bool} {perm mode : Int}
theorem wpAnyH_takeD {P : Program} {ops : Array Oper} {Q : Exit → Act → World → Prop} {md : Region.Mode} {S : World → Prop} {i : Nat} {oi : Oper} {v : Value} {fuel : Nat} {listed : Array Bool} {a : Act} {w : World} (d : Nat) (hi : ops[i]? = some oi) (hd : oi.dst = some d)
    (hs : Region.noSelect ops = true) (hf : Region.free md ops listed i = true) (hr : (Region.ready md ops listed).contains i = true)
    (hQ : ∀ c a w, Q (.panic c) (a.put (some d) v) w → Q (.panic c) a w) (hy : YieldsIf P ops S oi v a) (hS : S w)
    (h : wpAnyH P md ops Q S fuel (listed.setIfInBounds i true) (a.put (some d) v) w) : wpAnyH P md ops Q S (fuel + 1) listed a w :=
  wpAnyH_take hi hs hf hr (by rw [hd]; exact hQ) hy hS (by rw [hd]; exact h)
/-- The facts are taken out of the case, whatever the world that serves. -/
theorem yF (hw : Region.wanted op (yielded ops a.tmps) = true) (x : Operand) (ho : op.op = .load 27 x) (hx : a.eval x = .pointer (some ⟨w0.heap.size, 2, none⟩)) : YieldsIf Tryz.prog ops (OS w0 (caseL text user n p taken full name perm mode).toArray g h L) op (factsV n p taken full) a :=
  yieldsIf_load_mid hw _ x ho _ _ hx (factsL n p taken full) _ (fun _ hS => Blk.range hS.1.cb 2 _ rfl) Tryz.underlying27 rfl facts_size
theorem yN (hw : Region.wanted op (yielded ops a.tmps) = true) (x : Operand) (ho : op.op = .load 25 x) (hx : a.eval x = .pointer (some ⟨w0.heap.size, 2, none⟩)) : YieldsIf Tryz.prog ops (OS w0 (caseL text user n p taken full name perm mode).toArray g h L) op (nodeV n) a :=
  yieldsIf_load_mid hw _ x ho _ _ hx (nodeL n) _ (fun _ hS => Blk.range hS.1.cb 2 _ rfl) Tryz.underlying25 rfl node_size
end

end Go.Proofs.YtlenlldiimohjaaGreatDoor
