
/-
  The rows' common frame: what the laid tables and the world's shape give.
  The rows' common frame, with the reach.
  A case that came in, opened to its cells.
  vergerlaw09: much, table, classes; loads out of the midst of a block.
  Where a law stands; a store into the midst of a block; the step that all laws begin with.
-/
import Derived.Test.YtlenlldiimohjaaGreatDoorG2
import Derived.Test.YtlenlldiimohjaaGreatDoorTie
import Derived.ProofKit
import Derived.OpenShut
import Derived.LaidMore
import Derived.Lay
import Derived.SevenTiedAt
import Derived.Stop.Joined
import Derived.HandedShaped
import Derived.Lib.LaidU8
import Derived.Shelf.Vars
import Derived.Test.YtlenlldiimohjaaGreatDoorB0
import Derived.Test.YtlenlldiimohjaaGreatDoorV1
namespace Go.Proofs.YtlenlldiimohjaaGreatDoor
open Go.ChangeShapes Go.WideShapes Go.ChangeAt Go.RowKit
section
variable {H : Type} {enc : TypeId × Value → H}
/-- The plain wrap with a fact on the laid variables and the world's shape. -/
theorem inHanded_shaped {a : Assume} {C : Checked} {os : Os} {f : FuncId} {fn : Func} {s : ChangeSpec} {conds : List PathCond} {apart fresh handsOn again : Bool} {X : World → Array Value → Prop}
    (hX : ∀ (w w' : World) (args : Array Value), w.heap = w'.heap → X w args → X w' args)
    (own : ownKnob C.prog.godebug = none) (started : os.Started) (noInit : C.prog.inits.idxOf? f = none) (hfn : C.prog.funcs[f]? = some fn)
    (witness : ∃ (w : World) (tape : Tape) (i : Input), w.os = os ∧ (w.forCall tape i).Shaped C.prog ∧ i.vars = [] ∧ Input.okWide C.prog (w.forCall tape i) .any w.heap.size f i ∧
      ((s.pre enc C.prog fn conds apart (w.forCall tape i).memory i.args ∧ X (w.forCall tape i).memory i.args) ∧ sizedMet enc C.prog fn (OpenSpec.ofChange s) apart (w.forCall tape i).memory i.args) ∧ a.holds C.prog (lone (Frame.enter C.prog f i.args .normal) [] (w.forCall tape i)))
    (contract : ∀ (W : World) (base : Nat) (args : Array Value) (ds gs : List (DataW H)) (before : List MemPlace),
      (∀ (j : Nat) t v, fn.params[j]? = some t → args[j]? = some v → Value.okWide C.prog W .any base t v) →
      DataW.Whole enc C.prog fn.params.toList s.vars apart W args.toList ds gs before →
      X W args → W.ShapedOpen C.prog →
      Calls C.prog f args W fun e W' => ∃ v, e = .returned v ∧ s.post enc C.prog fn apart fresh handsOn again W args v W') :
    ReturnsInHanded a C os f .any (fun w args => (s.pre enc C.prog fn conds apart w args ∧ X w args) ∧ sizedMet enc C.prog fn (OpenSpec.ofChange s) apart w args) (s.post enc C.prog fn apart fresh handsOn again) := by
  refine returnsInHanded_of_calls own started noInit witness ?_
  intro w tape i _ hsh _ hok hpre hholds
  obtain ⟨_, _, _, fn', hfn', _, _, _, _, hval⟩ := hok
  have e : fn' = fn := Option.some.inj (hfn'.symm.trans hfn)
  subst e
  obtain ⟨⟨⟨ds, gs, before, hw, hc⟩, hx⟩, hz⟩ := hpre
  have hw' := DataW.Whole.of_heap (w' := w.forCall tape i) (by rfl) hw
  refine (contract (w.forCall tape i) w.heap.size i.args ds gs before hval hw' (hX _ _ _ (by rfl) hx) hsh).mono fun e W' ⟨v, he, hp⟩ => ?_
  subst he
  exact ChangeSpec.post_blind hp
end

abbrev laidL : List (String × DataW Unit) := [("unicode/utf8.acceptRanges", Rows.laid_unicode_utf8_acceptRanges), ("unicode/utf8.first", Rows.laid_unicode_utf8_first)]
theorem own_ : ownKnob Tryz.prog.godebug = none := by kernel_rfl
theorem laidOut_ : laidOutB Tryz.prog = true := by kernel_rfl
theorem first_eq : (Rows.laid_unicode_utf8_first : DataW Unit) = Lib.firstData := by kernel_rfl
theorem accept_eq : (Rows.laid_unicode_utf8_acceptRanges : DataW Unit) = Lib.acceptData := by kernel_rfl
theorem ready_of {W : World} (hL : laidMetH Tryz.prog laidL W) (hS : W.ShapedOpen Tryz.prog) : Ready W := by
  rw [MakeChecks.laidMetH_plain _ _ _ (by kernel_rfl)] at hL
  have h1 := Lib.laidMet.reads hL (.head _)
  have h2 := Lib.laidMet.reads hL (.tail _ (.head _))
  rw [accept_eq] at h1
  rw [first_eq] at h2
  exact ⟨utf8Tabs_of_reads Tryz.lays260 ⟨by kernel_rfl, by kernel_rfl, by kernel_rfl, by kernel_rfl, by kernel_rfl, by kernel_rfl, by kernel_rfl⟩ h2 h1,
    cell_of_shapedOpen_int (t := 3) (zero := #[.int .i64 0]) hS (of_decide_eq_true (by kernel_rfl)) (by kernel_rfl) rfl (by kernel_rfl) (by kernel_rfl) Tryz.underlying3⟩
end Go.Proofs.YtlenlldiimohjaaGreatDoor

namespace Go.Proofs.YtlenlldiimohjaaGreatDoor
open Go.ChangeShapes Go.WideShapes Go.ChangeAt Go.RowKit
section
variable {H : Type} {enc : TypeId × Value → H}
theorem inHanded_sized {a : Assume} {C : Checked} {os : Os} {f : FuncId} {fn : Func} {s : ChangeSpec} {conds : List PathCond} {apart fresh handsOn again : Bool} {X : World → Array Value → Prop}
    (hX : ∀ (w w' : World) (args : Array Value), w.heap = w'.heap → X w args → X w' args)
    (own : ownKnob C.prog.godebug = none) (started : os.Started) (noInit : C.prog.inits.idxOf? f = none) (hfn : C.prog.funcs[f]? = some fn)
    (witness : ∃ (w : World) (tape : Tape) (i : Input), w.os = os ∧ (w.forCall tape i).Shaped C.prog ∧ i.vars = [] ∧ Input.okWide C.prog (w.forCall tape i) .any w.heap.size f i ∧
      ((s.pre enc C.prog fn conds apart (w.forCall tape i).memory i.args ∧ X (w.forCall tape i).memory i.args) ∧ sizedMet enc C.prog fn (OpenSpec.ofChange s) apart (w.forCall tape i).memory i.args) ∧ a.holds C.prog (lone (Frame.enter C.prog f i.args .normal) [] (w.forCall tape i)))
    (contract : ∀ (W : World) (base : Nat) (args : Array Value) (ds gs : List (DataW H)) (before : List MemPlace),
      (∀ (j : Nat) t v, fn.params[j]? = some t → args[j]? = some v → Value.okWide C.prog W .any base t v) →
      DataW.Whole enc C.prog fn.params.toList s.vars apart W args.toList ds gs before →
      (DataW.weightsEach C.prog (fn.params.toList ++ s.plain.varTypes C.prog) (ds ++ gs)).all (· ≤ reachBytes) = true →
      X W args → W.ShapedOpen C.prog →
      Calls C.prog f args W fun e W' => ∃ v, e = .returned v ∧ s.post enc C.prog fn apart fresh handsOn again W args v W') :
    ReturnsInHanded a C os f .any (fun w args => (s.pre enc C.prog fn conds apart w args ∧ X w args) ∧ sizedMet enc C.prog fn (OpenSpec.ofChange s) apart w args) (s.post enc C.prog fn apart fresh handsOn again) := by
  refine returnsInHanded_of_calls own started noInit witness ?_
  intro w tape i _ hsh _ hok hpre hholds
  obtain ⟨_, _, _, fn', hfn', _, _, _, _, hval⟩ := hok
  have e : fn' = fn := Option.some.inj (hfn'.symm.trans hfn)
  subst e
  obtain ⟨⟨⟨ds, gs, before, hw, hc⟩, hx⟩, hz⟩ := hpre
  have hw' := DataW.Whole.of_heap (w' := w.forCall tape i) (by rfl) hw
  refine (contract (w.forCall tape i) w.heap.size i.args ds gs before hval hw' (hz.weights hw) (hX _ _ _ (by rfl) hx) hsh).mono fun e W' ⟨v, he, hp⟩ => ?_
  subst he
  exact ChangeSpec.post_blind hp
end
theorem u32_wf {n : Int} (h : (Lit.int .u32 n).wf = true) : 0 ≤ n ∧ n < 4294967296 := by
  simp [Lit.wf, IntKind.min, IntKind.max, IntKind.signed, IntKind.bits] at h
  omega
theorem u64_wf {n : Int} (h : (Lit.int .u64 n).wf = true) : 0 ≤ n ∧ n < 18446744073709551616 := by
  simp [Lit.wf, IntKind.min, IntKind.max, IntKind.signed, IntKind.bits] at h
  omega
end Go.Proofs.YtlenlldiimohjaaGreatDoor

namespace Go.Proofs.YtlenlldiimohjaaGreatDoor
open Go.ChangeShapes Go.WideShapes Go.ChangeAt Go.RowKit

theorem len_cons {α : Type} {l : List α} {n : Nat} (h : l.length = n + 1) : ∃ a t, l = a :: t ∧ t.length = n := by
  cases l with
  | nil => simp at h
  | cons a t => exact ⟨a, t, rfl, by simpa using h⟩
theorem len_nil {α : Type} {l : List α} (h : l.length = 0) : l = [] := List.length_eq_zero_iff.1 h
section
variable {P : Program} {w : World} {r : Reach} {b0 : Nat} {t : TypeId} {c : Value}
theorem cell_int {k : IntKind} (ht : P.underlying t = some (.int k)) (h : Cell.okWide P w r b0 t c) : ∃ n, c = .int k n ∧ k.has n := by
  cases c <;> simp [Cell.okWide, Cell.ok, ht] at h
  obtain ⟨rfl, h⟩ := h
  exact ⟨_, rfl, h⟩
theorem cell_str (ht : P.underlying t = some .string) (h : Cell.okWide P w r b0 t c) : ∃ s, c = .string s := by
  cases c <;> simp [Cell.okWide, Cell.ok, ht] at h
  exact ⟨_, rfl⟩
theorem cell_bool (ht : P.underlying t = some .bool) (h : Cell.okWide P w r b0 t c) : ∃ b, c = .bool b := by
  cases c <;> simp [Cell.okWide, Cell.ok, ht] at h
  exact ⟨_, rfl⟩
theorem row_cell {ts : List TypeId} {cs : Array Value} (hts : P.cellTypes P.depth t = some ts) (h : Row.okWide P w r b0 t cs) (i : Nat) {u : TypeId} (hu : ts[i]? = some u) {v : Value} (hv : cs[i]? = some v) : Cell.okWide P w r b0 u v := by
  obtain ⟨ts', h1, _, h2⟩ := h
  obtain rfl := Option.some.inj (hts.symm.trans h1)
  obtain ⟨u', h3, h4⟩ := h2 i v hv
  have hi : i < ts.length := (List.getElem?_eq_some_iff.1 hu).1
  rw [Nat.mod_eq_of_lt hi] at h3
  obtain rfl := Option.some.inj (hu.symm.trans h3)
  exact h4
end
section
variable {H : Type} {enc : TypeId × Value → H} {P : Program} {w : World} {base fuel : Nat} {spare : Nat → Bool} {held : Bool} {t : TypeId} {cs : List Value} {x : DataW H × List MemPlace}
theorem str_field {fs : Array Field} (ht : P.underlying t = some (.struct fs)) (h : DataW.trod enc P w base spare held fuel t cs = some x) {j : Nat} {f : Field} (hf : fs[j]? = some f) :
    ∃ n y, DataW.trod enc P w base spare held n f.type ((cs.drop f.offset).take (P.cellsOf f.type)) = some y ∧ ∀ k ∈ y.1.weights P f.type, k ∈ x.1.weights P t := by
  obtain ⟨xs, n, _, rfl, _, hl, hg⟩ := DataW.trod_struct ht h
  have hj : j < xs.length := by rw [hl]; exact (Array.getElem?_eq_some_iff.1 hf).1
  refine ⟨n, xs[j], (hg j f hf).trans (List.getElem?_eq_getElem hj), fun k hk => ?_⟩
  simp only [DataW.weights, ht]
  refine DataW.weights_mem_each (j := j) (t := f.type) (d := xs[j].1) ?_ ?_ k hk
  · rw [List.getElem?_map, Array.getElem?_toList, hf]; rfl
  · rw [List.getElem?_map, List.getElem?_eq_getElem hj]; rfl
theorem str_at {fs : Array Field} (ht : P.underlying t = some (.struct fs)) (h : DataW.trod enc P w base spare held fuel t cs = some x) (j : Nat) {f : Field} (hf : fs[j]? = some f) (u : TypeId) {n : Nat} (hu : f.type = u) (hn : P.cellsOf u = n) (cs' : List Value) (hcs : (cs.drop f.offset).take n = cs') :
    ∃ m y, DataW.trod enc P w base spare held m u cs' = some y ∧ ∀ k ∈ y.1.weights P u, k ∈ x.1.weights P t := by
  subst hu
  subst hn
  subst hcs
  exact str_field ht h hf
theorem str_leaf (ht : P.underlying t = some .string) {s : ByteArray} (h : DataW.trod enc P w base spare held fuel t [.string s] = some x) : s.size ∈ x.1.weights P t := by
  obtain ⟨s', h1, hx, _⟩ := DataW.trod_string ht h
  simp at h1
  subst h1
  subst hx
  simp [DataW.weights]
end

abbrev caseV (text user : ByteArray) (n p : Nd) (taken full : Bool) (name : ByteArray) (perm mode : Int) : Value := .agg #[.string text, .string user, .int .u64 n.path, .int .u64 n.parent, .string n.name, .int .u32 n.mode, .string n.uid, .string n.gid, .string n.muid, .int .u32 n.atime, .int .u32 n.mtime, .int .u32 n.vers, .int .u64 n.length, .int .i64 n.opens, .int .i64 n.kids, .int .u64 p.path, .int .u64 p.parent, .string p.name, .int .u32 p.mode, .string p.uid, .string p.gid, .string p.muid, .int .u32 p.atime, .int .u32 p.mtime, .int .u32 p.vers, .int .u64 p.length, .int .i64 p.opens, .int .i64 p.kids, .bool taken, .bool full, .string name, .int .u32 perm, .int .u8 mode]

/-- The numbers of a node fit; its texts are not beyond the reach. -/
def Nd.came (n : Nd) : Prop := 0 ≤ n.mode ∧ n.mode < 4294967296 ∧ n.name.size ≤ reachBytes ∧ n.uid.size ≤ reachBytes ∧ n.gid.size ≤ reachBytes ∧ n.muid.size ≤ reachBytes
theorem u32_has {n : Int} (h : IntKind.u32.has n) : 0 ≤ n ∧ n < 4294967296 := by
  simp [IntKind.has, IntKind.min, IntKind.max, IntKind.signed, IntKind.bits] at h
  omega
theorem u8_has {n : Int} (h : IntKind.u8.has n) : 0 ≤ n ∧ n < 256 := by
  simp [IntKind.has, IntKind.min, IntKind.max, IntKind.signed, IntKind.bits] at h
  omega

set_option maxRecDepth 100000 in
set_option maxHeartbeats 1600000 in
theorem case_open {H : Type} {enc : TypeId × Value → H} {w : World} {base b0 : Nat} {spare : Nat → Bool} {held : Bool} {v : Value} {d : DataW H} {ps : List MemPlace} (hv : Value.okWide Tryz.prog w .any b0 29 v) (h : DataW.Trod enc Tryz.prog w base spare held 29 v d ps) (hs : ∀ k ∈ d.weights Tryz.prog 29, k ≤ reachBytes) :
    ∃ (text user : ByteArray) (n p : Nd) (taken full : Bool) (name : ByteArray) (perm mode : Int), v = caseV text user n p taken full name perm mode ∧ text.size ≤ reachBytes ∧ user.size ≤ reachBytes ∧ n.came ∧ p.came ∧ name.size ≤ reachBytes ∧ (0 ≤ perm ∧ perm < 4294967296) ∧ (0 ≤ mode ∧ mode < 256) := by
  simp only [Value.okWide, Tryz.underlying29] at hv
  obtain ⟨cs, rfl, hsz, hrow⟩ := hv
  have hts : Tryz.prog.cellTypes Tryz.prog.depth 29 = some [9, 9, 22, 22, 9, 23, 9, 9, 9, 23, 23, 23, 22, 3, 3, 22, 22, 9, 23, 9, 9, 9, 23, 23, 23, 22, 3, 3, 4, 4, 9, 23, 5] := by kernel_rfl
  have hC : Tryz.prog.cellsOf 29 = 33 := by kernel_rfl
  rw [hC] at hsz
  have hc := fun i u (hu : _) v (hv : _) => row_cell hts hrow i (u := u) hu (v := v) hv
  clear hrow hts
  obtain ⟨l0⟩ := cs
  have e0 : l0.length = 33 := hsz
  clear hsz
  obtain ⟨c0, l1, rfl, e1⟩ := len_cons e0; clear e0
  obtain ⟨c1, l2, rfl, e2⟩ := len_cons e1; clear e1
  obtain ⟨c2, l3, rfl, e3⟩ := len_cons e2; clear e2
  obtain ⟨c3, l4, rfl, e4⟩ := len_cons e3; clear e3
  obtain ⟨c4, l5, rfl, e5⟩ := len_cons e4; clear e4
  obtain ⟨c5, l6, rfl, e6⟩ := len_cons e5; clear e5
  obtain ⟨c6, l7, rfl, e7⟩ := len_cons e6; clear e6
  obtain ⟨c7, l8, rfl, e8⟩ := len_cons e7; clear e7
  obtain ⟨c8, l9, rfl, e9⟩ := len_cons e8; clear e8
  obtain ⟨c9, l10, rfl, e10⟩ := len_cons e9; clear e9
  obtain ⟨c10, l11, rfl, e11⟩ := len_cons e10; clear e10
  obtain ⟨c11, l12, rfl, e12⟩ := len_cons e11; clear e11
  obtain ⟨c12, l13, rfl, e13⟩ := len_cons e12; clear e12
  obtain ⟨c13, l14, rfl, e14⟩ := len_cons e13; clear e13
  obtain ⟨c14, l15, rfl, e15⟩ := len_cons e14; clear e14
  obtain ⟨c15, l16, rfl, e16⟩ := len_cons e15; clear e15
  obtain ⟨c16, l17, rfl, e17⟩ := len_cons e16; clear e16
  obtain ⟨c17, l18, rfl, e18⟩ := len_cons e17; clear e17
  obtain ⟨c18, l19, rfl, e19⟩ := len_cons e18; clear e18
  obtain ⟨c19, l20, rfl, e20⟩ := len_cons e19; clear e19
  obtain ⟨c20, l21, rfl, e21⟩ := len_cons e20; clear e20
  obtain ⟨c21, l22, rfl, e22⟩ := len_cons e21; clear e21
  obtain ⟨c22, l23, rfl, e23⟩ := len_cons e22; clear e22
  obtain ⟨c23, l24, rfl, e24⟩ := len_cons e23; clear e23
  obtain ⟨c24, l25, rfl, e25⟩ := len_cons e24; clear e24
  obtain ⟨c25, l26, rfl, e26⟩ := len_cons e25; clear e25
  obtain ⟨c26, l27, rfl, e27⟩ := len_cons e26; clear e26
  obtain ⟨c27, l28, rfl, e28⟩ := len_cons e27; clear e27
  obtain ⟨c28, l29, rfl, e29⟩ := len_cons e28; clear e28
  obtain ⟨c29, l30, rfl, e30⟩ := len_cons e29; clear e29
  obtain ⟨c30, l31, rfl, e31⟩ := len_cons e30; clear e30
  obtain ⟨c31, l32, rfl, e32⟩ := len_cons e31; clear e31
  obtain ⟨c32, l33, rfl, e33⟩ := len_cons e32; clear e32
  obtain rfl := len_nil e33
  obtain ⟨x0, rfl⟩ := cell_str Tryz.underlying9 (hc 0 _ rfl _ rfl)
  obtain ⟨x1, rfl⟩ := cell_str Tryz.underlying9 (hc 1 _ rfl _ rfl)
  obtain ⟨x2, rfl, h2⟩ := cell_int Tryz.underlying22 (hc 2 _ rfl _ rfl)
  obtain ⟨x3, rfl, h3⟩ := cell_int Tryz.underlying22 (hc 3 _ rfl _ rfl)
  obtain ⟨x4, rfl⟩ := cell_str Tryz.underlying9 (hc 4 _ rfl _ rfl)
  obtain ⟨x5, rfl, h5⟩ := cell_int Tryz.underlying23 (hc 5 _ rfl _ rfl)
  obtain ⟨x6, rfl⟩ := cell_str Tryz.underlying9 (hc 6 _ rfl _ rfl)
  obtain ⟨x7, rfl⟩ := cell_str Tryz.underlying9 (hc 7 _ rfl _ rfl)
  obtain ⟨x8, rfl⟩ := cell_str Tryz.underlying9 (hc 8 _ rfl _ rfl)
  obtain ⟨x9, rfl, h9⟩ := cell_int Tryz.underlying23 (hc 9 _ rfl _ rfl)
  obtain ⟨x10, rfl, h10⟩ := cell_int Tryz.underlying23 (hc 10 _ rfl _ rfl)
  obtain ⟨x11, rfl, h11⟩ := cell_int Tryz.underlying23 (hc 11 _ rfl _ rfl)
  obtain ⟨x12, rfl, h12⟩ := cell_int Tryz.underlying22 (hc 12 _ rfl _ rfl)
  obtain ⟨x13, rfl, h13⟩ := cell_int Tryz.underlying3 (hc 13 _ rfl _ rfl)
  obtain ⟨x14, rfl, h14⟩ := cell_int Tryz.underlying3 (hc 14 _ rfl _ rfl)
  obtain ⟨x15, rfl, h15⟩ := cell_int Tryz.underlying22 (hc 15 _ rfl _ rfl)
  obtain ⟨x16, rfl, h16⟩ := cell_int Tryz.underlying22 (hc 16 _ rfl _ rfl)
  obtain ⟨x17, rfl⟩ := cell_str Tryz.underlying9 (hc 17 _ rfl _ rfl)
  obtain ⟨x18, rfl, h18⟩ := cell_int Tryz.underlying23 (hc 18 _ rfl _ rfl)
  obtain ⟨x19, rfl⟩ := cell_str Tryz.underlying9 (hc 19 _ rfl _ rfl)
  obtain ⟨x20, rfl⟩ := cell_str Tryz.underlying9 (hc 20 _ rfl _ rfl)
  obtain ⟨x21, rfl⟩ := cell_str Tryz.underlying9 (hc 21 _ rfl _ rfl)
  obtain ⟨x22, rfl, h22⟩ := cell_int Tryz.underlying23 (hc 22 _ rfl _ rfl)
  obtain ⟨x23, rfl, h23⟩ := cell_int Tryz.underlying23 (hc 23 _ rfl _ rfl)
  obtain ⟨x24, rfl, h24⟩ := cell_int Tryz.underlying23 (hc 24 _ rfl _ rfl)
  obtain ⟨x25, rfl, h25⟩ := cell_int Tryz.underlying22 (hc 25 _ rfl _ rfl)
  obtain ⟨x26, rfl, h26⟩ := cell_int Tryz.underlying3 (hc 26 _ rfl _ rfl)
  obtain ⟨x27, rfl, h27⟩ := cell_int Tryz.underlying3 (hc 27 _ rfl _ rfl)
  obtain ⟨x28, rfl⟩ := cell_bool Tryz.underlying4 (hc 28 _ rfl _ rfl)
  obtain ⟨x29, rfl⟩ := cell_bool Tryz.underlying4 (hc 29 _ rfl _ rfl)
  obtain ⟨x30, rfl⟩ := cell_str Tryz.underlying9 (hc 30 _ rfl _ rfl)
  obtain ⟨x31, rfl, h31⟩ := cell_int Tryz.underlying23 (hc 31 _ rfl _ rfl)
  obtain ⟨x32, rfl, h32⟩ := cell_int Tryz.underlying5 (hc 32 _ rfl _ rfl)
  clear hc e33
  obtain ⟨fuel, hf⟩ := h
  have cN : Tryz.prog.cellsOf 25 = 13 := by kernel_rfl
  have cF : Tryz.prog.cellsOf 27 = 28 := by kernel_rfl
  have cS : Tryz.prog.cellsOf 9 = 1 := by kernel_rfl

  obtain ⟨nF, yF, tF, wF⟩ := str_at Tryz.underlying29 hf 2 rfl 27 rfl cF [.int .u64 x2, .int .u64 x3, .string x4, .int .u32 x5, .string x6, .string x7, .string x8, .int .u32 x9, .int .u32 x10, .int .u32 x11, .int .u64 x12, .int .i64 x13, .int .i64 x14, .int .u64 x15, .int .u64 x16, .string x17, .int .u32 x18, .string x19, .string x20, .string x21, .int .u32 x22, .int .u32 x23, .int .u32 x24, .int .u64 x25, .int .i64 x26, .int .i64 x27, .bool x28, .bool x29] rfl
  obtain ⟨nN, yN, tN, wN⟩ := str_at Tryz.underlying27 tF 0 rfl 25 rfl cN [.int .u64 x2, .int .u64 x3, .string x4, .int .u32 x5, .string x6, .string x7, .string x8, .int .u32 x9, .int .u32 x10, .int .u32 x11, .int .u64 x12, .int .i64 x13, .int .i64 x14] rfl
  obtain ⟨nP, yP, tP, wP⟩ := str_at Tryz.underlying27 tF 1 rfl 25 rfl cN [.int .u64 x15, .int .u64 x16, .string x17, .int .u32 x18, .string x19, .string x20, .string x21, .int .u32 x22, .int .u32 x23, .int .u32 x24, .int .u64 x25, .int .i64 x26, .int .i64 x27] rfl
  have s0 : x0.size ≤ reachBytes := by
    obtain ⟨m, y, ty, wy⟩ := str_at Tryz.underlying29 hf 0 rfl 9 rfl cS [.string x0] rfl
    exact hs _ (wy _ (str_leaf Tryz.underlying9 ty))
  have s1 : x1.size ≤ reachBytes := by
    obtain ⟨m, y, ty, wy⟩ := str_at Tryz.underlying29 hf 1 rfl 9 rfl cS [.string x1] rfl
    exact hs _ (wy _ (str_leaf Tryz.underlying9 ty))
  have s30 : x30.size ≤ reachBytes := by
    obtain ⟨m, y, ty, wy⟩ := str_at Tryz.underlying29 hf 3 rfl 9 rfl cS [.string x30] rfl
    exact hs _ (wy _ (str_leaf Tryz.underlying9 ty))
  have s4 : x4.size ≤ reachBytes := by
    obtain ⟨m, y, ty, wy⟩ := str_at Tryz.underlying25 tN 2 rfl 9 rfl cS [.string x4] rfl
    exact hs _ (wF _ (wN _ (wy _ (str_leaf Tryz.underlying9 ty))))
  have s6 : x6.size ≤ reachBytes := by
    obtain ⟨m, y, ty, wy⟩ := str_at Tryz.underlying25 tN 4 rfl 9 rfl cS [.string x6] rfl
    exact hs _ (wF _ (wN _ (wy _ (str_leaf Tryz.underlying9 ty))))
  have s7 : x7.size ≤ reachBytes := by
    obtain ⟨m, y, ty, wy⟩ := str_at Tryz.underlying25 tN 5 rfl 9 rfl cS [.string x7] rfl
    exact hs _ (wF _ (wN _ (wy _ (str_leaf Tryz.underlying9 ty))))
  have s8 : x8.size ≤ reachBytes := by
    obtain ⟨m, y, ty, wy⟩ := str_at Tryz.underlying25 tN 6 rfl 9 rfl cS [.string x8] rfl
    exact hs _ (wF _ (wN _ (wy _ (str_leaf Tryz.underlying9 ty))))
  have s17 : x17.size ≤ reachBytes := by
    obtain ⟨m, y, ty, wy⟩ := str_at Tryz.underlying25 tP 2 rfl 9 rfl cS [.string x17] rfl
    exact hs _ (wF _ (wP _ (wy _ (str_leaf Tryz.underlying9 ty))))
  have s19 : x19.size ≤ reachBytes := by
    obtain ⟨m, y, ty, wy⟩ := str_at Tryz.underlying25 tP 4 rfl 9 rfl cS [.string x19] rfl
    exact hs _ (wF _ (wP _ (wy _ (str_leaf Tryz.underlying9 ty))))
  have s20 : x20.size ≤ reachBytes := by
    obtain ⟨m, y, ty, wy⟩ := str_at Tryz.underlying25 tP 5 rfl 9 rfl cS [.string x20] rfl
    exact hs _ (wF _ (wP _ (wy _ (str_leaf Tryz.underlying9 ty))))
  have s21 : x21.size ≤ reachBytes := by
    obtain ⟨m, y, ty, wy⟩ := str_at Tryz.underlying25 tP 6 rfl 9 rfl cS [.string x21] rfl
    exact hs _ (wF _ (wP _ (wy _ (str_leaf Tryz.underlying9 ty))))
  exact ⟨x0, x1, ⟨x2, x3, x4, x5, x6, x7, x8, x9, x10, x11, x12, x13, x14⟩, ⟨x15, x16, x17, x18, x19, x20, x21, x22, x23, x24, x25, x26, x27⟩, x28, x29, x30, x31, x32, rfl, s0, s1, ⟨(u32_has h5).1, (u32_has h5).2, s4, s6, s7, s8⟩, ⟨(u32_has h18).1, (u32_has h18).2, s17, s19, s20, s21⟩, s30, u32_has h31, u8_has h32⟩
end Go.Proofs.YtlenlldiimohjaaGreatDoor

namespace Go.Proofs.YtlenlldiimohjaaGreatDoor
open Go.ChangeShapes Go.WideShapes Go.ChangeAt Go.RowKit

abbrev caseL (text user : ByteArray) (n p : Nd) (taken full : Bool) (name : ByteArray) (perm mode : Int) : List Value := [.string text, .string user, .int .u64 n.path, .int .u64 n.parent, .string n.name, .int .u32 n.mode, .string n.uid, .string n.gid, .string n.muid, .int .u32 n.atime, .int .u32 n.mtime, .int .u32 n.vers, .int .u64 n.length, .int .i64 n.opens, .int .i64 n.kids, .int .u64 p.path, .int .u64 p.parent, .string p.name, .int .u32 p.mode, .string p.uid, .string p.gid, .string p.muid, .int .u32 p.atime, .int .u32 p.mtime, .int .u32 p.vers, .int .u64 p.length, .int .i64 p.opens, .int .i64 p.kids, .bool taken, .bool full, .string name, .int .u32 perm, .int .u8 mode]
/-- A case lies in block q. -/
def CBlk (w : World) (q : Nat) (text user : ByteArray) (n p : Nd) (taken full : Bool) (name : ByteArray) (perm mode : Int) : Prop := Blk w q 29 (caseL text user n p taken full name perm mode).toArray
theorem case_size : (Tryz.prog.info? 29).map (·.size) = some 33 := by kernel_rfl
theorem Blk.range {w : World} {q : Nat} {t : TypeId} {cs : Array Value} (h : Blk w q t cs) (o : Nat) (l : List Value) (hl : (cs.toList.drop o).take l.length = l) : w.rangeAt q o l := fun j v hv => by
  refine (Blk.cell h (o + j)).trans ?_
  rw [← hl] at hv
  rw [List.getElem?_take] at hv
  split at hv
  · rw [List.getElem?_drop] at hv
    rw [← Array.getElem?_toList]
    exact hv
  · cases hv
section
variable {w w' : World} {q : Nat} {t : TypeId} {cs : Array Value} {ops : Array Oper} {rest : List Oper} {op : Oper} {a : Act} {Q : Exit → Act → World → Prop}
theorem wlw (hk : Blk w q t cs) (o : Nat) (l : List Value) (hl : (cs.toList.drop o).take l.length = l) (hgd : Region.wanted op (yielded ops a.tmps) = true) (ty : TypeId) (x : Operand) (ho : op.op = .load ty x) (hx : a.eval x = .pointer (some ⟨q, o, none⟩)) (d : TypeDesc)
    (hu : Tryz.prog.underlying ty = some d) (hd : d.isRow = true) (hi : (Tryz.prog.info? ty).map (·.size) = some l.length)
    (h : wpList Tryz.prog ops Q rest (a.put op.dst (.agg l.toArray)) w) : wpList Tryz.prog ops Q (op :: rest) a w :=
  wpList_step fun K hK => by
    rw [if_pos hgd]
    exact wp_load_mid ty x ho q o hx l d (hk.range o l hl) hu hd hi (hK _ _ h)
theorem wn (hk : Blk w q t cs) (o : Nat) (n : Nd) (hl : (cs.toList.drop o).take 13 = nodeL n) (hgd : Region.wanted op (yielded ops a.tmps) = true) (x : Operand) (ho : op.op = .load 25 x) (hx : a.eval x = .pointer (some ⟨q, o, none⟩))
    (h : wpList Tryz.prog ops Q rest (a.put op.dst (nodeV n)) w) : wpList Tryz.prog ops Q (op :: rest) a w :=
  wlw hk o (nodeL n) hl hgd _ x ho hx _ Tryz.underlying25 rfl node_size h
theorem wf (hk : Blk w q t cs) (o : Nat) (n p : Nd) (taken full : Bool) (hl : (cs.toList.drop o).take 28 = factsL n p taken full) (hgd : Region.wanted op (yielded ops a.tmps) = true) (x : Operand) (ho : op.op = .load 27 x) (hx : a.eval x = .pointer (some ⟨q, o, none⟩))
    (h : wpList Tryz.prog ops Q rest (a.put op.dst (factsV n p taken full)) w) : wpList Tryz.prog ops Q (op :: rest) a w :=
  wlw hk o (factsL n p taken full) hl hgd _ x ho hx _ Tryz.underlying27 rfl facts_size h
theorem wc {text user name : ByteArray} {n p : Nd} {taken full : Bool} {perm mode : Int} (hk : CBlk w q text user n p taken full name perm mode) (hgd : Region.wanted op (yielded ops a.tmps) = true) (x : Operand) (ho : op.op = .load 29 x) (hx : a.eval x = .pointer (some ⟨q, 0, none⟩))
    (h : wpList Tryz.prog ops Q rest (a.put op.dst (caseV text user n p taken full name perm mode)) w) : wpList Tryz.prog ops Q (op :: rest) a w :=
  wlw hk 0 (caseL text user n p taken full name perm mode) rfl hgd _ x ho hx _ Tryz.underlying29 rfl case_size h
end

/-- How many bytes a case has. -/
def muchN (text user : ByteArray) (n p : Nd) (name : ByteArray) : Nat :=
  text.size + user.size + name.size + n.name.size + n.uid.size + n.gid.size + n.muid.size + p.name.size + p.uid.size + p.gid.size + p.muid.size

set_option maxRecDepth 100000 in
theorem much_calls (text user : ByteArray) (n p : Nd) (taken full : Bool) (name : ByteArray) (perm mode : Int) (w : World) (h1 : text.size ≤ reachBytes) (h2 : user.size ≤ reachBytes) (h3 : n.came) (h4 : p.came) (h5 : name.size ≤ reachBytes) :
    Calls Tryz.prog 8 #[caseV text user n p taken full name perm mode] w fun e w' => e = .returned (.int .i64 (muchN text user n p name)) ∧ Below w.heap.size w w' := by
  obtain ⟨_, _, g1, g2, g3, g4⟩ := h3
  obtain ⟨_, _, k1, k2, k3, k4⟩ := h4
  unfold reachBytes at *
  go_enter Tryz.func8, Tryz.ntmps8
  go_wp2_with fail
  go_ret
  exact ⟨ret_int (by simp [muchN]), (Below.refl _ _).alloc (Nat.le_refl _) _⟩

/-- The table of a text; of the document's examples, if it is none. -/
def tableL (text : ByteArray) : List Acct := match parse text with | .ok L => L | .error _ => peopleL
theorem tableL_ok {text : ByteArray} {L : List Acct} (h : parse text = .ok L) : tableL text = L := by unfold tableL; rw [h]
theorem tableL_er {text : ByteArray} {e : Int × Nat} (h : parse text = .error e) : tableL text = peopleL := by unfold tableL; rw [h]

end Go.Proofs.YtlenlldiimohjaaGreatDoor

namespace Go.Proofs.YtlenlldiimohjaaGreatDoor
open Go.ChangeShapes Go.WideShapes Go.ChangeAt Go.RowKit

/-- Cells written over, from o on. -/
def over (cs : Array Value) (o : Nat) : List Value → Array Value
  | [] => cs
  | v :: r => over (cs.setIfInBounds o v) (o + 1) r
theorem Blk.setCells_ {q : Nat} {t : TypeId} : ∀ (l : List Value) (o : Nat) {w : World} {cs : Array Value}, Blk w q t cs → Blk (w.setCells q o l) q t (over cs o l)
  | [], _, _, _, h => h
  | v :: r, o, _, _, h => Blk.setCells_ r (o + 1) (h.set_ o v)
section
variable {ops : Array Oper} {rest : List Oper} {op : Oper} {a : Act} {w : World} {Q : Exit → Act → World → Prop} {q : Nat} {t : TypeId} {cs : Array Value}
theorem wst (hk : Blk w q t cs) (o : Nat) (l : List Value) (cs' : Array Value) (hcs : over cs o l = cs') (hb : o + l.length ≤ cs.size) (h1 : l.toArray.all (·.oneCell') = true) (hgd : op.guard = none) (ty : TypeId) (x y : Operand) (ho : op.op = .store ty x y) (hx : a.eval x = .pointer (some ⟨q, o, none⟩)) (hy : a.eval y = .agg l.toArray)
    (hi : (Tryz.prog.info? ty).map (·.size) = some l.length)
    (h : ∀ w' : World, Blk w' q t cs' → (∀ B (v : World), Below B v w → B ≤ q → Below B v w') → wpList Tryz.prog ops Q rest (a.put op.dst undef) w') : wpList Tryz.prog ops Q (op :: rest) a w :=
  wpList_store_mid hgd ty x y ho q o l.toArray hx hy (fun j hj => by
    have hj' : j < l.length := by simpa using hj
    refine ⟨?_, Blk.frozen hk _⟩
    rw [Blk.cell hk, Array.getElem?_eq_getElem (by omega)]
    rfl) (by simpa using hi) h1 (h _ (by rw [← hcs]; exact Blk.setCells_ _ _ hk) (fun B v hb hq => below_setCells hb hq _ o))
end
theorem factsL_cells (n p : Nd) (taken full : Bool) : (factsL n p taken full).toArray.all (·.oneCell') = true := by simp [factsL, Value.oneCell']

theorem came_ok {n : Nd} (h : n.came) (h1 : n.name.size ≤ 16777216) (h2 : n.uid.size ≤ 16777216) (h3 : n.gid.size ≤ 16777216) (h4 : n.muid.size ≤ 16777216) : n.ok := ⟨h.1, h.2.1, h1, h2, h3, h4⟩

/-- Where a law stands: its case's block is the first of its own. -/
def LAt (w0 : World) (cs : Array Value) (w : World) : Prop := Ready w ∧ Below w0.heap.size w0 w ∧ Blk w w0.heap.size 29 cs
section
variable {w0 w w' : World} {cs : Array Value}
theorem LAt.next (h : LAt w0 cs w) (hb : Below w.heap.size w w') : LAt w0 cs w' := ⟨h.1.below hb (Nat.le_refl _), h.2.1.trans (hb.mono h.2.1.size), h.2.2.below hb h.2.2.lt⟩
theorem LAt.ready (h : LAt w0 cs w) : Ready w := h.1
theorem LAt.low (h : LAt w0 cs w) : Below w0.heap.size w0 w := h.2.1
theorem LAt.cb (h : LAt w0 cs w) : Blk w w0.heap.size 29 cs := h.2.2
theorem LAt.start (hr : Ready w0) (cs : Array Value) : LAt w0 cs (w0.alloc (Obj.cells cs 29)) := ⟨hr.alloc _, (Below.refl _ _).alloc (Nat.le_refl _) _, Blk.new _ _ _⟩
variable {text user name : ByteArray} {n p : Nd} {taken full : Bool} {perm mode : Int}
theorem LAt.c0 (h : LAt w0 (caseL text user n p taken full name perm mode).toArray w) : w.cell? ⟨w0.heap.size, 0, none⟩ = some (.string text) := Blk.cell h.cb 0
theorem LAt.c1 (h : LAt w0 (caseL text user n p taken full name perm mode).toArray w) : w.cell? ⟨w0.heap.size, 1, none⟩ = some (.string user) := Blk.cell h.cb 1
theorem LAt.c5 (h : LAt w0 (caseL text user n p taken full name perm mode).toArray w) : w.cell? ⟨w0.heap.size, 5, none⟩ = some (.int .u32 n.mode) := Blk.cell h.cb 5
theorem LAt.c18 (h : LAt w0 (caseL text user n p taken full name perm mode).toArray w) : w.cell? ⟨w0.heap.size, 18, none⟩ = some (.int .u32 p.mode) := Blk.cell h.cb 18
theorem LAt.c28 (h : LAt w0 (caseL text user n p taken full name perm mode).toArray w) : w.cell? ⟨w0.heap.size, 28, none⟩ = some (.bool taken) := Blk.cell h.cb 28
theorem LAt.c29 (h : LAt w0 (caseL text user n p taken full name perm mode).toArray w) : w.cell? ⟨w0.heap.size, 29, none⟩ = some (.bool full) := Blk.cell h.cb 29
theorem LAt.c30 (h : LAt w0 (caseL text user n p taken full name perm mode).toArray w) : w.cell? ⟨w0.heap.size, 30, none⟩ = some (.string name) := Blk.cell h.cb 30
theorem LAt.c31 (h : LAt w0 (caseL text user n p taken full name perm mode).toArray w) : w.cell? ⟨w0.heap.size, 31, none⟩ = some (.int .u32 perm) := Blk.cell h.cb 31
theorem LAt.c32 (h : LAt w0 (caseL text user n p taken full name perm mode).toArray w) : w.cell? ⟨w0.heap.size, 32, none⟩ = some (.int .u8 mode) := Blk.cell h.cb 32
theorem LAt.f (h : LAt w0 cs w) (i : Nat) : w.frozen? ⟨w0.heap.size, i, none⟩ = false := Blk.frozen h.cb i
end
theorem FBlk.zero (w : World) : Blk (w.alloc (Obj.cells #[.int .u64 0, .int .u64 0, .string ⟨#[]⟩, .int .u32 0, .string ⟨#[]⟩, .string ⟨#[]⟩, .string ⟨#[]⟩, .int .u32 0, .int .u32 0, .int .u32 0, .int .u64 0, .int .i64 0, .int .i64 0, .int .u64 0, .int .u64 0, .string ⟨#[]⟩, .int .u32 0, .string ⟨#[]⟩, .string ⟨#[]⟩, .string ⟨#[]⟩, .int .u32 0, .int .u32 0, .int .u32 0, .int .u64 0, .int .i64 0, .int .i64 0, .bool false, .bool false] 27)) w.heap.size 27 (factsL Nd.none Nd.none false false).toArray := Blk.new _ _ _
theorem over_facts (n p : Nd) (taken full : Bool) : over (factsL Nd.none Nd.none false false).toArray 0 (factsL n p taken full) = (factsL n p taken full).toArray := by kernel_rfl
theorem over_case (text user name : ByteArray) (n p d : Nd) (taken full : Bool) (perm mode : Int) : over (caseL text user n p taken full name perm mode).toArray 2 (nodeL d) = (caseL text user d p taken full name perm mode).toArray := by kernel_rfl
section
variable {ops : Array Oper} {rest : List Oper} {op : Oper} {a : Act} {w : World} {Q : Exit → Act → World → Prop} {q : Nat}
theorem wst_facts (hk : Blk w q 27 (factsL Nd.none Nd.none false false).toArray) (n p : Nd) (taken full : Bool) (hgd : op.guard = none) (x y : Operand) (ho : op.op = .store 27 x y) (hx : a.eval x = .pointer (some ⟨q, 0, none⟩)) (hy : a.eval y = factsV n p taken full)
    (h : ∀ w' : World, FBlk w' q n p taken full → (∀ B (v : World), Below B v w → B ≤ q → Below B v w') → wpList Tryz.prog ops Q rest (a.put op.dst undef) w') : wpList Tryz.prog ops Q (op :: rest) a w :=
  wst hk 0 (factsL n p taken full) _ (over_facts n p taken full) (Nat.le_refl 28) (factsL_cells _ _ _ _) hgd _ x y ho hx hy facts_size h
theorem wst_case {text user name : ByteArray} {n p : Nd} {taken full : Bool} {perm mode : Int} (hk : CBlk w q text user n p taken full name perm mode) (d : Nd) (hgd : op.guard = none) (x y : Operand) (ho : op.op = .store 25 x y) (hx : a.eval x = .pointer (some ⟨q, 2, none⟩)) (hy : a.eval y = nodeV d)
    (h : ∀ w' : World, CBlk w' q text user d p taken full name perm mode → (∀ B (v : World), Below B v w → B ≤ q → Below B v w') → wpList Tryz.prog ops Q rest (a.put op.dst undef) w') : wpList Tryz.prog ops Q (op :: rest) a w :=
  wst hk 2 (nodeL d) _ (over_case text user name n p d taken full perm mode) (by show 2 + 13 ≤ 33; omega) (nodeV_cells d) hgd _ x y ho hx hy node_size h
variable {text user name : ByteArray} {n p : Nd} {taken full : Bool} {perm mode : Int}
theorem wfC (hk : Blk w q 29 (caseL text user n p taken full name perm mode).toArray) (hgd : Region.wanted op (yielded ops a.tmps) = true) (x : Operand) (ho : op.op = .load 27 x) (hx : a.eval x = .pointer (some ⟨q, 2, none⟩))
    (h : wpList Tryz.prog ops Q rest (a.put op.dst (factsV n p taken full)) w) : wpList Tryz.prog ops Q (op :: rest) a w := wf hk 2 n p taken full rfl hgd x ho hx h
theorem wnC (hk : Blk w q 29 (caseL text user n p taken full name perm mode).toArray) (hgd : Region.wanted op (yielded ops a.tmps) = true) (x : Operand) (ho : op.op = .load 25 x) (hx : a.eval x = .pointer (some ⟨q, 2, none⟩))
    (h : wpList Tryz.prog ops Q rest (a.put op.dst (nodeV n)) w) : wpList Tryz.prog ops Q (op :: rest) a w := wn hk 2 n rfl hgd x ho hx h
theorem wpC (hk : Blk w q 29 (caseL text user n p taken full name perm mode).toArray) (hgd : Region.wanted op (yielded ops a.tmps) = true) (x : Operand) (ho : op.op = .load 25 x) (hx : a.eval x = .pointer (some ⟨q, 15, none⟩))
    (h : wpList Tryz.prog ops Q rest (a.put op.dst (nodeV p)) w) : wpList Tryz.prog ops Q (op :: rest) a w := wn hk 15 p rfl hgd x ho hx h
theorem wfF (hk : FBlk w q n p taken full) (hgd : Region.wanted op (yielded ops a.tmps) = true) (x : Operand) (ho : op.op = .load 27 x) (hx : a.eval x = .pointer (some ⟨q, 0, none⟩))
    (h : wpList Tryz.prog ops Q rest (a.put op.dst (factsV n p taken full)) w) : wpList Tryz.prog ops Q (op :: rest) a w := wf hk 0 n p taken full rfl hgd x ho hx h
theorem wnF (hk : FBlk w q n p taken full) (hgd : Region.wanted op (yielded ops a.tmps) = true) (x : Operand) (ho : op.op = .load 25 x) (hx : a.eval x = .pointer (some ⟨q, 0, none⟩))
    (h : wpList Tryz.prog ops Q rest (a.put op.dst (nodeV n)) w) : wpList Tryz.prog ops Q (op :: rest) a w := wn hk 0 n rfl hgd x ho hx h
theorem wnN (hk : NBlk w q n) (hgd : Region.wanted op (yielded ops a.tmps) = true) (x : Operand) (ho : op.op = .load 25 x) (hx : a.eval x = .pointer (some ⟨q, 0, none⟩))
    (h : wpList Tryz.prog ops Q rest (a.put op.dst (nodeV n)) w) : wpList Tryz.prog ops Q (op :: rest) a w := wn hk 0 n rfl hgd x ho hx h
end
end Go.Proofs.YtlenlldiimohjaaGreatDoor
