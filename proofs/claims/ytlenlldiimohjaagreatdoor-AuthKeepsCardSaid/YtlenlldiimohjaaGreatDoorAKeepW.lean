
/-
  Where AuthKeeps stands: its Talk, what has been heard; an act in a block of its own. No function of the program is walked here.
-/
import Derived.Test.YtlenlldiimohjaaGreatDoorAActs2
import Derived.Test.YtlenlldiimohjaaGreatDoorAKeepN
namespace Go.Proofs.YtlenlldiimohjaaGreatDoor
open Go.RowKit Go.ChangeShapes SumLaw

theorem Bys.grown {w w' : World} {hv : Value} {l : List UInt8} {row : Option Nat} (h : Bys w w.heap.size hv l) (hg : w.grownBy w' row) (hne : l ≠ [] → ∀ j, hv.ownBlock = some j → row ≠ some j) : Bys w' w'.heap.size hv l := by
  by_cases hl : l = []
  · subst hl
    exact h.empty_
  · obtain ⟨A, cap, e, h1, h2, h3⟩ := h
    refine ⟨A, cap, e, h1, h2, h3.1, fun hn => ?_⟩
    obtain ⟨ad, rfl, hb, hc⟩ := h3.2 hn
    have hrow := hne hl ad.block (by rw [e]; rfl)
    refine ⟨ad, rfl, Nat.lt_of_lt_of_le hb hg.size, fun j u hu => ?_⟩
    rw [← hc j u hu]
    exact World.cell?_of_block (by rw [block_of_add]; exact hg.block _ hb (fun hh => hrow hh.symm))
/-- Where AuthKeeps stands: its Talk at q holds the bytes l; hd is all that has been told, in a row of the law's own; w1 is the world behind the table. -/
def KL (w1 : World) (q : Nat) (t : Tk) (ht : Value) (l hd : List UInt8) (hv : Value) (w : World) : Prop :=
  Below w1.heap.size w1 w ∧ w1.heap.size ≤ q ∧ TBlk w q t ht ∧ Bys w w.heap.size ht l ∧ (l ≠ [] → ht.ownBlock ≠ some q ∧ ∀ j, ht.ownBlock = some j → hv.ownBlock ≠ some j) ∧ w.ownsRow w1.heap.size 5 1 hv hd.length (byteL hd)
section
variable {w1 w w' : World} {q g : Nat} {t u : Tk} {ht hu hv : Value} {l l' hd : List UInt8} {L : List Acct}
theorem KL.low (h : KL w1 q t ht l hd hv w) : Below w1.heap.size w1 w := h.1
theorem KL.tab (h : KL w1 q t ht l hd hv w) (hp : PTab w1 g L) : PTab w g L := hp.below h.1
theorem KL.tz (h : KL w1 q t ht l hd hv w) (hp : TZ w1) : TZ w := hp.below h.1 (Nat.le_refl _)
theorem KL.sv (h : KL w1 q t ht l hd hv w) (hp : SV w1) : SV w := hp.below h.1 (Nat.le_refl _)
theorem KL.tb (h : KL w1 q t ht l hd hv w) : TBlk w q t ht := h.2.2.1
theorem KL.hb (h : KL w1 q t ht l hd hv w) : Bys w w.heap.size ht l := h.2.2.2.1
theorem KL.ow (h : KL w1 q t ht l hd hv w) : w.ownsRow w1.heap.size 5 1 hv hd.length (byteL hd) := h.2.2.2.2.2
theorem KL.hd_ (h : KL w1 q t ht l hd hv w) : Bys w w.heap.size hv hd := Bys.of_own h.ow
theorem KL.call (h : KL w1 q t ht l hd hv w) (hb : Below w.heap.size w w') : KL w1 q t ht l hd hv w' :=
  ⟨h.1.trans (hb.mono h.1.size), h.2.1, h.tb.below hb, (h.hb.below hb).more hb.size, h.2.2.2.2.1, own_other_b h.ow hb⟩
theorem KL.al (h : KL w1 q t ht l hd hv w) (o : Obj) : KL w1 q t ht l hd hv (w.alloc o) := h.call ((Below.refl _ _).alloc (Nat.le_refl _) o)
/-- Another Talk is stored. -/
theorem KL.st (h : KL w1 q t ht l hd hv w) (hx : TBlk w' q u hu) (ho : ∀ i, i ≠ q → w'.heap[i]? = w.heap[i]?) (hbl : ∀ B (x : World), Below B x w → B ≤ q → Below B x w') (hb : Bys w w.heap.size hu l') (hn : l' ≠ [] → hu.ownBlock ≠ some q ∧ ∀ j, hu.ownBlock = some j → hv.ownBlock ≠ some j) : KL w1 q u hu l' hd hv w' :=
  ⟨hbl _ _ h.1 h.2.1, h.2.1, hx, (hb.far3 (fun hl => (hn hl).1) ho).more (size_kept (Blk.lt hx) ho), hn, own_other h.ow (own_blk_ne h.ow h.tb (by decide)) ho⟩
/-- More has been told. -/
theorem KL.grow {hv' : Value} {b : List UInt8} (h : KL w1 q t ht l hd hv w) (ho : w'.ownsRow w1.heap.size 5 1 hv' (hd.length + b.length) (byteL hd ++ byteL b)) (hg : w.grownBy w' hv.ownBlock) (hor : hv'.ownBlock = hv.ownBlock ∨ hv'.ownBlock = some w.heap.size) : KL w1 q t ht l (hd ++ b) hv' w' := by
  refine ⟨h.1.grown hg h.1.size (fun k hk => (h.ow.lt _ hk).1), h.2.1, Blk.grown h.tb hg (fun hh => own_blk_ne h.ow h.tb (by decide) hh.symm), h.hb.grown hg (fun hl j hj => (h.2.2.2.2.1 hl).2 j hj), fun hl => ⟨(h.2.2.2.2.1 hl).1, fun j hj => ?_⟩, ?_⟩
  · rcases hor with hor | hor
    · rw [hor]
      exact (h.2.2.2.2.1 hl).2 j hj
    · rw [hor]
      intro hh
      injection hh with hh
      have := h.hb.lt_ hl j hj
      omega
  · rw [List.length_append, show byteL (hd ++ b) = byteL hd ++ byteL b from List.map_append]
    exact ho
/-- What came out of a call is none of the older blocks. -/
theorem KL.fresh (h : KL w1 q t ht l hd hv w) (hn : ∀ k, hu.ownBlock = some k → w.heap.size ≤ k) : hu.ownBlock ≠ some q ∧ ∀ j, hu.ownBlock = some j → hv.ownBlock ≠ some j :=
  ⟨fun hh => by have := hn q hh; have := Blk.lt h.tb; omega, fun j hj hh => by have := hn j hj; have := (h.ow.lt _ hh).2; omega⟩
end
theorem ActAt.below {w w' : World} {B : Nat} {ad : Addr} {i : Nat} {x : Ac} {bv : Value} (h : ActAt w B ad i x bv) (hb : Below B w w') (hlt : ad.block < B) : ActAt w' B ad i x bv :=
  ⟨(hb.cell (by rw [block_of_add]; exact hlt)).trans h.1, (hb.cell (by rw [block_of_add]; exact hlt)).trans h.2.1, (hb.cell (by rw [block_of_add]; exact hlt)).trans h.2.2.1, h.2.2.2.1.below hb, h.2.2.2.2⟩
theorem Acts.more {w : World} {B B' : Nat} {v : Value} {xs : List Ac} (h : Acts w B v xs) (hB : B ≤ B') : Acts w B' v xs := by
  obtain ⟨A, cap, e, h1, h2, h3⟩ := h
  refine ⟨A, cap, e, h1, h2, fun i hi => ?_⟩
  obtain ⟨a, bv, hA, hlt, c0, c1, c2, hby, hc⟩ := h3 i hi
  exact ⟨a, bv, hA, Nat.lt_of_lt_of_le hlt hB, c0, c1, c2, hby.more hB, hc⟩
/-- One act, at an address of a row. -/
abbrev actL (b : Bool) (c : Int) (bv : Value) : List Value := [.bool b, .int .i64 c, bv]
def ABlk (w : World) (q : Nat) (b : Bool) (c : Int) (bv : Value) : Prop := Blk w q 49 (actL b c bv).toArray
theorem act_size : (Tryz.prog.info? 49).map (·.size) = some 3 := by kernel_rfl
theorem act_cells (b : Bool) (c : Int) (bv : Value) (h : bv.oneCell' = true) : (actL b c bv).toArray.all (·.oneCell') = true := by
  rw [← Array.all_toList]
  show List.all (actL b c bv) (·.oneCell') = true
  simp only [actL, List.all_cons, List.all_nil, h]
  rfl
theorem over_act (b b' : Bool) (c c' : Int) (bv bv' : Value) : over (actL b c bv).toArray 0 (actL b' c' bv') = (actL b' c' bv').toArray := by kernel_rfl
section
variable {ops : Array Oper} {rest : List Oper} {op : Oper} {a : Act} {w w' : World} {Q : Exit → Act → World → Prop} {q : Nat} {b : Bool} {c : Int} {bv : Value}
theorem ABlk.below (h : ABlk w q b c bv) (hb : Below w.heap.size w w') : ABlk w' q b c bv := Blk.below h hb (Blk.lt h)
theorem ABlk.zero (w : World) : ABlk (w.alloc (Obj.cells #[.bool false, .int .i64 0, .slice none 0 0] 49)) w.heap.size false 0 (.slice none 0 0) := Blk.new _ _ _
theorem wstA {b0 : Bool} {c0 : Int} {bv0 : Value} (hk : ABlk w q b0 c0 bv0) (b : Bool) (c : Int) (bv : Value) (h1 : bv.oneCell' = true) (hgd : op.guard = none) (x y : Operand) (ho : op.op = .store 49 x y) (hx : a.eval x = .pointer (some ⟨q, 0, none⟩)) (hy : a.eval y = .agg #[.bool b, .int .i64 c, bv])
    (h : ∀ w' : World, ABlk w' q b c bv → (∀ i, i ≠ q → w'.heap[i]? = w.heap[i]?) → (∀ B (v : World), Below B v w → B ≤ q → Below B v w') → wpList Tryz.prog ops Q rest (a.put op.dst undef) w') : wpList Tryz.prog ops Q (op :: rest) a w :=
  wstK hk 0 (actL b c bv) _ (over_act b0 b c0 c bv0 bv) (Nat.le_refl 3) (act_cells b c bv h1) hgd _ x y ho hx hy act_size h
theorem wlA {ad : Addr} {i : Nat} {x0 : Ac} {B : Nat} (hat : ActAt w B ad i x0 bv) (hgd : op.guard = none) (x : Operand) (ho : op.op = .load 49 x) (hx : a.eval x = .pointer (some (ad.add (i * 3))))
    (h : wpList Tryz.prog ops Q rest (a.put op.dst (.agg #[.bool x0.tell, .int .i64 x0.count, bv])) w) : wpList Tryz.prog ops Q (op :: rest) a w :=
  wpList_plain hgd fun K hK => by
    have hl : (loadCells (ad.add (i * 3)) 3).run Tryz.prog w = .ok (actL x0.tell x0.count bv).toArray w :=
      run_loadCells_list (P := Tryz.prog) w (ad.add (i * 3)) (actL x0.tell x0.count bv) (fun j v hv => by
        rw [add_of_add]
        match j, hv with
        | 0, hv => injection hv with hv; subst hv; exact hat.1
        | 1, hv => injection hv with hv; subst hv; exact hat.2.1
        | 2, hv => injection hv with hv; subst hv; exact hat.2.2.1
        | j + 3, hv => simp [actL] at hv)
    have hv : (loadVar 49 (ad.add (i * 3))).run Tryz.prog w = .ok (.agg (actL x0.tell x0.count bv).toArray) w := by
      have hagg : (isAgg 49).run Tryz.prog w = .ok true w := by
        unfold isAgg
        rw [Sem.run_bind, run_underlying Tryz.underlying49 w]
        simp
      cases hq : Tryz.prog.info? 49 with
      | none =>
        have h3 := act_size
        rw [hq] at h3
        cases h3
      | some i =>
        have hs : i.size = 3 := by
          have h3 := act_size
          rw [hq] at h3
          exact Option.some.inj h3
        simp [loadVar, Sem.run_bind, hagg, sizeOf, typeInfo, hq, hs, hl]
    unfold Oper.wp execOp
    simp only [ho, hx, Instr.loadAt, Instr.sureAddr, Sem.run_bind, Sem.run_pure, Result.andThen_ok, hv]
    exact hK _ _ h
end
section
variable {k : ByteArray} {g : Nat} {w : World}
theorem beginV_calls (tree : ByteArray) (ours : Int) (hp : PTab w g (tabL k)) :
    Calls Tryz.prog 14 #[.pointer (some ⟨g, 0, none⟩), .string ⟨#[118]⟩, .string tree, .int .u64 ours] w fun e w' => e = .returned (.tuple #[talkV Tk.none (.slice none 0 0), .int .i64 72]) ∧ Below w.heap.size w w' := by
  have h := begin_calls g (tabL k) ⟨#[118]⟩ tree ours w hp (by decide)
  rw [show beginS (tabL k) ⟨#[118]⟩ tree ours = (Tk.none, 72) from by
    unfold beginS
    rw [if_neg (by rw [known_v]; decide), key_tab_v, if_pos (by rfl)]] at h
  exact h
theorem beginW_calls (tree : ByteArray) (ours : Int) (hp : PTab w g (tabL k)) :
    Calls Tryz.prog 14 #[.pointer (some ⟨g, 0, none⟩), .string ⟨#[119]⟩, .string tree, .int .u64 ours] w fun e w' => e = .returned (.tuple #[talkV Tk.none (.slice none 0 0), .int .i64 62]) ∧ Below w.heap.size w w' := by
  have h := begin_calls g (tabL k) ⟨#[119]⟩ tree ours w hp (by decide)
  rw [show beginS (tabL k) ⟨#[119]⟩ tree ours = (Tk.none, 62) from by
    unfold beginS
    rw [if_pos (known_w k)]] at h
  exact h
end
theorem ki_sizes {k : ByteArray} {ours : Nat} {t : Tk} {l hd : List UInt8} (h : KI k ours t l hd) (ho : ours < 18446744073709551616) (hk : keyOk k) :
    l.length ≤ 33 ∧ t.user.size ≤ 268435456 ∧ t.tree.size ≤ 268435456 ∧ (keyOfUser (tabL k) t.user).size ≤ 32 ∧ (0 ≤ t.ours ∧ t.ours < 18446744073709551616) := by
  obtain ⟨h1, h2, h3, h4⟩ := h
  refine ⟨?_, by rw [h1]; decide, by rw [h2]; decide, keys_small hk _, by rw [h3]; omega, by rw [h3]; omega⟩
  rcases h4 with ⟨-, -, rfl, -⟩ | ⟨-, rfl, hl, -⟩ | ⟨-, rfl, -⟩ | ⟨-, rfl, -⟩ | ⟨-, rfl, -⟩
  · exact Nat.zero_le _
  · omega
  · exact Nat.zero_le _
  · exact Nat.zero_le _
  · exact Nat.zero_le _
theorem KL.first {w1 w : World} {q : Nat} {t : Tk} {ht : Value} {ls : List (Value × List UInt8)} (h : FT w1 q t ht ls w) (hz : Bys w w.heap.size ht []) : KL w1 q t ht [] [] (.slice none 0 0) w :=
  ⟨h.1, h.2.1, h.2.2.1, hz, fun hh => absurd rfl hh, ⟨rfl, .inl ⟨rfl, rfl⟩⟩⟩
/-- What the law holds for right, and for dead. -/
def rightB (k : ByteArray) (ours : Int) (hd : List UInt8) : Bool := decide (hd.length = 33) && decide (ofL hd = lineS k ⟨#[117]⟩ ⟨#[]⟩ ours (lnum hd))
def deadB (k : ByteArray) (ours : Int) (hd : List UInt8) : Bool := decide (hd.length = 33) && !rightB k ours hd
theorem ki_bools {k : ByteArray} {ours : Nat} {t : Tk} {l hd : List UInt8} (h : KI k ours t l hd) :
    (t.step = 3 ∨ t.step = 4 ↔ rightB k (ours : Int) hd = true) ∧ (t.step == 5) = deadB k (ours : Int) hd ∧ (allowsS t ⟨#[117]⟩ ⟨#[]⟩ == 0) = (t.step == 4) ∧ ¬ 33 < hd.length := by
  obtain ⟨h1, h2, h3, h4, -, -⟩ := ki_end h
  have hr : rightB k (ours : Int) hd = true ↔ hd.length = 33 ∧ rightS k (ours : Int) hd := by
    unfold rightB rightS
    rw [Bool.and_eq_true, decide_eq_true_iff, decide_eq_true_iff]
  refine ⟨h1.trans hr.symm, ?_, ?_, by omega⟩
  · rw [Bool.eq_iff_iff, beq_iff_eq, h2]
    unfold deadB
    rw [Bool.and_eq_true, decide_eq_true_iff, Bool.not_eq_true', ← Bool.not_eq_true, hr]
    exact ⟨fun ⟨a, b⟩ => ⟨a, fun hh => b hh.2⟩, fun ⟨a, b⟩ => ⟨a, fun hh => b ⟨a, hh⟩⟩⟩
  · rw [Bool.eq_iff_iff, beq_iff_eq, beq_iff_eq]
    exact h4
end Go.Proofs.YtlenlldiimohjaaGreatDoor
