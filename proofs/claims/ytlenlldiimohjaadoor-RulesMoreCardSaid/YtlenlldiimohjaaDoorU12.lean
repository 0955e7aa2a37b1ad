/-
  Package users: join.
-/
import Derived.Test.YtlenlldiimohjaaDoorU11
import Derived.Test.YtlenlldiimohjaaDoorUPair
namespace Go.Proofs.YtlenlldiimohjaaDoor
open Go.ChangeShapes Go.WideShapes Go.ChangeAt Go.RowKit

theorem has_take_succ {l : List ByteArray} {j : Nat} {x : ByteArray} (h : l[j]? = some x) (u : ByteArray) : has (l.take (j + 1)) u = (has (l.take j) u || decide (x = u)) := by
  obtain ⟨hl, rfl⟩ := List.getElem?_eq_some_iff.1 h
  unfold has
  rw [List.take_succ_eq_append_getElem hl, List.any_append]
  simp only [List.any_cons, List.any_nil, Bool.or_false]
theorem isMember_take_succ {L : List Acct} {k : Nat} {a : Acct} (h : L[k]? = some a) (u g : ByteArray) : isMember (L.take (k + 1)) u g = (isMember (L.take k) u g || (decide (a.name = g) && (decide (u = g) || has a.members u))) := by
  obtain ⟨hl, rfl⟩ := List.getElem?_eq_some_iff.1 h
  unfold isMember
  rw [List.take_succ_eq_append_getElem hl, List.any_append]
  simp only [List.any_cons, List.any_nil, Bool.or_false]
/-- In the midst of an account: the first j members are noted. -/
def midMember (L : List Acct) (k : Nat) (a : Acct) (j : Nat) (u g : ByteArray) : Bool := isMember (L.take k) u g || (decide (a.name = g) && (decide (u = g) || has (a.members.take j) u))
theorem mid_zero (L : List Acct) (k : Nat) (a : Acct) (u g : ByteArray) : (isMember (L.take k) u g || (decide (u = a.name) && decide (g = a.name))) = midMember L k a 0 u g := by
  unfold midMember
  congr 1
  have h0 : has (a.members.take 0) u = false := rfl
  rw [h0, Bool.or_false, Bool.eq_iff_iff]
  simp only [Bool.and_eq_true, decide_eq_true_iff]
  constructor
  · rintro ⟨rfl, rfl⟩; exact ⟨rfl, rfl⟩
  · rintro ⟨rfl, rfl⟩; exact ⟨rfl, rfl⟩
theorem mid_succ {L : List Acct} {k : Nat} {a : Acct} {j : Nat} {x : ByteArray} (h : a.members[j]? = some x) (u g : ByteArray) : (midMember L k a j u g || (decide (u = x) && decide (g = a.name))) = midMember L k a (j + 1) u g := by
  unfold midMember
  rw [has_take_succ h, Bool.or_assoc]
  congr 1
  rw [Bool.eq_iff_iff]
  simp only [Bool.and_eq_true, Bool.or_eq_true, decide_eq_true_iff]
  constructor
  · rintro (⟨h1, h2⟩ | ⟨rfl, rfl⟩)
    · exact ⟨h1, h2.elim .inl (fun h => .inr (.inl h))⟩
    · exact ⟨rfl, .inr (.inr rfl)⟩
  · rintro ⟨rfl, h1 | h1 | h1⟩
    · exact .inl ⟨rfl, .inl h1⟩
    · exact .inl ⟨rfl, .inr h1⟩
    · exact .inr ⟨h1.symm, rfl⟩
theorem mid_end {L : List Acct} {k : Nat} {a : Acct} {j : Nat} (h : L[k]? = some a) (hj : a.members.length ≤ j) (u g : ByteArray) : midMember L k a j u g = isMember (L.take (k + 1)) u g := by
  rw [isMember_take_succ h]
  unfold midMember
  rw [List.take_of_length_le hj]

/-- The table of the accounts L at g, its map of names at b, its map of pairs at m. -/
def JTab (w : World) (g b m n : Nat) (L : List Acct) (M : ByteArray → ByteArray → Bool) : Prop :=
  ∃ vl, Blk w g 99 #[vl, .map (some b), .map (some m)] ∧ Accts w vl L ∧ AtMap w b L.length L ∧ InMap w m n M ∧ b ≠ m
section
variable {w w' : World} {g b m n n' : Nat} {L : List Acct} {M M' : ByteArray → ByteArray → Bool}
theorem JTab.below (h : JTab w g b m n L M) (hb : Below w.heap.size w w') : JTab w' g b m n L M := by
  obtain ⟨vl, h1, h2, h3, h4, h5⟩ := h
  exact ⟨vl, h1.below hb h1.lt, h2.below hb (Nat.le_refl _), h3.below hb, h4.below hb, h5⟩
theorem JTab.map (h : JTab w g b m n L M) (hg : w.grownBy w' (some m)) (hm : InMap w' m n' M') : JTab w' g b m n' L M' := by
  obtain ⟨vl, h1, h2, h3, h4, h5⟩ := h
  obtain ⟨es, ck, ho⟩ := h4.obj
  have key : ∀ (i : Nat) cs t fr, w.heap[i]? = some (.cells cs t fr) → w'.heap[i]? = w.heap[i]? := fun i cs t fr hi => hg.block i (heap_lt hi) (by
    intro e
    injection e with e
    subst e
    rw [ho] at hi
    cases hi)
  exact ⟨vl, (key g _ _ _ h1).trans h1, h2.keep (fun i cur e fr hi _ => key i cur e fr hi), h3.keep (fun es ck hb => hg.block b (heap_lt hb) (fun e => h5 (by injection e))), hm, h5⟩
theorem JTab.kept (h : JTab w g b m n L M) (hg : w.grownBy w' (some m)) : Kept w w' := by
  obtain ⟨vl, h1, h2, h3, h4, h5⟩ := h
  obtain ⟨es, ck, ho⟩ := h4.obj
  refine Kept.of_grown hg (fun k hk cs t fr hc => ?_)
  injection hk with hk
  subst hk
  rw [ho] at hc
  cases hc
theorem JTab.as (h : JTab w g b m n L M) (hM : ∀ u g, M u g = M' u g) (hn : n ≤ n') : JTab w g b m n' L M' := by
  obtain ⟨vl, h1, h2, h3, h4, h5⟩ := h
  exact ⟨vl, h1, h2, h3, (h4.mono hn).as hM, h5⟩
end

/-- The program's whole table of the accounts L, at g. -/
def PTab (w : World) (g : Nat) (L : List Acct) : Prop := ∃ b m n, JTab w g b m n L (isMember L)
theorem PTab.below {w w' : World} {g : Nat} {L : List Acct} (h : PTab w g L) (hb : Below w.heap.size w w') : PTab w' g L := by
  obtain ⟨b, m, n, h⟩ := h
  exact ⟨b, m, n, h.below hb⟩

/-- What join does. -/
def Joined (g : Nat) (L : List Acct) (e : Ending) (w' : World) : Prop :=
  if (textL L).length ≤ 65536 then e = .returned (.tuple #[]) ∧ PTab w' g L else e = gaveUp 1
theorem Joined.no {g : Nat} {L : List Acct} {w' : World} (h : ¬ (textL L).length ≤ 65536) : Joined g L (gaveUp 1) w' := by
  unfold Joined; rw [if_neg h]
theorem Joined.yes {g : Nat} {L : List Acct} {w' : World} (h : (textL L).length ≤ 65536) (hp : PTab w' g L) : Joined g L (.returned (.tuple #[])) w' := by
  unfold Joined; rw [if_pos h]; exact ⟨rfl, hp⟩

theorem textL_many (L : List Acct) : L.length ≤ (textL L).length := by
  induction L with
  | nil => simp
  | cons a L ih =>
    have h1 : textL (a :: L) = lineL a ++ textL L := rfl
    have := lineL_many a
    rw [h1]
    simp
    omega

/-- Where join stands. -/
def JAt (w : World) (base g b m n : Nat) (L : List Acct) (M : ByteArray → ByteArray → Bool) (wr : World) : Prop :=
  JTab wr g b m n L M ∧ Below base w wr ∧ Kept w wr ∧ base ≤ m
section
variable {w wr w' : World} {base g b m n n' : Nat} {L : List Acct} {M M' : ByteArray → ByteArray → Bool}
theorem JAt.below (h : JAt w base g b m n L M wr) (hb : Below wr.heap.size wr w') (hbase : base ≤ w.heap.size) : JAt w base g b m n L M w' :=
  ⟨h.1.below hb, h.2.1.trans (hb.mono (Nat.le_trans hbase h.2.2.1.1)), h.2.2.1.trans (Kept.of_below hb), h.2.2.2⟩
theorem JAt.map (h : JAt w base g b m n L M wr) (hg : wr.grownBy w' (some m)) (hm : InMap w' m n' M') (hbase : base ≤ w.heap.size) : JAt w base g b m n' L M' w' :=
  ⟨h.1.map hg hm, h.2.1.grown hg (Nat.le_trans hbase h.2.2.1.1) (fun k hk => by injection hk with hk; subst hk; exact h.2.2.2), h.2.2.1.trans (h.1.kept hg), h.2.2.2⟩
theorem JAt.as (h : JAt w base g b m n L M wr) (hM : ∀ u g, M u g = M' u g) (hn : n ≤ n') : JAt w base g b m n' L M' wr :=
  ⟨h.1.as hM hn, h.2⟩
end

theorem JAt.cell2 {w wr : World} {base g b m n : Nat} {L : List Acct} {M : ByteArray → ByteArray → Bool} (h : JAt w base g b m n L M wr) : wr.cell? ⟨g, 2, none⟩ = some (.map (some m)) := by
  obtain ⟨vl, h1, -⟩ := h.1
  exact h1.cell 2
theorem JAt.step {w wr : World} {base g b m n : Nat} {L : List Acct} {M : ByteArray → ByteArray → Bool} (h : JAt w base g b m n L M wr) (hbase : base ≤ w.heap.size) (x y : ByteArray) (hx : x.size ≤ 16777216) (hy : y.size ≤ 16777216) (hn : n ≤ 16777216) (i : Nat) (hi : i ≤ 16777216)
    {q : Nat} {t : TypeId} {cs : Array Value} (hq : Blk wr q t cs) {v : Value} {l : List ByteArray} (hs : Strs wr v l) {va : Value} (ha : Accts wr va L) :
    ∃ w', (Instr.mapUpdate 97 (.map (some m)) (.agg #[.string x, .string y]) (.int .i64 (i : Nat))).run Tryd.prog wr = .ok () w' ∧ JAt w base g b m (n + 1) L (fun u z => M u z || (decide (u = x) && decide (z = y))) w' ∧ Blk w' q t cs ∧ Strs w' v l ∧ Accts w' va L := by
  obtain ⟨vl, h1, h2, h3, h4, h5⟩ := id h.1
  obtain ⟨w', hrun, him, hgr⟩ := h4.add x y (by omega) (by omega) (by unfold maxLen; omega) i (by omega)
  obtain ⟨es, ck, ho⟩ := h4.obj
  have key : ∀ (i : Nat) cs t fr, wr.heap[i]? = some (.cells cs t fr) → w'.heap[i]? = wr.heap[i]? := fun i cs t fr hi => hgr.block i (heap_lt hi) (by
    intro e
    injection e with e
    subst e
    rw [ho] at hi
    cases hi)
  exact ⟨w', hrun, h.map hgr him hbase, (key q _ _ _ hq).trans hq, hs.keep (fun i cur fr hi => key i cur _ fr hi), ha.keep (fun i cur e fr hi _ => key i cur e fr hi)⟩

theorem jat_start {w w1 : World} {base g b : Nat} {L : List Acct} (hB : Build w base g b L) (hb : Below w.heap.size w w1) (hbase : base ≤ w.heap.size) :
    JAt w base g b w1.heap.size 0 L (fun _ _ => false) ((w1.alloc (Obj.map #[] 0)).setCell ⟨g, 2, none⟩ (.map (some w1.heap.size))) := by
  obtain ⟨vl, h1, h2, h3, h4, h5⟩ := hB.below hb
  have hpre : Below w1.heap.size w1 (w1.alloc (Obj.map #[] 0)) := (Below.refl _ _).alloc (Nat.le_refl _) _
  have hblk := h1.alloc (Obj.map #[] 0)
  have hk1 : Kept w (w1.alloc (Obj.map #[] 0)) := (Kept.of_below hb).trans (Kept.of_below hpre)
  refine ⟨⟨vl, ?_, ?_, (h3.below hpre).setCell hblk, ?_, ?_⟩, ?_, hk1.trans (Kept.of_set hblk), Nat.le_trans hbase hb.size⟩
  · have := hblk.set_ 2 (.map (some w1.heap.size))
    simpa using this
  · refine (h2.accts.below hpre (Nat.le_refl _)).keep (fun i cur e fr hi he => Below.heap_setCell _ _ _ _ ?_)
    rintro rfl
    unfold Blk at hblk
    rw [hblk] at hi
    injection hi with hi
    injection hi with _ ht
    rcases he with rfl | rfl
    · revert ht; decide
    · revert ht; decide
  · refine (InMap.made w1).keep (fun es ck hi => Below.heap_setCell _ _ _ _ ?_)
    rintro rfl
    unfold Blk at hblk
    rw [hblk] at hi
    cases hi
  · have := h3.lt
    omega
  · exact ((hb.mono hbase).alloc (Nat.le_trans hbase hb.size) _).setCell (p := ⟨g, 2, none⟩) h4 _

set_option maxRecDepth 100000 in
set_option maxHeartbeats 3200000 in
theorem join_walk (base g b : Nat) (L : List Acct) (w : World) (hB : Build w base g b L) (hl : (textL L).length ≤ 16777216) (hbase : base ≤ w.heap.size) :
    Calls Tryd.prog 66 #[.pointer (some ⟨g, 0, none⟩)] w fun e w' => Joined g L e w' ∧ Below base w w' ∧ Kept w w' := by
  have hmm := @run_makeMap Tryd.prog
  have HTX := Lib.hid (show (ofL (textL L)).size = (textL L).length from ofL_size _)
  have HB := Lib.hid hB; clear hB
  have HL := Lib.hid hl; clear hl
  have HBS := Lib.hid hbase; clear hbase
  by_cases h : (ofL (textL L)).size ≤ 65536
  case neg =>
    have hd : decide (((ofL (textL L)).size : Int) ≤ 65536) = false := decide_eq_false (by omega)
    have HN := Lib.hid (show ¬ (textL L).length ≤ 65536 from by rw [← HTX.out]; exact h)
    go_enter Tryd.func66, Tryd.ntmps66
    go_wp2_with fail
    refine (text_calls g b L _ HB.out.tab HL.out).mono ?_
    rintro e w1 ⟨rfl, hb1⟩
    have HB1 := Lib.hid hb1; clear hb1
    go_wp2_with fail
    refine (need_f 1 _).mono ?_
    rintro e w2 ⟨rfl, rfl⟩
    exact ⟨rfl, Joined.no HN.out, HB1.out.mono HBS.out, Kept.of_below HB1.out⟩
  case pos =>
    have hd : decide (((ofL (textL L)).size : Int) ≤ 65536) = true := decide_eq_true (by omega)
    have HY := Lib.hid (show (textL L).length ≤ 65536 from by rw [← HTX.out]; exact h)
    go_enter Tryd.func66, Tryd.ntmps66
    go_wp2_with fail
    refine (text_calls g b L _ HB.out.tab HL.out).mono ?_
    rintro e w1 ⟨rfl, hb1⟩
    have HJ := Lib.hid (jat_start HB.out hb1 HBS.out)
    obtain ⟨vl, t1, t2, -⟩ := HB.out.below hb1
    clear hb1
    obtain ⟨A, c, rfl, hlc, hcm⟩ := t2.accts.len
    unfold maxLen at hcm
    have g2 : (w1.alloc (Obj.map #[] 0)).cell? ⟨g, 2, none⟩ = some (.map none) := (t1.alloc _).cell 2
    have f2 : (w1.alloc (Obj.map #[] 0)).frozen? ⟨g, 2, none⟩ = false := (t1.alloc _).frozen 2
    have g0 : ((w1.alloc (Obj.map #[] 0)).setCell ⟨g, 2, none⟩ (.map (some w1.heap.size))).cell? ⟨g, 0, none⟩ = some (.slice A L.length c) := ((t1.alloc (Obj.map #[] 0)).set_ 2 _).cell 0
    clear t1 t2
    go_wp2_with fail
    refine (need_t 1 _).mono ?_
    rintro e w2 ⟨rfl, rfl⟩
    clear h hd
    go_wp2_with fail
    generalize (w1.alloc (Obj.map #[] 0)).setCell ⟨g, 2, none⟩ (.map (some w1.heap.size)) = w2 at HJ g0 ⊢
    generalize w1.heap.size = m at HJ ⊢
    clear hmm f2 g2
    have HAC := Lib.hid (show Accts w2 (.slice A L.length c) L from by
      obtain ⟨vl, b1, b2, -⟩ := HJ.out.1
      have := b1.cell 0
      rw [g0] at this
      injection this with this
      subst this
      exact b2)
    go_loopw [20] (fun i wr => ∃ k n : Nat, k ≤ L.length ∧ i = .int .i64 k ∧ n ≤ (textL (L.take k)).length ∧ Accts wr (.slice A L.length c) L ∧ JAt w base g b m n L (isMember (L.take k)) wr) (fun i _ => L.length - (intOf i).toNat)
    case atStart => exact ⟨0, 0, by omega, rfl, by omega, HAC.out, HJ.out.as (fun _ _ => rfl) (Nat.le_refl _)⟩
    case round =>
      obtain ⟨k, n, hk, rfl, hn, hac, hj⟩ := hrel
      clear HJ HAC g0
      have HN := Lib.hid hn; clear hn
      have HAC := Lib.hid hac; clear hac
      have HJ := Lib.hid hj; clear hj
      by_cases hlt : k < L.length
      · obtain ⟨a, hka⟩ : ∃ a, L[k]? = some a := ⟨L[k], List.getElem?_eq_getElem hlt⟩
        obtain ⟨g', o, c', mv, hv, _, hms, h0, h1, h2, h3, _⟩ := HAC.out.at_ hka
        injection hv with e1 _ e3
        subst e1; subst e3
        obtain ⟨Am, cm, rfl, hm1, hm2, -⟩ := id hms
        unfold maxLen at hm2
        have HKA := Lib.hid hka; clear hka
        have HMS := Lib.hid (hms.alloc (Obj.cells #[.string a.name, .string a.leader, .slice Am a.members.length cm, .string a.key] 104)); clear hms
        have hll := lineL_get HKA.out
        have hlm := lineL_many a
        rw [lineL_len] at hll
        have hns : a.name.size ≤ 16777216 := by have := HL.out; omega
        have hxs : ∀ x ∈ a.members, x.size ≤ 16777216 := by
          intro x hx
          obtain ⟨j, hj⟩ := List.getElem?_of_mem hx
          have := joinL_get [44] a.members j x hj
          have := HL.out
          omega
        rw [← lineL_len] at hll
        have HSP := Lib.hid (show n + 1 + a.members.length ≤ (textL (L.take (k + 1))).length ∧ n + 1 + a.members.length ≤ 16777216 from by
          have := HN.out
          have := HL.out
          rw [textL_take_succ HKA.out, List.length_append]
          omega)
        have HXS := Lib.hid hxs; clear hxs
        clear hll hlm
        have hpre : Below wr.heap.size wr (wr.alloc (Obj.cells #[.string a.name, .string a.leader, .slice Am a.members.length cm, .string a.key] 104)) := (Below.refl _ _).alloc (Nat.le_refl _) _
        have HJ3 := Lib.hid (HJ.out.below hpre HBS.out)
        have HAC3 := Lib.hid (HAC.out.below hpre (Nat.le_refl _))
        have HQ := Lib.hid (Blk.new wr 104 #[.string a.name, .string a.leader, .slice Am a.members.length cm, .string a.key])
        clear hpre
        go_wp2_with fail
        clear h0 h1 h2 h3
        generalize wr.alloc (Obj.cells #[.string a.name, .string a.leader, .slice Am a.members.length cm, .string a.key] 104) = w3 at HJ3 HAC3 HQ HMS ⊢
        generalize wr.heap.size = q at HQ ⊢
        clear HJ HAC HN
        have HJ4 := Lib.hid (HJ3.out.below (below_drew w3) HBS.out)
        have HQ4 := Lib.hid (show Blk w3.drew q 104 #[.string a.name, .string a.leader, .slice Am a.members.length cm, .string a.key] from HQ.out)
        obtain ⟨w4, hrun, hj4, hq4, hs4, ha4⟩ := HJ4.out.step HBS.out a.name a.name hns hns (by have := HSP.out; omega) k (by have := lineL_many a; have := HL.out; have := textL_many L; omega) HQ4.out HMS.out.drew HAC3.out.drew
        have g2 : w3.drew.cell? ⟨g, 2, none⟩ = some (.map (some m)) := HJ4.out.cell2
        have a0 : w3.drew.cell? ⟨q, 0, none⟩ = some (.string a.name) := HQ4.out.cell 0
        have HJ5 := Lib.hid (hj4.as (M' := midMember L k a 0) (mid_zero L k a) (Nat.le_refl _)); clear hj4
        have HQ5 := Lib.hid hq4; clear hq4
        have HS5 := Lib.hid hs4; clear hs4
        have HAC5 := Lib.hid ha4; clear ha4
        clear HJ3 HJ4 HQ4 HQ HMS HAC3
        go_region
        clear hrun g2 a0
        have a2 : w4.cell? ⟨q, 2, none⟩ = some (.slice Am a.members.length cm) := HQ5.out.cell 2
        go_wp2_with fail
        clear a2
        go_loopw [38] (fun i wi => ∃ j : Nat, j ≤ a.members.length ∧ i = .int .i64 j ∧ JAt w base g b m (n + 1 + j) L (midMember L k a j) wi ∧ Blk wi q 104 #[.string a.name, .string a.leader, .slice Am a.members.length cm, .string a.key] ∧ Strs wi (.slice Am a.members.length cm) a.members ∧ Accts wi (.slice (some ⟨g', o, none⟩) L.length c) L) (fun i _ => a.members.length - (intOf i).toNat)
        case atStart => exact ⟨0, by omega, rfl, HJ5.out, HQ5.out, HS5.out, HAC5.out⟩
        case round =>
          obtain ⟨j, hj, rfl, hj1, hj2, hj3, hj4⟩ := hrel
          clear HJ5 HQ5 HS5 HAC5
          by_cases hlj : j < a.members.length
          · obtain ⟨x, hx⟩ : ∃ x, a.members[j]? = some x := ⟨a.members[j], List.getElem?_eq_getElem hlj⟩
            obtain ⟨gg, oo, c', hv, _, x0⟩ := hj3.at_ hx
            injection hv with e1 _ e3
            subst e1; subst e3
            have hxz := HXS.out x (List.mem_of_getElem? hx)
            have HX := Lib.hid hx; clear hx
            have HA4 := Lib.hid hj4; clear hj4
            have HS3 := Lib.hid hj3; clear hj3
            have HQ2 := Lib.hid hj2; clear hj2
            have HJ1 := Lib.hid hj1; clear hj1
            go_wp2_with fail
            clear x0
            have HJ2 := Lib.hid (HJ1.out.below (below_drew wr) HBS.out)
            have HQ3 := Lib.hid (show Blk wr.drew q 104 #[.string a.name, .string a.leader, .slice (some ⟨gg, oo, none⟩) a.members.length cm, .string a.key] from HQ2.out)
            obtain ⟨w5, hrun, hj5, hq5, hs5, ha5⟩ := HJ2.out.step HBS.out x a.name hxz hns (by have := HSP.out; omega) k (by have := lineL_many a; have := HL.out; have := textL_many L; omega) HQ3.out HS3.out.drew HA4.out.drew
            have g2 : wr.drew.cell? ⟨g, 2, none⟩ = some (.map (some m)) := HJ2.out.cell2
            have a0 : wr.drew.cell? ⟨q, 0, none⟩ = some (.string a.name) := HQ3.out.cell 0
            have HJ5 := Lib.hid (hj5.as (M' := midMember L k a (j + 1)) (mid_succ HX.out) (Nat.le_refl _)); clear hj5
            have HQ5 := Lib.hid hq5; clear hq5
            have HS5 := Lib.hid hs5; clear hs5
            have HAC5 := Lib.hid ha5; clear ha5
            clear HJ1 HJ2 HQ2 HQ3 HS3 HA4
            go_region
            clear hrun g2 a0
            go_wp2_with fail
            go_roundw
            case rel => exact ⟨j + 1, by omega, by go_num, HJ5.out, HQ5.out, HS5.out, HAC5.out⟩
            case measure => simp [intOf]; omega
          · have HJ6 := Lib.hid (hj1.as (M' := isMember (L.take (k + 1))) (mid_end HKA.out (by omega)) (Nat.le_refl _)); clear hj1
            have HAC6 := Lib.hid hj4; clear hj4
            clear hj2 hj3
            go_wp2_with fail
            go_roundw
            case rel => exact ⟨k + 1, n + 1 + j, by omega, by go_num, by have := HSP.out; omega, HAC6.out, HJ6.out⟩
            case measure => simp [intOf]; omega
      · have HF := Lib.hid (HJ.out.as (M' := isMember L) (fun u g => by rw [List.take_of_length_le (by omega)]) (Nat.le_refl _))
        go_wp2_with fail
        go_end0
        exact ⟨Joined.yes HY.out ⟨b, m, _, HF.out.1⟩, HF.out.2.1, HF.out.2.2.1⟩
end Go.Proofs.YtlenlldiimohjaaDoor
