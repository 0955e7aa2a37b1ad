/-
  Package users: Parse, Known, Member, Leads. Condition: the tables of utf8 lie as laid.
-/
import Derived.Test.YtlenlldiimohjaaDoorU15
import Derived.Conc.MuLone
namespace Go.Proofs.YtlenlldiimohjaaDoor
open Go.ChangeShapes Go.WideShapes Go.ChangeAt Go.RowKit

theorem readLines_er : ∀ (l : List ByteArray) (i : Nat) (L : List Acct) (P : List Nat) (e : Int × Nat), readLines l i L P = .error e → e.1 = 60 ∨ e.1 = 61
  | [], i, L, P, e, h => by simp [readLines] at h
  | l :: rest, i, L, P, e, h => by
    by_cases h1 : l.size = 0 ∨ l.data.toList.head? = some 35
    · rw [readLines_skip h1] at h
      exact readLines_er rest _ _ _ _ h
    · cases ha : account l with
      | none =>
        rw [readLines_bad h1 ha] at h
        injection h with h
        subst h
        exact .inl rfl
      | some a =>
        by_cases h2 : known L a.name = true ∨ twice a.members = true
        · rw [readLines_twice h1 ha h2] at h
          injection h with h
          subst h
          exact .inr rfl
        · have hk : known L a.name = false := by cases hk : known L a.name <;> simp_all
          have ht : twice a.members = false := by cases ht : twice a.members <;> simp_all
          rw [readLines_more h1 ha hk ht] at h
          exact readLines_er rest _ _ _ _ h
theorem parse_er {s : ByteArray} {e : Int × Nat} (h : parse s = .error e) : e.1 = 1 ∨ e.1 = 60 ∨ e.1 = 61 ∨ e.1 = 62 := by
  unfold parse at h
  split at h
  · injection h with h; subst h; exact .inl rfl
  · split at h
    · rename_i hr
      injection h with h
      subst h
      rcases readLines_er _ _ _ _ _ hr with h | h <;> simp [h]
    · split at h
      · injection h with h; subst h; simp
      · split at h
        · injection h with h; subst h; exact .inl rfl
        · cases h

/-- The table is still there where only a block of another kind of cells was written. -/
theorem PTab.apart {w w' : World} {g q : Nat} {L : List Acct} {cs : Array Value} (h : PTab w g L) (hq : Blk w q 25 cs) (hk : ∀ i, i < w.heap.size → i ≠ q → w'.heap[i]? = w.heap[i]?) : PTab w' g L := by
  obtain ⟨b, m, n, vl, h1, h2, h3, h4, h5⟩ := h
  have key : ∀ (i : Nat) cs t fr, w.heap[i]? = some (Obj.cells cs t fr) → t ≠ 25 → w'.heap[i]? = w.heap[i]? := fun i cs t fr hi hne => hk i (heap_lt hi) (by
    rintro rfl
    unfold Blk at hq
    rw [hq] at hi
    injection hi with hi
    injection hi with _ ht
    exact hne ht.symm)
  have keym : ∀ (i : Nat) es ck, w.heap[i]? = some (Obj.map es ck) → w'.heap[i]? = w.heap[i]? := fun i es ck hi => hk i (heap_lt hi) (by
    rintro rfl
    unfold Blk at hq
    rw [hq] at hi
    cases hi)
  exact ⟨b, m, n, vl, (key g _ _ _ h1 (by decide)).trans h1, h2.keep (fun i cur e fr hi he => key i cur e fr hi (by rcases he with rfl | rfl <;> decide)), h3.keep (fun es ck hb => keym b es ck hb), h4.keep (fun es ck hb => keym m es ck hb), h5⟩

/-- What the program's Parse gives back. -/
def PParsed (s : ByteArray) (w : World) (e : Ending) (w' : World) : Prop :=
  Below w.heap.size w w' ∧ match parse s with
    | .error (er, ln) => e = .returned (.tuple #[.pointer none, .int .i64 er, .int .i64 (ln : Int)])
    | .ok L => ∃ g, w.heap.size ≤ g ∧ e = .returned (.tuple #[.pointer (some ⟨g, 0, none⟩), .int .i64 0, .int .i64 0]) ∧ PTab w' g L
theorem PParsed.err {s : ByteArray} {w w' : World} {er : Int} {ln : Nat} (hb : Below w.heap.size w w') (h : parse s = .error (er, ln)) : PParsed s w (.returned (.tuple #[.pointer none, .int .i64 er, .int .i64 (ln : Int)])) w' := by
  refine ⟨hb, ?_⟩
  rw [h]
theorem PParsed.ok {s : ByteArray} {w w' : World} {L : List Acct} {g : Nat} (hb : Below w.heap.size w w') (h : parse s = .ok L) (hg : w.heap.size ≤ g) (hp : PTab w' g L) : PParsed s w (.returned (.tuple #[.pointer (some ⟨g, 0, none⟩), .int .i64 0, .int .i64 0])) w' := by
  refine ⟨hb, ?_⟩
  rw [h]
  exact ⟨g, hg, rfl, hp⟩

/-- What guard is told. -/
def PR (s : ByteArray) (w W : World) (g pa : Nat) (r : Option Int) (w' : World) : Prop :=
  Below w.heap.size w w' ∧ KeptP W w' ∧ match parse s with
    | .error (er, ln) => r = some er ∧ Blk w' pa 3 #[.int .i64 (ln : Int)]
    | .ok L => r = none ∧ PTab w' g L
theorem tried_of {s : ByteArray} {w W : World} {g pa q : Nat} {e : Ending} {w' : World} (hq : Blk W q 25 #[.int .i64 0]) (h : P1Post s w W g pa e w') : Tried q (PR s w W g pa) e w' := by
  obtain ⟨h1, h2, h3⟩ := h
  refine ⟨(h2.2 q _ _ _ hq (.inr (.inr rfl))).trans hq, ?_⟩
  cases hp : parse s with
  | error x =>
    obtain ⟨er, ln⟩ := x
    rw [hp] at h3
    exact .inr ⟨er, h3.1, h1, h2, by rw [hp]; exact ⟨rfl, h3.2⟩⟩
  | ok L =>
    rw [hp] at h3
    exact .inl ⟨h3.1, h1, h2, by rw [hp]; exact ⟨rfl, h3.2⟩⟩

theorem parse1_enters (args : Array Value) (w : World) : Sem.run Tryd.prog (callFunc 59 args) w = .ok (.enter 59 args) w :=
  Go.MuLone.run_callFunc_enter Tryd.func59 (by kernel_rfl) rfl args w

/-- The variables of Parse, as it lays them. -/
def PW (s : ByteArray) (w : World) : World :=
  (((((w.alloc (Obj.cells #[.string s] 9)).alloc (Obj.map #[] 0)).alloc (Obj.cells #[.slice none 0 0, .map (some (w.heap.size + 1)), .map none] 99)).alloc (Obj.cells #[.pointer (some ⟨w.heap.size + 1 + 1, 0, none⟩)] 40)).alloc (Obj.cells #[.int .i64 0] 3)).alloc (Obj.cells #[.slice none 0 0] 24)
theorem PW_size (s : ByteArray) (w : World) : (PW s w).heap.size = w.heap.size + 6 := by simp [PW, World.size_alloc]
theorem PW_low (s : ByteArray) (w : World) : Below w.heap.size w (PW s w) := by
  unfold PW
  refine Below.alloc (Below.alloc (Below.alloc (Below.alloc (Below.alloc (Below.alloc (Below.refl _ _) (Nat.le_refl _) _) ?_ _) ?_ _) ?_ _) ?_ _) ?_ _
  all_goals simp only [World.size_alloc]; omega
theorem PW_t (s : ByteArray) (w : World) : Blk (PW s w) w.heap.size 9 #[.string s] := (((((Blk.new w 9 #[.string s]).alloc _).alloc _).alloc _).alloc _).alloc _
theorem PW_p (s : ByteArray) (w : World) : Blk (PW s w) (w.heap.size + 1 + 1 + 1 + 1 + 1) 24 #[.slice none 0 0] := by
  have := Blk.new (((((w.alloc (Obj.cells #[.string s] 9)).alloc (Obj.map #[] 0)).alloc (Obj.cells #[.slice none 0 0, .map (some (w.heap.size + 1)), .map none] 99)).alloc (Obj.cells #[.pointer (some ⟨w.heap.size + 1 + 1, 0, none⟩)] 40)).alloc (Obj.cells #[.int .i64 0] 3)) 24 #[.slice none 0 0]
  simp only [World.size_alloc] at this
  exact this
theorem PW_a (s : ByteArray) (w : World) : Blk (PW s w) (w.heap.size + 1 + 1 + 1 + 1) 3 #[.int .i64 0] := by
  have := Blk.new ((((w.alloc (Obj.cells #[.string s] 9)).alloc (Obj.map #[] 0)).alloc (Obj.cells #[.slice none 0 0, .map (some (w.heap.size + 1)), .map none] 99)).alloc (Obj.cells #[.pointer (some ⟨w.heap.size + 1 + 1, 0, none⟩)] 40)) 3 #[.int .i64 0]
  simp only [World.size_alloc] at this
  exact this.alloc _
theorem PW_v (s : ByteArray) (w : World) : Blk (PW s w) (w.heap.size + 1 + 1 + 1) 40 #[.pointer (some ⟨w.heap.size + 1 + 1, 0, none⟩)] := by
  have := Blk.new (((w.alloc (Obj.cells #[.string s] 9)).alloc (Obj.map #[] 0)).alloc (Obj.cells #[.slice none 0 0, .map (some (w.heap.size + 1)), .map none] 99)) 40 #[.pointer (some ⟨w.heap.size + 1 + 1, 0, none⟩)]
  simp only [World.size_alloc] at this
  exact (this.alloc _).alloc _
theorem PW_b (s : ByteArray) (w : World) : Build (PW s w) w.heap.size (w.heap.size + 1 + 1) (w.heap.size + 1) [] := by
  have h1 := Blk.new ((w.alloc (Obj.cells #[.string s] 9)).alloc (Obj.map #[] 0)) 99 #[.slice none 0 0, .map (some (w.heap.size + 1)), .map none]
  simp only [World.size_alloc] at h1
  have h2 := AtMap.made (w.alloc (Obj.cells #[.string s] 9))
  simp only [World.size_alloc] at h2
  have up : ∀ (W : World) (o : Obj), Below W.heap.size W (W.alloc o) := fun W o => (Below.refl _ _).alloc (Nat.le_refl _) o
  exact ⟨_, ((h1.alloc _).alloc _).alloc _, OwnAccts.nil_ _ _, (((h2.below (up _ _)).below (up _ _)).below (up _ _)).below (up _ _), by omega, by omega⟩

set_option maxRecDepth 100000 in
set_option maxHeartbeats 1600000 in
theorem parse_calls (s : ByteArray) (w : World) (hr : Ready w) : Calls Tryd.prog 40 #[.string s] w (PParsed s w) := by
  have hmm := @run_makeMap Tryd.prog
  have hmf : ∀ (fn : Fn) (first cap : Array Value) (w : World), (Instr.makeFunc fn first cap).run Tryd.prog w = .ok (.func fn first cap) w := fun _ _ _ _ => rfl
  by_cases hbig : 65536 < s.size
  · have HP := Lib.hid (show parse s = .error (1, 0) from by unfold parse; rw [if_pos hbig])
    go_enter Tryd.func40, Tryd.ntmps40
    go_wp2_with fail
    go_ret3
    exact PParsed.err ((Below.refl _ _).alloc (Nat.le_refl _) _) HP.out
  · have HBIG := Lib.hid hbig
    have HR := Lib.hid hr; clear hr
    have HG := Lib.hid (guard_calls 59 #[.pointer (some ⟨w.heap.size, 0, none⟩), .pointer (some ⟨w.heap.size + 1 + 1 + 1 + 1, 0, none⟩), .pointer (some ⟨w.heap.size + 1 + 1 + 1, 0, none⟩), .pointer (some ⟨w.heap.size + 1 + 1 + 1 + 1 + 1, 0, none⟩)] (PW s w)
      (PR s w ((PW s w).alloc (.cells #[.int .i64 0] 25)) (w.heap.size + 1 + 1) (w.heap.size + 1 + 1 + 1 + 1)) (parse1_enters _)
      (by
        have up : Below (PW s w).heap.size (PW s w) ((PW s w).alloc (.cells #[.int .i64 0] 25)) := (Below.refl _ _).alloc (Nat.le_refl _) _
        refine (parse1_calls s w _ (w.heap.size + 1 + 1) (w.heap.size + 1) _ _ _ _ HR.out hbig ((PW_t s w).alloc _) ((PW_b s w).below up) ((PW_p s w).alloc _) ((PW_a s w).alloc _) ((PW_v s w).alloc _) ((PW_low s w).trans (up.mono (PW_low s w).size)) (by omega) (by omega)).mono ?_
        intro e w' h
        exact tried_of (Blk.new _ _ _) h))
    go_enter Tryd.func40, Tryd.ntmps40
    go_wp2_with fail
    refine HG.out.mono ?_
    rintro e w1 ⟨r, w2, ⟨hlow, hkp, hpr⟩, hq, rfl, hb, hap⟩
    have HPV := Lib.hid (hkp.2 _ _ _ _ ((PW_v s w).alloc (.cells #[.int .i64 0] 25)) (.inr (.inl rfl)))
    have hpv2 : Blk w2 (w.heap.size + 1 + 1 + 1) 40 #[.pointer (some ⟨w.heap.size + 1 + 1, 0, none⟩)] := HPV.out.trans ((PW_v s w).alloc (.cells #[.int .i64 0] 25))
    have hsz := PW_size s w
    have HPV1 := Lib.hid (hpv2.below hb (by omega)); clear hpv2 HPV
    have HLOW := Lib.hid (hlow.trans (hb.mono (by omega)))
    clear hmm hmf HG
    cases hp : parse s with
    | error x =>
      obtain ⟨er, ln⟩ := x
      rw [hp] at hpr
      obtain ⟨rfl, hpa⟩ := hpr
      have hpa1 := hpa.below hb (by omega)
      have ca : w1.cell? ⟨w.heap.size + 1 + 1 + 1 + 1, 0, none⟩ = some (.int .i64 (ln : Int)) := hpa1.cell 0
      have hne : (er != 0) = true := by
        have := parse_er hp
        rw [bne_iff_ne]
        dsimp only at this
        omega
      have HP := Lib.hid hp; clear hp
      clear hpa hpa1 hb hap hq hkp hlow hsz hbig
      rw [show (some er).getD 0 = er from rfl]
      go_upto_region 8 with (fail)
      clear hne
      have ca2 : w1.drew.cell? ⟨w.heap.size + 1 + 1 + 1 + 1, 0, none⟩ = some (.int .i64 (ln : Int)) := ca
      clear ca
      have HLOW2 := Lib.hid HLOW.out.drew
      go_region
      generalize w1.drew = w3 at ca2 HLOW2 ⊢
      clear ca2
      go_wp2_with fail
      go_ret3
      exact PParsed.err HLOW2.out HP.out
    | ok L =>
      rw [hp] at hpr
      obtain ⟨rfl, hpt⟩ := hpr
      have HPT := Lib.hid (hpt.apart hq hap)
      have cv : w1.cell? ⟨w.heap.size + 1 + 1 + 1, 0, none⟩ = some (.pointer (some ⟨w.heap.size + 1 + 1, 0, none⟩)) := HPV1.out.cell 0
      have HP := Lib.hid hp; clear hp
      clear hpt hb hap hq hkp hlow hsz hbig
      rw [show (none : Option Int).getD 0 = 0 from rfl]
      go_wp2_with fail
      go_ret3
      exact PParsed.ok HLOW.out HP.out (by omega) HPT.out
end Go.Proofs.YtlenlldiimohjaaDoor
