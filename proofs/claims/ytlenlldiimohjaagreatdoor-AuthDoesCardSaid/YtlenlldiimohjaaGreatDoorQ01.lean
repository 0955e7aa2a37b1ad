/-
  B0: what AuthDoes needs of them.
-/
import Derived.Below
import Derived.Laws.OwnMore
import Derived.Deep.AppendLies
import Derived.Deep.Draws
import Derived.Laws.Rows
import Derived.Maps.AppendAt
import Derived.RegionTactic
import Derived.OwnWalk
import Derived.WalkKit
import Derived.Lib.Hide
import Derived.Laws.Strings
import Derived.Laws.RangeAny
import Derived.Lib.DecodeN
import Derived.Lib.TrimU
import Derived.Test.YtlenlldiimohjaaGreatDoorRows
import Derived.Deep.QuietTactic
import Derived.BigQuiet
import Derived.Lib.OwnKind
import Derived.Lib.SplitLaws
import Derived.Maps.OwnSet
import Derived.Maps.Views
import Derived.DeepKeys4
import Derived.Laws.BitsAllLaws
namespace Go.Proofs.YtlenlldiimohjaaGreatDoor
open Go.RowKit

theorem block_of_add (a : Addr) (n : Nat) : (a.add n).block = a.block := by unfold Addr.add; split <;> rfl
theorem add_of_add (a : Addr) (i j : Nat) : (a.add i).add j = a.add (i + j) := by
  unfold Addr.add
  by_cases hi : i = 0 <;> by_cases hj : j = 0 <;> simp [hi, hj, Nat.add_assoc]

def Reads (w : World) (B size : Nat) (A : Option Addr) (n : Nat) (xs : List Value) : Prop :=
  xs.length = n * size ∧ (0 < n → ∃ ad, A = some ad ∧ ad.block < B ∧ ∀ j u, xs[j]? = some u → w.cell? (ad.add j) = some u)

section
variable {w w' : World} {B B' size n : Nat} {A : Option Addr} {xs : List Value}
theorem Reads.none_ : Reads w B size A 0 [] := ⟨by simp, fun h => absurd h (by omega)⟩
theorem Reads.at_ {k : Nat} (h : Reads w B 1 A n xs) (hk : k < n) : ∃ ad u, A = some ad ∧ ad.block < B ∧ xs[k]? = some u ∧ w.cell? (ad.add k) = some u := by
  obtain ⟨ad, e, hb, hc⟩ := h.2 (by omega)
  have hl : k < xs.length := by have := h.1; omega
  exact ⟨ad, xs[k], e, hb, List.getElem?_eq_getElem hl, hc k _ (List.getElem?_eq_getElem hl)⟩
theorem Reads.keep (h : Reads w B size A n xs) (hk : ∀ p : Addr, p.block < B → w'.cell? p = w.cell? p) : Reads w' B size A n xs :=
  ⟨h.1, fun hn => by
    obtain ⟨ad, e, hb, hc⟩ := h.2 hn
    exact ⟨ad, e, hb, fun j u hu => (hk _ (by rw [block_of_add]; exact hb)).trans (hc j u hu)⟩⟩
theorem Reads.more (h : Reads w B size A n xs) (hB : B ≤ B') : Reads w B' size A n xs :=
  ⟨h.1, fun hn => by
    obtain ⟨ad, e, hb, hc⟩ := h.2 hn
    exact ⟨ad, e, by omega, hc⟩⟩
theorem Reads.below (h : Reads w B size A n xs) (hb : Below B w w') : Reads w' B size A n xs := h.keep fun _ hp => hb.cell hp
theorem Reads.drew (h : Reads w B size A n xs) : Reads w.drew B size A n xs := h
theorem Reads.drewN (h : Reads w B size A n xs) (k : Nat) : Reads (w.drewN k) B size A n xs := h
theorem Reads.alloc (h : Reads w B size A n xs) (hB : B ≤ w.heap.size) (o : Obj) : Reads (w.alloc o) B size A n xs := h.keep fun p hp => World.cell?_alloc_lt w o p (by omega)
theorem Reads.setCell (h : Reads w B size A n xs) {p : Addr} (hB : B ≤ p.block) (u : Value) : Reads (w.setCell p u) B size A n xs :=
  h.keep fun q hq => World.cell?_setCell_other w p q u (fun e => by subst e; omega)
theorem Reads.grown (h : Reads w B size A n xs) {row : Option Nat} (hg : w.grownBy w' row) (hB : B ≤ w.heap.size) (hr : ∀ g, row = some g → B ≤ g) : Reads w' B size A n xs :=
  h.keep fun p hp => World.cell?_of_block (hg.block p.block (by omega) (fun e => by have := hr _ e.symm; omega))
theorem Reads.cut (h : Reads w B size A n xs) {k cap : Nat} (hk : k ≤ n) (hc : n ≤ cap) :
    Reads w B size (if cap = k then A else A.map (·.add (k * size))) (n - k) (xs.drop (k * size)) := by
  refine ⟨by rw [List.length_drop, h.1, Nat.sub_mul], fun hn => ?_⟩
  obtain ⟨ad, rfl, hb, hcell⟩ := h.2 (by omega)
  rw [if_neg (by omega)]
  refine ⟨ad.add (k * size), rfl, by rw [block_of_add]; exact hb, fun j u hu => ?_⟩
  rw [add_of_add]
  exact hcell _ u (by rw [← hu, List.getElem?_drop])
theorem Reads.of_own {base : Nat} {e : TypeId} {c : Nat} (h : w.ownsRow base e size (.slice A n c) n xs) : Reads w w.heap.size size A n xs := by
  refine ⟨h.1, fun hn => ?_⟩
  obtain ⟨g, cap, hv, _, hlt⟩ := h.form hn
  have hA : A = some ⟨g, 0, none⟩ := by injection hv
  subst hA
  exact ⟨_, rfl, hlt, h.cells (g := g) rfl⟩
end

def Blk (w : World) (g : Nat) (t : TypeId) (cs : Array Value) : Prop := w.heap[g]? = some (.cells cs t (0, 0))

section
variable {w w' : World} {g : Nat} {t : TypeId} {cs : Array Value}
theorem Blk.lt (h : Blk w g t cs) : g < w.heap.size := by
  rcases Nat.lt_or_ge g w.heap.size with hlt | hge
  · exact hlt
  · unfold Blk at h; rw [Array.getElem?_eq_none hge] at h; cases h
theorem Blk.cell (h : Blk w g t cs) (i : Nat) : w.cell? ⟨g, i, none⟩ = cs[i]? := cell_of_row w g i cs t (0, 0) h
theorem Blk.frozen (h : Blk w g t cs) (i : Nat) : w.frozen? ⟨g, i, none⟩ = false := by
  unfold Blk at h
  simp [World.frozen?, h]
theorem Blk.new (w : World) (t : TypeId) (cs : Array Value) : Blk (w.alloc (.cells cs t)) w.heap.size t cs := heap_alloc_new w _
theorem Blk.drew (h : Blk w g t cs) : Blk w.drew g t cs := h
theorem Blk.drewN (h : Blk w g t cs) (n : Nat) : Blk (w.drewN n) g t cs := h
theorem Blk.alloc (h : Blk w g t cs) (o : Obj) : Blk (w.alloc o) g t cs := (Below.heap_alloc w o g h.lt).trans h
theorem Blk.set_ (h : Blk w g t cs) (i : Nat) (u : Value) : Blk (w.setCell ⟨g, i, none⟩ u) g t (cs.setIfInBounds i u) := by
  unfold Blk at h ⊢
  simp [World.setCell, Array.getElem?_modify, h]
theorem Blk.far (h : Blk w g t cs) {p : Addr} (hp : g ≠ p.block) (u : Value) : Blk (w.setCell p u) g t cs := (Below.heap_setCell w p u g hp).trans h
theorem Blk.below {B : Nat} (h : Blk w g t cs) (hb : Below B w w') (hg : g < B) : Blk w' g t cs := (hb.block g hg).trans h
theorem Blk.grown {row : Option Nat} (h : Blk w g t cs) (hb : w.grownBy w' row) (hg : some g ≠ row) : Blk w' g t cs := (hb.block g h.lt hg).trans h
theorem Blk.ne_ {g' : Nat} {t' : TypeId} {cs' : Array Value} (h : Blk w g t cs) (h' : Blk w g' t' cs') (hne : t ≠ t') : g ≠ g' := by
  rintro rfl
  unfold Blk at h h'
  rw [h] at h'
  injection h' with h'
  injection h' with _ ht
  exact hne ht
theorem own_blk_ne {base : Nat} {e : TypeId} {size n : Nat} {v : Value} {xs : List Value} (h : w.ownsRow base e size v n xs) (hg : Blk w g t cs) (hne : e ≠ t) : v.ownBlock ≠ some g := by
  rcases h.2 with ⟨rfl, _⟩ | ⟨g', cap, cur, rfl, _, hh, _⟩
  · simp [Value.ownBlock]
  · intro he
    have : g' = g := by simpa [Value.ownBlock] using he
    subst this
    exact Blk.ne_ (t := e) hh hg hne rfl
end

section
variable {P : Program} (w : World)

theorem run_append_of_nil (base : Nat) (t ty e : TypeId) (i : TypeInfo) (size : Nat) (ht : P.underlying t = some (.slice e)) (hi : P.info? e = some i)
    (v : Value) (n : Nat) (xs : List Value) (hown : w.ownsRow base e size v n xs) (c : Nat) : (Builtin.append_ #[t, t] ty #[v, .slice none 0 c]).run P w = .ok v w := by
  rcases hown.2 with ⟨rfl, rfl⟩ | ⟨g, cap, cur, rfl, _, _, hnc, _⟩
  · simp [Builtin.append_, run_underlying ht, sizeOf, typeInfo, hi, Builtin.lenOf, Builtin.firstCells]
  · simp [Builtin.append_, run_underlying ht, sizeOf, typeInfo, hi, Builtin.lenOf, Builtin.firstCells, hnc, storeCells]

theorem run_append_any (base : Nat) (t ty e : TypeId) (i : TypeInfo) (z : Value) (size bytes : Nat) (ht : P.underlying t = some (.slice e)) (hi : P.info? e = some i) (hz : i.zero = some z)
    (hsize : i.size = size) (hby : i.bytes = bytes) (hzs : z.cells.size = size) (hsz : 0 < size)
    (v : Value) (n : Nat) (xs : List Value) (hown : w.ownsRow base e size v n xs)
    (B : Nat) (A : Option Addr) (m c : Nat) (news : List Value) (hr : Reads w B size A m news) (h1 : ∀ u ∈ news, u.oneCell' = true)
    (h63 : n + m ≤ maxLen) (hbytes : (n + m) * bytes ≤ 140737488355328) (hbase : base ≤ w.heap.size) :
    ∃ v' w', (Builtin.append_ #[t, t] ty #[v, .slice A m c]).run P w = .ok v' w' ∧ w'.ownsRow base e size v' (n + m) (xs ++ news) ∧ w.grownBy w' v.ownBlock ∧
      (v'.ownBlock = v.ownBlock ∨ v'.ownBlock = some w.heap.size) := by
  rcases A with _ | ad
  · have hm : m = 0 := by
      rcases Nat.eq_zero_or_pos m with h0 | h0
      · exact h0
      · obtain ⟨ad, h, _⟩ := hr.2 h0
        cases h
    subst hm
    have hn : news = [] := List.eq_nil_of_length_eq_zero (by simpa using hr.1)
    subst hn
    exact ⟨v, w, run_append_of_nil w base t ty e i size ht hi v n xs hown c, by simpa using hown, World.grownBy.refl w _, .inl rfl⟩
  · have hcells : ∀ j u, news[j]? = some u → w.cell? (ad.add j) = some u := by
      intro j u hu
      rcases Nat.eq_zero_or_pos m with h0 | h0
      · subst h0
        have hn : news = [] := List.eq_nil_of_length_eq_zero (by simpa using hr.1)
        subst hn
        simp at hu
      · obtain ⟨ad', h, _, hc⟩ := hr.2 h0
        injection h with h
        subst h
        exact hc j u hu
    obtain ⟨v', w', hrun, h2, h3, _, h5⟩ := run_append_own_at (P := P) w base t ty e i z size bytes ht hi hz hsize hby hzs hsz v n xs hown ad m c news hr.1 hcells h1 h63 hbytes hbase
    exact ⟨v', w', hrun, h2, h3, h5⟩

theorem wp_append_any {o : Oper} {a : Act} {K : Act → World → Prop} {Q : Exit → Act → World → Prop} (s x : Operand) (t : TypeId)
    (ho : o.op = .call { callee := .builtin .append, args := #[s, x], argTypes := #[t, t] })
    (base : Nat) (e : TypeId) (i : TypeInfo) (z : Value) (size bytes : Nat) (ht : P.underlying t = some (.slice e)) (hi : P.info? e = some i) (hz : i.zero = some z)
    (hsize : i.size = size) (hby : i.bytes = bytes) (hzs : z.cells.size = size) (hsz : 0 < size)
    (v : Value) (n : Nat) (xs : List Value) (hs : a.eval s = v) (hown : w.ownsRow base e size v n xs)
    (B : Nat) (A : Option Addr) (m c : Nat) (news : List Value) (hx : a.eval x = .slice A m c) (hr : Reads w B size A m news) (h1 : ∀ u ∈ news, u.oneCell' = true)
    (h63 : n + m ≤ maxLen) (hbytes : (n + m) * bytes ≤ 140737488355328) (hbase : base ≤ w.heap.size)
    (h : ∀ v' w', w'.ownsRow base e size v' (n + m) (xs ++ news) → w.grownBy w' v.ownBlock → (v'.ownBlock = v.ownBlock ∨ v'.ownBlock = some w.heap.size) → K (a.put o.dst v') w') : o.wp P a w K Q := by
  obtain ⟨v', w', hrun, h2, h3, h4⟩ := run_append_any (P := P) w base t o.type e i z size bytes ht hi hz hsize hby hzs hsz v n xs hown B A m c news hr h1 h63 hbytes hbase
  unfold Oper.wp execOp
  simp only [ho, resolve, invoke, builtin, Sem.run_bind, Sem.run_pure, Result.andThen_ok, List.map_toArray, List.map_cons, List.map_nil, hs, hx, hrun]
  exact h v' w' h2 h3 h4

theorem wpList_append_any {ops : Array Oper} {rest : List Oper} {o : Oper} {a : Act} {Q : Exit → Act → World → Prop} (hgd : o.guard = none) (s x : Operand) (t : TypeId)
    (ho : o.op = .call { callee := .builtin .append, args := #[s, x], argTypes := #[t, t] })
    (base : Nat) (e : TypeId) (i : TypeInfo) (z : Value) (size bytes : Nat) (ht : P.underlying t = some (.slice e)) (hi : P.info? e = some i) (hz : i.zero = some z)
    (hsize : i.size = size) (hby : i.bytes = bytes) (hzs : z.cells.size = size) (hsz : 0 < size)
    (v : Value) (n : Nat) (xs : List Value) (hs : a.eval s = v) (hown : w.ownsRow base e size v n xs)
    (B : Nat) (A : Option Addr) (m c : Nat) (news : List Value) (hx : a.eval x = .slice A m c) (hr : Reads w B size A m news) (h1 : ∀ u ∈ news, u.oneCell' = true)
    (h63 : n + m ≤ maxLen) (hbytes : (n + m) * bytes ≤ 140737488355328) (hbase : base ≤ w.heap.size)
    (h : ∀ v' w', w'.ownsRow base e size v' (n + m) (xs ++ news) → w.grownBy w' v.ownBlock → (v'.ownBlock = v.ownBlock ∨ v'.ownBlock = some w.heap.size) → wpList P ops Q rest (a.put o.dst v') w') : wpList P ops Q (o :: rest) a w :=
  wpList_plain hgd fun _ hK => wp_append_any w s x t ho base e i z size bytes ht hi hz hsize hby hzs hsz v n xs hs hown B A m c news hx hr h1 h63 hbytes hbase fun v' w' h2 h3 h4 => hK _ _ (h v' w' h2 h3 h4)

theorem step_append_any {ops : Array Oper} {o : Oper} {a : Act} {K : Act → World → Prop} {Q : Exit → Act → World → Prop} {E : Prop} (hgd : o.guard = none) (s x : Operand) (t : TypeId)
    (ho : o.op = .call { callee := .builtin .append, args := #[s, x], argTypes := #[t, t] })
    (base : Nat) (e : TypeId) (i : TypeInfo) (z : Value) (size bytes : Nat) (ht : P.underlying t = some (.slice e)) (hi : P.info? e = some i) (hz : i.zero = some z)
    (hsize : i.size = size) (hby : i.bytes = bytes) (hzs : z.cells.size = size) (hsz : 0 < size)
    (v : Value) (n : Nat) (xs : List Value) (hs : a.eval s = v) (hown : w.ownsRow base e size v n xs)
    (B : Nat) (A : Option Addr) (m c : Nat) (news : List Value) (hx : a.eval x = .slice A m c) (hr : Reads w B size A m news) (h1 : ∀ u ∈ news, u.oneCell' = true)
    (h63 : n + m ≤ maxLen) (hbytes : (n + m) * bytes ≤ 140737488355328) (hbase : base ≤ w.heap.size)
    (h : ∀ v' w', w'.ownsRow base e size v' (n + m) (xs ++ news) → w.grownBy w' v.ownBlock → (v'.ownBlock = v.ownBlock ∨ v'.ownBlock = some w.heap.size) → K (a.put o.dst v') w') :
    if Region.wanted o (yielded ops a.tmps) = true then Oper.wp P o a w K Q else E := by
  have hw : Region.wanted o (yielded ops a.tmps) = true := by simp [Region.wanted, hgd]
  rw [if_pos hw]
  exact wp_append_any w s x t ho base e i z size bytes ht hi hz hsize hby hzs hsz v n xs hs hown B A m c news hx hr h1 h63 hbytes hbase h
end

end Go.Proofs.YtlenlldiimohjaaGreatDoor

namespace Go.Proofs.YtlenlldiimohjaaGreatDoor
open Go.RowKit

/-- The slice address A leads to n elements of size cells of the type e, which read xs. -/
def Row (w : World) (e size : Nat) (A : Option Addr) (n : Nat) (xs : List Value) : Prop :=
  xs.length = n * size ∧ (0 < n → ∃ g o cur fr, A = some ⟨g, o, none⟩ ∧ w.heap[g]? = some (Obj.cells cur e fr) ∧ ∀ j u, xs[j]? = some u → cur[o + j]? = some u)

section
variable {w w' : World} {e size n : Nat} {A : Option Addr} {xs : List Value}

theorem Row.none_ : Row w e size A 0 [] := ⟨by simp, fun h => absurd h (by omega)⟩

theorem Row.keep (h : Row w e size A n xs) (hk : ∀ (g : Nat) cur fr, w.heap[g]? = some (Obj.cells cur e fr) → w'.heap[g]? = w.heap[g]?) : Row w' e size A n xs :=
  ⟨h.1, fun hn => by
    obtain ⟨g, o, cur, fr, hA, hg, hc⟩ := h.2 hn
    exact ⟨g, o, cur, fr, hA, (hk g cur fr hg).trans hg, hc⟩⟩

theorem heap_lt {g : Nat} {x : Obj} (h : w.heap[g]? = some x) : g < w.heap.size := by
  rcases Nat.lt_or_ge g w.heap.size with hlt | hge
  · exact hlt
  · rw [Array.getElem?_eq_none hge] at h; cases h

theorem Row.below {B : Nat} (h : Row w e size A n xs) (hb : Below B w w') (hB : w.heap.size ≤ B) : Row w' e size A n xs :=
  h.keep fun g _ _ hg => hb.block g (by have := heap_lt hg; omega)
theorem Row.drew (h : Row w e size A n xs) : Row w.drew e size A n xs := h
theorem Row.drewN (h : Row w e size A n xs) (k : Nat) : Row (w.drewN k) e size A n xs := h
theorem Row.alloc (h : Row w e size A n xs) (x : Obj) : Row (w.alloc x) e size A n xs :=
  h.keep fun g _ _ hg => Below.heap_alloc w x g (heap_lt hg)
theorem Row.setCell {t : TypeId} {p : Addr} {cs : Array Value} {fr' : Nat × Nat} (h : Row w e size A n xs) (hp : w.heap[p.block]? = some (Obj.cells cs t fr')) (hne : t ≠ e) (u : Value) : Row (w.setCell p u) e size A n xs :=
  h.keep fun g cur fr hg => Below.heap_setCell w p u g (by
    rintro rfl
    rw [hp] at hg
    injection hg with hg
    injection hg with _ ht
    exact hne ht)
theorem Row.grown {row : Option Nat} (h : Row w e size A n xs) (hg : w.grownBy w' row) (hr : ∀ (g : Nat), row = some g → ∀ cur fr, w.heap[g]? ≠ some (Obj.cells cur e fr)) : Row w' e size A n xs :=
  h.keep fun g cur fr hc => hg.block g (heap_lt hc) (fun he => hr g he.symm cur fr hc)
theorem Row.cell {g o : Nat} (h : Row w e size (some ⟨g, o, none⟩) n xs) {j : Nat} {u : Value} (hj : xs[j]? = some u) : w.cell? ⟨g, o + j, none⟩ = some u := by
  have hn : 0 < n := by
    rcases Nat.eq_zero_or_pos n with h0 | h0
    · have := h.1
      rw [h0, Nat.zero_mul] at this
      rw [List.eq_nil_of_length_eq_zero this] at hj
      simp at hj
    · exact h0
  obtain ⟨g', o', cur, fr, hA, hg, hc⟩ := h.2 hn
  obtain ⟨rfl, rfl⟩ : g = g' ∧ o = o' := by
    injection hA with hA
    injection hA with h1 h2
    exact ⟨h1, h2⟩
  unfold World.cell?
  rw [hg]
  exact hc j u hj
theorem Row.form (h : Row w e size A n xs) (hn : 0 < n) : ∃ g o, A = some ⟨g, o, none⟩ ∧ g < w.heap.size := by
  obtain ⟨g, o, cur, fr, hA, hg, _⟩ := h.2 hn
  exact ⟨g, o, hA, heap_lt hg⟩
theorem Row.reads (h : Row w e size A n xs) : Reads w w.heap.size size A n xs := by
  refine ⟨h.1, fun hn => ?_⟩
  obtain ⟨g, o, rfl, hlt⟩ := h.form hn
  refine ⟨_, rfl, hlt, fun j u hu => ?_⟩
  rw [Addr.add_lit]
  exact h.cell hu
theorem Row.of_own {base c : Nat} (h : w.ownsRow base e size (.slice A n c) n xs) : Row w e size A n xs := by
  refine ⟨h.1, fun hn => ?_⟩
  rcases h.2 with ⟨_, h0⟩ | ⟨g, cap, cur, hv, _, hg, _, _, hs, ht⟩
  · omega
  · injection hv with hA
    refine ⟨g, 0, cur, (0, 0), hA, hg, fun j u hu => ?_⟩
    rw [← ht] at hu
    have hj := (List.getElem?_eq_some_iff.1 hu).1
    rw [List.getElem?_take_of_lt (by simp at hj; omega)] at hu
    rw [Nat.zero_add]
    simpa using hu
theorem Row.new (w : World) (e size n : Nat) (cs : Array Value) (fr : Nat × Nat) (xs : List Value) (hx : xs.length = n * size) (hc : ∀ (j : Nat) u, xs[j]? = some u → cs[j]? = some u) :
    Row (w.alloc (.cells cs e fr)) e size (some ⟨w.heap.size, 0, none⟩) n xs :=
  ⟨hx, fun _ => ⟨_, 0, cs, fr, rfl, heap_alloc_new w _, fun j u hu => by rw [Nat.zero_add]; exact hc j u hu⟩⟩
theorem Row.front {k : Nat} (h : Row w e size A n xs) (hk : k ≤ n) : Row w e size A k (xs.take (k * size)) := by
  refine ⟨?_, fun hk0 => ?_⟩
  · rw [List.length_take, h.1]
    exact Nat.min_eq_left (Nat.mul_le_mul_right _ hk)
  · obtain ⟨g, o, cur, fr, hA, hg, hc⟩ := h.2 (by omega)
    refine ⟨g, o, cur, fr, hA, hg, fun j u hu => hc j u ?_⟩
    have hj := (List.getElem?_eq_some_iff.1 hu).1
    rwa [List.getElem?_take_of_lt (by simp at hj; omega)] at hu
end
end Go.Proofs.YtlenlldiimohjaaGreatDoor

namespace Go.Proofs.YtlenlldiimohjaaGreatDoor

/-- An account. -/
structure Acct where
  name : ByteArray
  leader : ByteArray
  members : List ByteArray
  key : ByteArray

theorem beq_str (a b : ByteArray) : (a.toList == b.toList) = decide (a = b) := by
  rw [Bool.eq_iff_iff, beq_iff_eq, decide_eq_true_iff, ByteArray.toList_eq, ByteArray.toList_eq]
  constructor
  · intro h
    apply ByteArray.ext
    exact Array.toList_inj.1 h
  · rintro rfl; rfl
theorem beq_str_t {a b : ByteArray} (h : a = b) : (a.toList == b.toList) = true := by rw [beq_str]; exact decide_eq_true h
theorem beq_str_f {a b : ByteArray} (h : ¬ a = b) : (a.toList == b.toList) = false := by rw [beq_str]; exact decide_eq_false h

def ofL (l : List UInt8) : ByteArray := ⟨l.toArray⟩
theorem ofL_toList (s : ByteArray) : ofL s.data.toList = s := by apply ByteArray.ext; simp [ofL]

/-! ### cutting at a byte -/
def cutL (c : UInt8) : List UInt8 → List (List UInt8)
  | [] => [[]]
  | b :: l => if b = c then [] :: cutL c l else match cutL c l with | [] => [[b]] | h :: t => (b :: h) :: t

theorem cutL_none (c : UInt8) : ∀ (l : List UInt8), (∀ x ∈ l, x ≠ c) → cutL c l = [l]
  | [], _ => rfl
  | b :: l, h => by
    rw [cutL, if_neg (h b List.mem_cons_self), cutL_none c l (fun x hx => h x (List.mem_cons_of_mem _ hx))]
theorem cutL_hit (c : UInt8) (rest : List UInt8) : ∀ (l : List UInt8), (∀ x ∈ l, x ≠ c) → cutL c (l ++ c :: rest) = l :: cutL c rest
  | [], _ => by rw [List.nil_append, cutL, if_pos rfl]
  | b :: l, h => by
    rw [List.cons_append, cutL, if_neg (h b List.mem_cons_self), cutL_hit c rest l (fun x hx => h x (List.mem_cons_of_mem _ hx))]

def cut (c : UInt8) (s : ByteArray) : List ByteArray := (cutL c s.data.toList).map ofL

/-! ### characters -/
/-- From place pos on: are all pieces good (by so many pieces)? -/
def goodFrom (s : ByteArray) : Nat → Nat → Bool
  | 0, _ => true
  | f + 1, pos => if pos < s.size then (if (Utf8.decode s pos).1 = 0 ∨ ((Utf8.decode s pos).1 = 65533 ∧ (Utf8.decode s pos).2 = 1) then false else goodFrom s f (pos + (Utf8.decode s pos).2)) else true
def good (s : ByteArray) : Bool := goodFrom s s.size 0

def byteOk (c : UInt8) : Bool := !(decide (c.toNat < 33) || decide (c.toNat = 127) || decide (c.toNat = 58) || decide (c.toNat = 44) || decide (c.toNat = 35) || decide (c.toNat = 47))
def isName (s : ByteArray) : Bool := decide (1 ≤ s.size) && decide (s.size ≤ 32) && good s && s.data.toList.all byteOk
def keyByte (c : UInt8) : Bool := !(decide (c.toNat < 33) || decide (126 < c.toNat) || decide (c.toNat = 58))
def isKey (s : ByteArray) : Bool := decide (s.size ≤ 32) && s.data.toList.all keyByte

def formed (a : Acct) : Bool := isName a.name && (decide (a.leader.size = 0) || isName a.leader) && a.members.all isName && isKey a.key

/-- A line as an account; none: it is none. -/
def account (line : ByteArray) : Option Acct :=
  match cut 58 line with
  | [a, b, c, d] =>
    let x : Acct := { name := a, leader := b, members := if c.size = 0 then [] else cut 44 c, key := d }
    if formed x then some x else none
  | _ => none

def has (l : List ByteArray) (s : ByteArray) : Bool := l.any (fun y => decide (y = s))
/-- Does one of l from place i on stand ahead of itself? -/
def twiceFrom (all : List ByteArray) : List ByteArray → Nat → Bool
  | [], _ => false
  | x :: l, i => has (all.take i) x || twiceFrom all l (i + 1)
def twice (l : List ByteArray) : Bool := twiceFrom l l 0
def findIx (L : List Acct) (s : ByteArray) : Option Nat := L.findIdx? (fun a => decide (a.name = s))
def known (L : List Acct) (s : ByteArray) : Bool := L.any (fun a => decide (a.name = s))
def knows (L : List Acct) (a : Acct) : Bool := (decide (a.leader.size = 0) || known L a.leader) && a.members.all (known L)

def joinL (sep : List UInt8) : List ByteArray → List UInt8
  | [] => []
  | [x] => x.data.toList
  | x :: y :: l => x.data.toList ++ sep ++ joinL sep (y :: l)
def lineL (a : Acct) : List UInt8 := a.name.data.toList ++ [58] ++ a.leader.data.toList ++ [58] ++ joinL [44] a.members ++ [58] ++ a.key.data.toList ++ [10]
def textL (L : List Acct) : List UInt8 := L.flatMap lineL

/-- The lines, one by one: the accounts and their lines' numbers; or the error and the line. -/
def readLines : List ByteArray → Nat → List Acct → List Nat → Except (Int × Nat) (List Acct × List Nat)
  | [], _, L, P => .ok (L, P)
  | l :: rest, i, L, P =>
    if l.size = 0 ∨ l.data.toList.head? = some 35 then readLines rest (i + 1) L P
    else match account l with
      | none => .error (60, i + 1)
      | some a => if known L a.name ∨ twice a.members then .error (61, i + 1) else readLines rest (i + 1) (L ++ [a]) (P ++ [i + 1])

/-- The first account that names somebody who is none. -/
def checkNames (all : List Acct) : List Acct → List Nat → Option Nat
  | a :: L, p :: P => if knows all a then checkNames all L P else some p
  | _, _ => none

def parse (text : ByteArray) : Except (Int × Nat) (List Acct) :=
  if 65536 < text.size then .error (1, 0)
  else match readLines (cut 10 text) 0 [] [] with
    | .error e => .error e
    | .ok (L, P) => match checkNames L L P with
      | some p => .error (62, p)
      | none => if 65536 < (textL L).length then .error (1, 0) else .ok L

/-! ### what a table tells -/
def isMember (L : List Acct) (u g : ByteArray) : Bool := L.any (fun a => decide (a.name = g) && (decide (u = g) || has a.members u))
def leads (L : List Acct) (u g : ByteArray) : Bool :=
  match L.find? (fun a => decide (a.name = g)) with
  | none => false
  | some a => known L u && (if a.leader.size = 0 then isMember L u g else decide (a.leader = u))
def keyOfUser (L : List Acct) (u : ByteArray) : ByteArray := match L.find? (fun a => decide (a.name = u)) with | none => ⟨#[]⟩ | some a => a.key
end Go.Proofs.YtlenlldiimohjaaGreatDoor

namespace Go.Proofs.YtlenlldiimohjaaGreatDoor

theorem joinL_snoc (sep : List UInt8) : ∀ (l : List ByteArray) (x : ByteArray), joinL sep (l ++ [x]) = (if l.length = 0 then x.data.toList else joinL sep l ++ sep ++ x.data.toList)
  | [], x => rfl
  | [y], x => rfl
  | y :: z :: l, x => by
    rw [List.cons_append, List.cons_append, joinL, ← List.cons_append, joinL_snoc sep (z :: l) x]
    simp [joinL, List.append_assoc]
theorem joinL_take (sep : List UInt8) : ∀ (l : List ByteArray) (k : Nat), (joinL sep (l.take k)).length ≤ (joinL sep l).length
  | [], k => by simp
  | [y], k => by cases k <;> simp [joinL]
  | y :: z :: l, 0 => by simp [joinL]
  | y :: z :: l, 1 => by simp [joinL]
  | y :: z :: l, k + 2 => by
    have := joinL_take sep (z :: l) (k + 1)
    simp only [List.take_succ_cons, joinL, List.length_append] at this ⊢
    omega
theorem lineL_len (a : Acct) : (lineL a).length = a.name.size + a.leader.size + (joinL [44] a.members).length + a.key.size + 4 := by
  unfold lineL
  simp
  omega
theorem joinL_get (sep : List UInt8) (l : List ByteArray) (k : Nat) (x : ByteArray) (h : l[k]? = some x) : (joinL sep (l.take k)).length + x.size ≤ (joinL sep l).length := by
  have h1 := joinL_take sep l (k + 1)
  obtain ⟨hl, rfl⟩ := List.getElem?_eq_some_iff.1 h
  rw [List.take_succ_eq_append_getElem hl, joinL_snoc] at h1
  split at h1
  · rename_i h0
    rw [List.length_eq_zero_iff.1 h0]
    simpa [joinL] using h1
  · simp at h1 ⊢
    omega
theorem ofL_size (l : List UInt8) : (ofL l).size = l.length := by simp [ofL, ByteArray.size]

theorem cutL_ne (c : UInt8) : ∀ l, cutL c l ≠ []
  | [] => by simp [cutL]
  | b :: l => by
    unfold cutL
    split
    · simp
    · split <;> simp
theorem joinL_cons (sep : List UInt8) (x : ByteArray) (l : List ByteArray) (h : l ≠ []) : joinL sep (x :: l) = x.data.toList ++ sep ++ joinL sep l := by
  cases l with
  | nil => exact absurd rfl h
  | cons y l => rfl
theorem joinL_cutL (c : UInt8) : ∀ l, joinL [c] ((cutL c l).map ofL) = l
  | [] => by simp [cutL, joinL, ofL]
  | b :: l => by
    have ih := joinL_cutL c l
    have hne := cutL_ne c l
    unfold cutL
    split
    · rename_i hb
      rw [List.map_cons, joinL_cons _ _ _ (by simpa using hne), ih, hb]
      simp [ofL]
    · split
      · rename_i h0
        exact absurd h0 hne
      · rename_i h t he
        rw [he] at ih
        rw [List.map_cons] at ih ⊢
        cases t with
        | nil => simp [joinL, ofL] at ih ⊢; exact ih
        | cons z t =>
          rw [List.map_cons, joinL, ← List.map_cons] at ih ⊢
          simp [ofL] at ih ⊢
          exact ih
theorem joinL_cut (c : UInt8) (s : ByteArray) : joinL [c] (cut c s) = s.data.toList := joinL_cutL c _

/-- A line that is an account is that account's line. -/
theorem lineL_account {line : ByteArray} {a : Acct} (h : account line = some a) : lineL a = line.data.toList ++ [10] := by
  unfold account at h
  split at h
  · rename_i x y z k he
    dsimp only at h
    generalize hA : ({ name := x, leader := y, members := if z.size = 0 then [] else cut 44 z, key := k } : Acct) = A at h
    by_cases hF : formed A = true
    · rw [if_pos hF] at h
      injection h with h
      subst h
      subst hA
      have hj := joinL_cut 58 line
      rw [he] at hj
      have hm : joinL [44] (if z.size = 0 then [] else cut 44 z) = z.data.toList := by
        split
        · rename_i h0
          have h0' : z.data.toList = [] := by rw [← List.length_eq_zero_iff]; simpa using h0
          rw [h0']
          rfl
        · exact joinL_cut 44 z
      unfold lineL
      rw [hm, ← hj]
      simp [joinL, List.append_assoc]
    · rw [if_neg hF] at h
      cases h
  · cases h
theorem lineL_account_len {line : ByteArray} {a : Acct} (h : account line = some a) : (lineL a).length = line.size + 1 := by
  rw [lineL_account h]; simp
theorem textL_take_succ {L : List Acct} {k : Nat} {a : Acct} (h : L[k]? = some a) : textL (L.take (k + 1)) = textL (L.take k) ++ lineL a := by
  obtain ⟨hl, rfl⟩ := List.getElem?_eq_some_iff.1 h
  unfold textL
  rw [List.take_succ_eq_append_getElem hl, List.flatMap_append]
  simp
theorem textL_take_le (L : List Acct) (k : Nat) : (textL (L.take k)).length ≤ (textL L).length := by
  conv => rhs; rw [← List.take_append_drop k L]
  simp only [textL, List.flatMap_append, List.length_append]
  omega
/-- The lines' bytes, and one for each, are the text's and one. -/
theorem cutL_sum (c : UInt8) : ∀ l : List UInt8, ((cutL c l).map (fun x => x.length + 1)).sum = l.length + 1
  | [] => rfl
  | b :: l => by
    have ih := cutL_sum c l
    unfold cutL
    split
    · simp [ih]; omega
    · split
      · rename_i h0; exact absurd h0 (cutL_ne c l)
      · rename_i h t he
        rw [he] at ih
        simp at ih ⊢
        omega
end Go.Proofs.YtlenlldiimohjaaGreatDoor

namespace Go.Proofs.YtlenlldiimohjaaGreatDoor

def withinB (s : ByteArray) (i : Nat) (lo hi : Nat) : Bool := decide (i < s.size) && (decide (lo ≤ (s.get! i).toNat) && decide ((s.get! i).toNat ≤ hi))

/-- The width of the character at place i; 0: none begins there. -/
def charW (s : ByteArray) (i : Nat) : Nat :=
  if withinB s i 0 127 then 1
  else if withinB s i 194 223 && withinB s (i + 1) 128 191 then 2
  else
    let lo := if withinB s i 224 224 then 160 else 128
    let hi := if withinB s i 237 237 then 159 else 191
    if withinB s i 224 239 && withinB s (i + 1) lo hi && withinB s (i + 2) 128 191 then 3
    else
      let lo := if withinB s i 240 240 then 144 else lo
      let hi := if withinB s i 244 244 then 143 else hi
      if withinB s i 240 244 && withinB s (i + 1) lo hi && withinB s (i + 2) 128 191 && withinB s (i + 3) 128 191 then 4 else 0

def charN (n b0 b1 b2 b3 : Nat) : Nat :=
  if b0 ≤ 127 then 1
  else if (194 ≤ b0 ∧ b0 ≤ 223) ∧ (1 < n ∧ 128 ≤ b1 ∧ b1 ≤ 191) then 2
  else if (224 ≤ b0 ∧ b0 ≤ 239) ∧ (1 < n ∧ (if b0 = 224 then 160 else 128) ≤ b1 ∧ b1 ≤ (if b0 = 237 then 159 else 191)) ∧ (2 < n ∧ 128 ≤ b2 ∧ b2 ≤ 191) then 3
  else if (240 ≤ b0 ∧ b0 ≤ 244) ∧ (1 < n ∧ (if b0 = 240 then 144 else if b0 = 224 then 160 else 128) ≤ b1 ∧ b1 ≤ (if b0 = 244 then 143 else if b0 = 237 then 159 else 191)) ∧ (2 < n ∧ 128 ≤ b2 ∧ b2 ≤ 191) ∧ (3 < n ∧ 128 ≤ b3 ∧ b3 ≤ 191) then 4 else 0

set_option maxHeartbeats 4000000 in
theorem charN_decode (n b0 b1 b2 b3 : Nat) (h0 : b0 < 256) (h1 : b1 < 256) (h2 : b2 < 256) (h3 : b3 < 256) (r k : Nat) (hd : Lib.decodeN n b0 b1 b2 b3 = (r, k)) :
    charN n b0 b1 b2 b3 = if r = 65533 ∧ k = 1 then 0 else k := by
  unfold Lib.decodeN at hd
  repeat' split at hd
  all_goals
    simp only [Prod.mk.injEq] at hd
    obtain ⟨rfl, rfl⟩ := hd
  · rw [if_neg (by omega)]; unfold charN; rw [if_pos (by omega)]
  · rw [if_neg (by omega)]; unfold charN; rw [if_neg (by omega), if_pos (by omega)]
  · rw [if_pos ⟨rfl, rfl⟩]; unfold charN; rw [if_neg (by omega), if_neg (by omega), if_neg (by omega), if_neg (by omega)]
  · rw [if_neg (by omega)]; unfold charN; rw [if_neg (by omega), if_neg (by omega)]
    rw [if_pos (by (repeat' split) <;> omega)]
  · rw [if_pos ⟨rfl, rfl⟩]; unfold charN; rw [if_neg (by omega), if_neg (by omega)]
    rw [if_neg (by (repeat' split) <;> omega), if_neg (by omega)]
  · rw [if_neg (by omega)]; unfold charN; rw [if_neg (by omega), if_neg (by omega), if_neg (by omega)]
    rw [if_pos (by (repeat' split) <;> omega)]
  · rw [if_pos ⟨rfl, rfl⟩]; unfold charN; rw [if_neg (by omega), if_neg (by omega), if_neg (by omega)]
    rw [if_neg (by (repeat' split) <;> omega)]
  · rw [if_pos ⟨rfl, rfl⟩]; unfold charN
    rw [if_neg (by omega), if_neg (by omega), if_neg (by (repeat' split) <;> omega), if_neg (by (repeat' split) <;> omega)]

theorem charW_N (s : ByteArray) (i : Nat) (hi : i < s.size) : charW s i = charN (s.size - i) (s.get! i).toNat (s.get! (i + 1)).toNat (s.get! (i + 2)).toNat (s.get! (i + 3)).toNat := by
  have e1 : decide (i + 1 < s.size) = decide (1 < s.size - i) := by rw [Bool.eq_iff_iff]; simp; omega
  have e2 : decide (i + 2 < s.size) = decide (2 < s.size - i) := by rw [Bool.eq_iff_iff]; simp; omega
  have e3 : decide (i + 3 < s.size) = decide (3 < s.size - i) := by rw [Bool.eq_iff_iff]; simp; omega
  have e0 : decide (i < s.size) = true := decide_eq_true hi
  unfold charW withinB charN
  rw [e0, e1, e2, e3]
  generalize (s.get! i).toNat = b0
  generalize (s.get! (i + 1)).toNat = b1
  generalize (s.get! (i + 2)).toNat = b2
  generalize (s.get! (i + 3)).toNat = b3
  generalize s.size - i = n
  simp only [Bool.true_and, Nat.zero_le, decide_true, Bool.and_eq_true, decide_eq_true_eq]
  have p1 : (224 ≤ b0 ∧ b0 ≤ 224) = (b0 = 224) := propext (by omega)
  have p2 : (237 ≤ b0 ∧ b0 ≤ 237) = (b0 = 237) := propext (by omega)
  have p3 : (240 ≤ b0 ∧ b0 ≤ 240) = (b0 = 240) := propext (by omega)
  have p4 : (244 ≤ b0 ∧ b0 ≤ 244) = (b0 = 244) := propext (by omega)
  simp only [p1, p2, p3, p4, and_assoc]

theorem charW_decode (s : ByteArray) (i : Nat) (hi : i < s.size) : charW s i = if (Utf8.decode s i).1 = 65533 ∧ (Utf8.decode s i).2 = 1 then 0 else (Utf8.decode s i).2 := by
  rw [charW_N s i hi, Lib.decode_at]
  exact charN_decode _ _ _ _ _ (UInt8.toNat_lt _) (UInt8.toNat_lt _) (UInt8.toNat_lt _) (UInt8.toNat_lt _) _ _ rfl

/-- The bytes of a piece: of a low character its own; of a high one all high; and it ends within the text. -/
theorem piece (s : ByteArray) (i : Nat) (hi : i < s.size) (hg : ¬ ((Utf8.decode s i).1 = 65533 ∧ (Utf8.decode s i).2 = 1)) :
    i + (Utf8.decode s i).2 ≤ s.size ∧ ((Utf8.decode s i).1 < 128 → (Utf8.decode s i).2 = 1 ∧ (s.get! i).toNat = (Utf8.decode s i).1) ∧ (128 ≤ (Utf8.decode s i).1 → ∀ j, j < (Utf8.decode s i).2 → 128 ≤ (s.get! (i + j)).toNat) := by
  rw [Lib.decode_at] at hg ⊢
  have h0 := UInt8.toNat_lt (s.get! i)
  have h1 := UInt8.toNat_lt (s.get! (i + 1))
  have h2 := UInt8.toNat_lt (s.get! (i + 2))
  have h3 := UInt8.toNat_lt (s.get! (i + 3))
  generalize hb1 : (s.get! (i + 1)).toNat = b1 at *
  generalize hb2 : (s.get! (i + 2)).toNat = b2 at *
  generalize hb3 : (s.get! (i + 3)).toNat = b3 at *
  generalize hb0 : (s.get! i).toNat = b0 at *
  generalize hd : Lib.decodeN (s.size - i) b0 b1 b2 b3 = d at *
  obtain ⟨r, k⟩ := d
  unfold Lib.decodeN at hd
  repeat' split at hd
  all_goals
    simp only [Prod.mk.injEq] at hd
    obtain ⟨rfl, rfl⟩ := hd
  · exact ⟨by omega, fun _ => ⟨rfl, rfl⟩, fun h => by omega⟩
  · refine ⟨by omega, fun h => by omega, fun _ j hj => ?_⟩
    match j, hj with
    | 0, _ => rw [Nat.add_zero]; omega
    | 1, _ => omega
  · exact absurd ⟨rfl, rfl⟩ hg
  · refine ⟨by omega, fun h => by omega, fun _ j hj => ?_⟩
    match j, hj with
    | 0, _ => rw [Nat.add_zero]; omega
    | 1, _ => omega
    | 2, _ => omega
  · exact absurd ⟨rfl, rfl⟩ hg
  · refine ⟨by omega, fun h => by omega, fun _ j hj => ?_⟩
    match j, hj with
    | 0, _ => rw [Nat.add_zero]; omega
    | 1, _ => omega
    | 2, _ => omega
    | 3, _ => omega
  · exact absurd ⟨rfl, rfl⟩ hg
  · exact absurd ⟨rfl, rfl⟩ hg

theorem zero_decode (s : ByteArray) (i : Nat) (hi : i < s.size) : ((s.get! i).toNat = 0) ↔ (Utf8.decode s i).1 = 0 := by
  by_cases hg : (Utf8.decode s i).1 = 65533 ∧ (Utf8.decode s i).2 = 1
  · rw [hg.1]
    constructor
    · intro h
      have : Utf8.decode s i = (0, 1) := by
        rw [Lib.decode_at, h]
        rfl
      rw [this] at hg
      simp at hg
    · intro h; cases h
  · obtain ⟨_, h1, h2⟩ := piece s i hi hg
    have hw := Lib.width_pos s i
    by_cases hlow : (Utf8.decode s i).1 < 128
    · rw [(h1 hlow).2]
    · have := h2 (by omega) 0 (by omega)
      rw [Nat.add_zero] at this
      constructor <;> omega

/-- The place of the first bad piece; the length: there is none. -/
def badR (s : ByteArray) : Nat → Nat → Nat
  | 0, _ => s.size
  | f + 1, i => if i < s.size then (if charW s i = 0 ∨ (s.get! i).toNat = 0 then i else badR s f (i + charW s i)) else s.size

theorem badR_good (s : ByteArray) : ∀ (f i : Nat), badR s f i = s.size ↔ goodFrom s f i = true
  | 0, i => by simp [badR, goodFrom]
  | f + 1, i => by
    unfold badR goodFrom
    by_cases hi : i < s.size
    · rw [if_pos hi, if_pos hi, charW_decode s i hi]
      simp only [zero_decode s i hi]
      have hw := Lib.width_pos s i
      by_cases hb : (Utf8.decode s i).1 = 65533 ∧ (Utf8.decode s i).2 = 1
      · rw [if_pos hb, if_pos (.inl rfl), if_pos (.inr hb)]
        constructor
        · intro h; omega
        · intro h; cases h
      · rw [if_neg hb]
        by_cases hz : (Utf8.decode s i).1 = 0
        · rw [if_pos (.inr hz), if_pos (.inl hz)]
          constructor
          · intro h; omega
          · intro h; cases h
        · rw [if_neg (by rintro (h | h); omega; exact hz h), if_neg (by rintro (h | h); exact hz h; exact hb h)]
          exact badR_good s f _
    · rw [if_neg hi, if_neg hi]; simp
end Go.Proofs.YtlenlldiimohjaaGreatDoor

namespace Go.Proofs.YtlenlldiimohjaaGreatDoor
open Go.RowKit

theorem ret_int {k : IntKind} {a b : Int} (h : a = b) : Ending.returned (.int k a) = .returned (.int k b) := by rw [h]
theorem ret_bool {a b : Bool} (h : a = b) : Ending.returned (.bool a) = .returned (.bool b) := by rw [h]
theorem ret_str {a b : ByteArray} (h : a = b) : Ending.returned (.string a) = .returned (.string b) := by rw [h]

theorem quietly {P : Program} {f : FuncId} {args : Array Value} {w : World} {n : Nat} {v : Value}
    (h : Calls P f args (w.drewN n) fun e w' => e = .returned v ∧ w.drewN n = w') : Calls P f args (w.drewN n) fun e w'' => e = .returned v ∧ ∃ m, w'' = w.drewN m :=
  Calls.quiet_of_same (h.mono fun _ _ ⟨h1, h2⟩ => ⟨h1, h2.symm⟩)

/-- w' is w, some draws later. -/
def Drawn (w w' : World) : Prop := ∃ n, w' = w.drewN n
theorem Drawn.refl (w : World) : Drawn w w := ⟨0, rfl⟩
theorem Drawn.next {w w' : World} (h : Drawn w w') (k : Nat) : Drawn w (w'.drewN k) := by obtain ⟨n, rfl⟩ := h; exact ⟨n + k, by rw [World.drewN_drewN]⟩
theorem Drawn.heap {w w' : World} (h : Drawn w w') : w'.heap = w.heap := by obtain ⟨n, rfl⟩ := h; rfl
theorem Drawn.trans {a b c : World} (h : Drawn a b) (k : Drawn b c) : Drawn a c := by obtain ⟨n, rfl⟩ := k; exact h.next n
theorem Drawn.below {w w' : World} (h : Drawn w w') (B : Nat) : Below B w w' := by
  obtain ⟨n, rfl⟩ := h
  exact ⟨rfl, rfl, rfl, Nat.le_refl _, fun _ _ => rfl⟩

/-- The slice value v reads as the texts l. -/
def Strs (w : World) (v : Value) (l : List ByteArray) : Prop :=
  ∃ A c, v = .slice A l.length c ∧ l.length ≤ c ∧ c ≤ maxLen ∧ Row w 9 1 A l.length (l.map Value.string)

section
variable {w w' : World} {v : Value} {l : List ByteArray}
theorem Strs.nil_ (w : World) : Strs w (.slice none 0 0) [] := ⟨none, 0, rfl, Nat.le_refl _, Nat.zero_le _, Row.none_⟩
theorem Strs.below {B : Nat} (h : Strs w v l) (hb : Below B w w') (hB : w.heap.size ≤ B) : Strs w' v l := by
  obtain ⟨A, c, hv, h1, h2, hr⟩ := h; exact ⟨A, c, hv, h1, h2, hr.below hb hB⟩
theorem Strs.alloc (h : Strs w v l) (x : Obj) : Strs (w.alloc x) v l := by
  obtain ⟨A, c, hv, h1, h2, hr⟩ := h; exact ⟨A, c, hv, h1, h2, hr.alloc x⟩
theorem Strs.drawn (h : Strs w v l) (d : Drawn w w') : Strs w' v l := by obtain ⟨n, rfl⟩ := d; exact h
theorem Strs.drewN (h : Strs w v l) (k : Nat) : Strs (w.drewN k) v l := h
theorem Strs.drew (h : Strs w v l) : Strs w.drew v l := h
theorem Strs.keep (h : Strs w v l) (hk : ∀ (g : Nat) cur fr, w.heap[g]? = some (Obj.cells cur 9 fr) → w'.heap[g]? = w.heap[g]?) : Strs w' v l := by
  obtain ⟨A, c, hv, h1, h2, hr⟩ := h; exact ⟨A, c, hv, h1, h2, hr.keep hk⟩
theorem Strs.of_own {base n : Nat} (h : w.ownsRow base 9 1 v n (l.map Value.string)) (hn : n = l.length) : Strs w v l := by
  subst hn
  rcases h.2 with ⟨rfl, h0⟩ | ⟨g, cap, cur, rfl, _, hg, hc, hm, hs, ht⟩
  · have : l = [] := List.eq_nil_of_length_eq_zero h0
    subst this
    exact Strs.nil_ w
  · exact ⟨_, cap, rfl, hc, hm, Row.of_own h⟩
theorem Strs.new (w : World) (cs : Array Value) (fr : Nat × Nat) (l : List ByteArray) (c : Nat) (hc : l.length ≤ c) (hm : c ≤ maxLen) (hx : ∀ (j : Nat) u, (l.map Value.string)[j]? = some u → cs[j]? = some u) :
    Strs (w.alloc (.cells cs 9 fr)) (.slice (some ⟨w.heap.size, 0, none⟩) l.length c) l :=
  ⟨_, c, rfl, hc, hm, Row.new w _ 1 _ cs fr _ (by simp) hx⟩
/-- The cells inside a round. -/
theorem Strs.at_ (h : Strs w v l) {k : Nat} {x : ByteArray} (hk : l[k]? = some x) : ∃ g o c, v = .slice (some ⟨g, o, none⟩) l.length c ∧ l.length ≤ c ∧ w.cell? ⟨g, o + k, none⟩ = some (.string x) := by
  obtain ⟨A, c, rfl, h1, _, hr⟩ := h
  have hl : k < l.length := (List.getElem?_eq_some_iff.1 hk).1
  obtain ⟨g, o, rfl, _⟩ := hr.form (by omega)
  exact ⟨g, o, c, rfl, h1, hr.cell (by rw [List.getElem?_map, hk]; rfl)⟩
/-- The first k of them. -/
theorem Strs.front {A : Option Addr} {n c : Nat} (h : Strs w (.slice A n c) l) {k : Nat} (hk : k ≤ l.length) : Strs w (.slice A k c) (l.take k) := by
  obtain ⟨A', c', hv, h1, h2, hr⟩ := h
  injection hv with e1 e2 e3
  subst e1; subst e3
  have hl : (l.take k).length = k := by rw [List.length_take]; omega
  refine ⟨A, c, by rw [hl], by rw [hl]; omega, h2, ?_⟩
  have := hr.front hk
  rw [hl, List.map_take]
  simpa using this
end

/-- The slice value v reads as the accounts L. -/
def Accts (w : World) (v : Value) (L : List Acct) : Prop :=
  ∃ A c xs, v = .slice A L.length c ∧ L.length ≤ c ∧ c ≤ maxLen ∧ Row w 127 4 A L.length xs ∧
    ∀ (k : Nat) a, L[k]? = some a → ∃ mv, Strs w mv a.members ∧ xs[k * 4]? = some (.string a.name) ∧ xs[k * 4 + 1]? = some (.string a.leader) ∧ xs[k * 4 + 2]? = some mv ∧ xs[k * 4 + 3]? = some (.string a.key)

section
variable {w w' : World} {v : Value} {L : List Acct}
theorem Accts.nil_ (w : World) : Accts w (.slice none 0 0) [] := ⟨none, 0, [], rfl, Nat.le_refl _, Nat.zero_le _, Row.none_, by simp⟩
theorem Accts.below {B : Nat} (h : Accts w v L) (hb : Below B w w') (hB : w.heap.size ≤ B) : Accts w' v L := by
  obtain ⟨A, c, xs, hv, h1, h2, hr, hx⟩ := h
  refine ⟨A, c, xs, hv, h1, h2, hr.below hb hB, fun k a ha => ?_⟩
  obtain ⟨mv, hm, r⟩ := hx k a ha
  exact ⟨mv, hm.below hb hB, r⟩
theorem Accts.alloc (h : Accts w v L) (x : Obj) : Accts (w.alloc x) v L :=
  h.below (((Below.refl _ _).alloc (Nat.le_refl _) x)) (Nat.le_refl _)
theorem Accts.drawn (h : Accts w v L) (d : Drawn w w') : Accts w' v L := by obtain ⟨n, rfl⟩ := d; exact h
theorem Accts.drewN (h : Accts w v L) (k : Nat) : Accts (w.drewN k) v L := h
theorem Accts.drew (h : Accts w v L) : Accts w.drew v L := h
theorem Accts.keep (h : Accts w v L) (hk : ∀ (g : Nat) cur e fr, w.heap[g]? = some (Obj.cells cur e fr) → e = 9 ∨ e = 127 → w'.heap[g]? = w.heap[g]?) : Accts w' v L := by
  obtain ⟨A, c, xs, hv, h1, h2, hr, hx⟩ := h
  refine ⟨A, c, xs, hv, h1, h2, hr.keep (fun g cur fr hg => hk g cur _ fr hg (.inr rfl)), fun k a ha => ?_⟩
  obtain ⟨mv, hm, r⟩ := hx k a ha
  exact ⟨mv, hm.keep (fun g cur fr hg => hk g cur _ fr hg (.inl rfl)), r⟩
theorem Accts.len (h : Accts w v L) : ∃ A c, v = .slice A L.length c ∧ L.length ≤ c ∧ c ≤ maxLen := by
  obtain ⟨A, c, xs, hv, h1, h2, _⟩ := h
  exact ⟨A, c, hv, h1, h2⟩
theorem Accts.at_ (h : Accts w v L) {k : Nat} {a : Acct} (hk : L[k]? = some a) : ∃ g o c mv, v = .slice (some ⟨g, o, none⟩) L.length c ∧ L.length ≤ c ∧ Strs w mv a.members ∧
    w.cell? ⟨g, o + k * 4, none⟩ = some (.string a.name) ∧ w.cell? ⟨g, o + k * 4 + 1, none⟩ = some (.string a.leader) ∧ w.cell? ⟨g, o + k * 4 + 2, none⟩ = some mv ∧ w.cell? ⟨g, o + k * 4 + 3, none⟩ = some (.string a.key) ∧ g < w.heap.size := by
  obtain ⟨A, c, xs, rfl, h1, _, hr, hx⟩ := h
  have hl : k < L.length := (List.getElem?_eq_some_iff.1 hk).1
  obtain ⟨g, o, rfl, hg⟩ := hr.form (by omega)
  obtain ⟨mv, hm, x0, x1, x2, x3⟩ := hx k a hk
  exact ⟨g, o, c, mv, rfl, h1, hm, hr.cell x0, by rw [Nat.add_assoc]; exact hr.cell x1, by rw [Nat.add_assoc]; exact hr.cell x2, by rw [Nat.add_assoc]; exact hr.cell x3, hg⟩
end
end Go.Proofs.YtlenlldiimohjaaGreatDoor

namespace Go.Proofs.YtlenlldiimohjaaGreatDoor
open Go.RowKit

section
variable {w w' : World} {base e size n : Nat} {v : Value} {xs : List Value}
theorem own_below (h : w.ownsRow base e size v n xs) (hb : Below w.heap.size w w') : w'.ownsRow base e size v n xs := by
  refine ⟨h.1, ?_⟩
  rcases h.2 with h0 | ⟨g, cap, cur, hv, hbg, hg, hr⟩
  · exact .inl h0
  · exact .inr ⟨g, cap, cur, hv, hbg, (hb.block g (heap_lt hg)).trans hg, hr⟩
/-- Cells of another type lie in no block of that row. -/
theorem own_apart (h : w.ownsRow base e size v n xs) {g : Nat} {cur : Array Value} {t : TypeId} {fr : Nat × Nat} (hg : w.heap[g]? = some (.cells cur t fr)) (hne : t ≠ e) : some g ≠ v.ownBlock := by
  intro he
  obtain ⟨c, fz, hk⟩ := Go.Lib.ownsRow_kind h g he.symm
  rw [hg] at hk
  injection hk with hk
  injection hk with _ ht
  exact hne ht
theorem own_grown {w : World} {base' e' size' m : Nat} {u : Value} {ys : List Value} (h : w.ownsRow base e size v n xs) (ho : w.ownsRow base' e' size' u m ys) (hg : w.grownBy w' u.ownBlock) (hne : e ≠ e') : w'.ownsRow base e size v n xs := by
  refine ⟨h.1, ?_⟩
  rcases h.2 with h0 | ⟨g, cap, cur, hv, hbg, hgc, hr⟩
  · exact .inl h0
  · exact .inr ⟨g, cap, cur, hv, hbg, (hg.block g (heap_lt hgc) (own_apart ho hgc hne)).trans hgc, hr⟩
theorem Strs.grown {u : Value} {l : List ByteArray} (hs : Strs w u l) (h : w.ownsRow base e size v n xs) (hg : w.grownBy w' v.ownBlock) (hne : 9 ≠ e) : Strs w' u l :=
  hs.keep fun g _ _ hc => hg.block g (heap_lt hc) (own_apart h hc hne)
end

/-- The accounts L in a row of one's own. -/
def OwnAccts (w : World) (base : Nat) (v : Value) (L : List Acct) : Prop :=
  ∃ xs, w.ownsRow base 127 4 v L.length xs ∧
    ∀ (k : Nat) a, L[k]? = some a → ∃ mv, Strs w mv a.members ∧ xs[k * 4]? = some (.string a.name) ∧ xs[k * 4 + 1]? = some (.string a.leader) ∧ xs[k * 4 + 2]? = some mv ∧ xs[k * 4 + 3]? = some (.string a.key)

section
variable {w w' : World} {base : Nat} {v : Value} {L : List Acct}
theorem OwnAccts.nil_ (w : World) (base : Nat) : OwnAccts w base (.slice none 0 0) [] := ⟨[], World.ownsRow_nil _ _ _ _, by simp⟩
theorem OwnAccts.below (h : OwnAccts w base v L) (hb : Below w.heap.size w w') : OwnAccts w' base v L := by
  obtain ⟨xs, ho, hx⟩ := h
  refine ⟨xs, own_below ho hb, fun k a ha => ?_⟩
  obtain ⟨mv, hm, r⟩ := hx k a ha
  exact ⟨mv, hm.below hb (Nat.le_refl _), r⟩
theorem OwnAccts.alloc (h : OwnAccts w base v L) (x : Obj) : OwnAccts (w.alloc x) base v L := h.below ((Below.refl _ _).alloc (Nat.le_refl _) x)
theorem OwnAccts.accts (h : OwnAccts w base v L) : Accts w v L := by
  obtain ⟨xs, ho, hx⟩ := h
  rcases id ho.2 with ⟨rfl, h0⟩ | ⟨g, cap, cur, rfl, _, _, hc, hm, _⟩
  · have : L = [] := List.eq_nil_of_length_eq_zero h0
    subst this
    exact Accts.nil_ w
  · exact ⟨_, cap, xs, rfl, hc, hm, Row.of_own ho, hx⟩
/-- Another own row of another type is grown. -/
theorem OwnAccts.grown {e size n base' : Nat} {u : Value} {ys : List Value} (h : OwnAccts w base v L) (ho : w.ownsRow base' e size u n ys) (hg : w.grownBy w' u.ownBlock) (h1 : 9 ≠ e) (h2 : 127 ≠ e) : OwnAccts w' base v L := by
  obtain ⟨xs, hox, hx⟩ := h
  refine ⟨xs, ?_, fun k a ha => ?_⟩
  · refine ⟨hox.1, ?_⟩
    rcases hox.2 with h0 | ⟨g, cap, cur, hv, hbg, hgc, hr⟩
    · exact .inl h0
    · exact .inr ⟨g, cap, cur, hv, hbg, (hg.block g (heap_lt hgc) (own_apart ho hgc h2)).trans hgc, hr⟩
  · obtain ⟨mv, hm, r⟩ := hx k a ha
    exact ⟨mv, hm.grown ho hg h1, r⟩
/-- One more is appended. -/
theorem OwnAccts.snoc {a : Acct} {mv v' : Value} {xs : List Value} (ho : w.ownsRow base 127 4 v L.length xs) (hg : w.grownBy w' v.ownBlock)
    (hx : ∀ (k : Nat) a, L[k]? = some a → ∃ mv, Strs w mv a.members ∧ xs[k * 4]? = some (.string a.name) ∧ xs[k * 4 + 1]? = some (.string a.leader) ∧ xs[k * 4 + 2]? = some mv ∧ xs[k * 4 + 3]? = some (.string a.key))
    (hm : Strs w mv a.members) (ho' : w'.ownsRow base 127 4 v' (L.length + 1) (xs ++ [.string a.name, .string a.leader, mv, .string a.key])) : OwnAccts w' base v' (L ++ [a]) := by
  have hl : xs.length = L.length * 4 := ho.1
  refine ⟨_, by rw [List.length_append]; exact ho', fun k b hb => ?_⟩
  by_cases hk : k < L.length
  · rw [List.getElem?_append_left hk] at hb
    obtain ⟨mv', hm', x0, x1, x2, x3⟩ := hx k b hb
    refine ⟨mv', hm'.grown ho hg (by decide), ?_, ?_, ?_, ?_⟩
    · rw [List.getElem?_append_left (by omega)]; exact x0
    · rw [List.getElem?_append_left (by omega)]; exact x1
    · rw [List.getElem?_append_left (by omega)]; exact x2
    · rw [List.getElem?_append_left (by omega)]; exact x3
  · rw [List.getElem?_append_right (by omega)] at hb
    have hk2 : k = L.length := by
      have := (List.getElem?_eq_some_iff.1 hb).1
      simp at this
      omega
    subst hk2
    simp at hb
    subst hb
    refine ⟨mv, hm.grown ho hg (by decide), ?_, ?_, ?_, ?_⟩
    · rw [List.getElem?_append_right (by omega), show L.length * 4 - xs.length = 0 from by omega]; rfl
    · rw [List.getElem?_append_right (by omega), show L.length * 4 + 1 - xs.length = 1 from by omega]; rfl
    · rw [List.getElem?_append_right (by omega), show L.length * 4 + 2 - xs.length = 2 from by omega]; rfl
    · rw [List.getElem?_append_right (by omega), show L.length * 4 + 3 - xs.length = 3 from by omega]; rfl
theorem reads_new4 (w : World) (t : TypeId) (a b c d : Value) : Reads (w.alloc (.cells #[a, b, c, d] t)) (w.heap.size + 1) 4 (some ⟨w.heap.size, 0, none⟩) 1 [a, b, c, d] := by
  refine ⟨rfl, fun _ => ⟨_, rfl, Nat.lt_succ_self _, fun j u hu => ?_⟩⟩
  rw [Addr.add_lit, World.cell?_alloc_new]
  simpa using hu
end
end Go.Proofs.YtlenlldiimohjaaGreatDoor

namespace Go.Proofs.YtlenlldiimohjaaGreatDoor

theorem index_parts (c : UInt8) : ∀ l : List UInt8, (Lib.index l [c] = -1 ∧ ∀ x ∈ l, x ≠ c) ∨ (∃ (i : Nat) (p r : List UInt8), Lib.index l [c] = i ∧ l = p ++ c :: r ∧ p.length = i ∧ ∀ x ∈ p, x ≠ c)
  | [] => .inl ⟨rfl, by simp⟩
  | b :: l => by
    by_cases h : b = c
    · subst h
      refine .inr ⟨0, [], l, ?_, rfl, rfl, by simp⟩
      unfold Lib.index
      rw [if_pos (by simp)]
      rfl
    · have hp : ([c] : List UInt8).isPrefixOf (b :: l) = false := by
        show (c == b && List.isPrefixOf [] l) = false
        rw [beq_eq_false_iff_ne.2 (fun he => h he.symm)]
        rfl
      rcases index_parts c l with ⟨h1, h2⟩ | ⟨i, p, r, h1, h2, h3, h4⟩
      · refine .inl ⟨?_, ?_⟩
        · unfold Lib.index
          rw [hp, h1]
          rfl
        · intro x hx
          rcases List.mem_cons.1 hx with rfl | hx
          · exact h
          · exact h2 x hx
      · refine .inr ⟨i + 1, b :: p, r, ?_, by rw [h2]; rfl, by simp [h3], ?_⟩
        · unfold Lib.index
          rw [hp, h1]
          have : ((i : Int) == -1) = false := by rw [beq_eq_false_iff_ne]; omega
          simp [this]
        · intro x hx
          rcases List.mem_cons.1 hx with rfl | hx
          · exact h
          · exact h4 x hx

theorem splitK_cut (c : UInt8) : ∀ (n : Nat) (l : List UInt8), l.length ≤ n → Lib.splitK [c] 0 (Lib.count l [c]) l = cutL c l
  | n, l, hn => by
    rcases index_parts c l with ⟨h1, h2⟩ | ⟨i, p, r, h1, h2, h3, h4⟩
    · rw [Lib.count_miss h1, cutL_none c l h2]
      rfl
    · have hd : l.drop (i + 1) = r := by rw [h2, List.drop_append, ← h3]; simp
      have ht : l.take i = p := by rw [h2, ← h3]; simp
      rw [Lib.count_hit (by simp) h1, Nat.add_comm, Lib.splitK, if_neg (by rw [h1]; simp), h1, h2, cutL_hit c r p h4, ← h2]
      have e1 : ((i : Int).toNat + [c].length) = i + 1 := by simp
      have e2 : ((i : Int).toNat + 0) = i := by simp
      rw [e1, e2, ht]
      have e3 : i + [c].length = i + 1 := rfl
      rw [e3, hd]
      cases n with
      | zero => rw [h2] at hn; simp at hn
      | succ n => rw [splitK_cut c n r (by rw [h2] at hn; simp at hn; omega)]

theorem splitB_cut (c : UInt8) (s : ByteArray) : Lib.splitB ⟨#[c]⟩ 0 (Lib.countB s ⟨#[c]⟩) s = cut c s := by
  have h := Lib.splitB_data ⟨#[c]⟩ 0 (Lib.countB s ⟨#[c]⟩) s
  have h2 := splitK_cut c _ s.data.toList (Nat.le_refl _)
  have h3 : (Lib.splitB ⟨#[c]⟩ 0 (Lib.countB s ⟨#[c]⟩) s).map (·.data.toList) = cutL c s.data.toList := h.trans h2
  unfold cut
  rw [← h3, List.map_map]
  conv => lhs; rw [← List.map_id (Lib.splitB ⟨#[c]⟩ 0 (Lib.countB s ⟨#[c]⟩) s)]
  exact List.map_congr_left fun x _ => (ofL_toList x).symm
end Go.Proofs.YtlenlldiimohjaaGreatDoor

namespace Go.Proofs.YtlenlldiimohjaaGreatDoor
open Go.RowKit Go.Maps

theorem skey : Keyed Tryz.prog 9 := string_keyed Tryz.underlying9
def KS (s : ByteArray) : Lit := .string s.data.toList
theorem KS_inj {s t : ByteArray} (h : KS s = KS t) : s = t := by
  unfold KS at h
  injection h with h
  rw [← ofL_toList s, h, ofL_toList]
theorem KS_lit (s : ByteArray) : WideAt.IsKeyLit (KS s) := trivial

/-- Where the account of that name stands (0: nowhere). -/
def ix (L : List Acct) (s : ByteArray) : Nat := (findIx L s).getD 0

theorem known_snoc (L : List Acct) (a : Acct) (s : ByteArray) : known (L ++ [a]) s = (known L s || decide (a.name = s)) := by
  unfold known; simp
theorem findIx_known {L : List Acct} {s : ByteArray} (h : known L s = false) : findIx L s = none := by
  unfold findIx
  rw [List.findIdx?_eq_none_iff]
  unfold known at h
  rw [List.any_eq_false] at h
  intro x hx
  simpa using h x hx
theorem ix_snoc_new {L : List Acct} {a : Acct} (h : known L a.name = false) : ix (L ++ [a]) a.name = L.length := by
  have := findIx_known h
  unfold ix findIx at *
  rw [List.findIdx?_append, this]
  simp
theorem ix_snoc_other {L : List Acct} {a : Acct} {s : ByteArray} (h : ¬ a.name = s) : ix (L ++ [a]) s = ix L s := by
  unfold ix findIx
  rw [List.findIdx?_append]
  cases hf : L.findIdx? (fun a => decide (a.name = s)) with
  | some i => rfl
  | none => simp [h]

/-- Block b is the map from the names of L to their places. -/
def AtMap (w : World) (b n : Nat) (L : List Acct) : Prop :=
  ∃ D : DataW Unit, w.ownsMap Tryz.prog 9 (plainElem Tryz.prog 3) b n D ∧
    ∀ s : ByteArray, Maps.has D (KS s) = known L s ∧ D.atKey (KS s) (.lit (.int .i64 0)) = .lit (.int .i64 (ix L s : Nat))

theorem AtMap.keep {w w' : World} {b n : Nat} {L : List Acct} (h : AtMap w b n L) (hk : ∀ es ck, w.heap[b]? = some (.map es ck) → w'.heap[b]? = w.heap[b]?) : AtMap w' b n L := by
  obtain ⟨D, ⟨es, ck, hb, r⟩, hx⟩ := h
  exact ⟨D, ⟨es, ck, (hk es ck hb).trans hb, r⟩, hx⟩
theorem AtMap.lt {w : World} {b n : Nat} {L : List Acct} (h : AtMap w b n L) : b < w.heap.size := by
  obtain ⟨D, ⟨es, ck, hb, r⟩, hx⟩ := h
  exact heap_lt hb
theorem AtMap.below {w w' : World} {b n : Nat} {L : List Acct} (h : AtMap w b n L) (hb : Below w.heap.size w w') : AtMap w' b n L :=
  h.keep fun _ _ hc => hb.block b (heap_lt hc)
theorem AtMap.made (w : World) : AtMap (w.alloc (.map #[] 0)) w.heap.size 0 [] :=
  ⟨.map [], World.ownsMap_made _ _ _ _, fun _ => ⟨rfl, rfl⟩⟩

theorem AtMap.look {w : World} {b n : Nat} {L : List Acct} (h : AtMap w b n L) (s : ByteArray) (hs : s.size ≤ maxLen) :
    (Instr.lookup 136 (.map (some b)) (.string s) true).run Tryz.prog w = .ok (.tuple #[.int .i64 (ix L s : Nat), .bool (known L s)]) w := by
  obtain ⟨D, ho, hx⟩ := h
  have hz : (zeroValue 3).run Tryz.prog w = .ok (.int .i64 0) w := by kernel_rfl
  obtain ⟨v, ps, hrun, hv⟩ := ho.look_ok skey Tryz.underlying136 hz (plainElem_int Tryz.underlying3 (by decide)) (Go.WideMaps.keyOf_string_mk Tryz.underlying9 hs)
  obtain ⟨c, rfl, hc, _⟩ := plainElem_int_inv Tryz.underlying3 hv
  have h1 := (hx s).1
  have h2 := (hx s).2
  unfold KS at h1 h2
  have h3 := (congrArg Prod.fst hc).symm.trans h2
  have h4 : Lit.int IntKind.i64 c = Lit.int IntKind.i64 (ix L s : Nat) := DataW.lit.inj h3
  have h5 : c = ((ix L s : Nat) : Int) := (Lit.int.inj h4).2
  rw [hrun, h1, h5]

theorem AtMap.add {w : World} {b n : Nat} {L : List Acct} (h : AtMap w b n L) (a : Acct) (hs : a.name.size ≤ maxLen) (hk : known L a.name = false) (hn : n < maxLen) (hl : L.length ≤ maxLen) :
    ∃ w', (Instr.mapUpdate 136 (.map (some b)) (.string a.name) (.int .i64 (L.length : Nat))).run Tryz.prog w = .ok () w' ∧ AtMap w' b (n + 1) (L ++ [a]) ∧ w.grownBy w' (some b) := by
  obtain ⟨D, ho, hx⟩ := h
  have hwf : (Lit.int .i64 (L.length : Int)).wf = true := by unfold maxLen at hl; exact WalkArith.wf_i64 (by omega)
  obtain ⟨w', hrun, ho', hg⟩ := ho.update skey Tryz.underlying136 hn (Go.WideMaps.keyOf_string_mk Tryz.underlying9 hs) (plainElem_int Tryz.underlying3 hwf)
  refine ⟨w', hrun, ⟨_, ho', fun s => ?_⟩, hg⟩
  have hm : IsMap D := ho.isMap
  by_cases he : a.name = s
  · subst he
    refine ⟨?_, ?_⟩
    · rw [known_snoc, decide_eq_true rfl, Bool.or_true]
      exact has_put_same hm (KS_lit _) _
    · rw [ix_snoc_new hk]
      exact atKey_put_same hm (KS_lit _) _ _
  · have hne : KS s ≠ KS a.name := fun e => he (KS_inj e).symm
    refine ⟨?_, ?_⟩
    · rw [known_snoc, decide_eq_false he, Bool.or_false, ← (hx s).1]
      exact has_put_other hne _
    · rw [ix_snoc_other he, ← (hx s).2]
      exact atKey_put_other hne _ _
end Go.Proofs.YtlenlldiimohjaaGreatDoor

namespace Go.Proofs.YtlenlldiimohjaaGreatDoor
open Go.RowKit Go.Maps Go.WideMaps

theorem plaidOut : laidOutB Tryz.prog = true := by kernel_rfl
theorem prow : (187 : TypeId) < Tryz.prog.types.size := of_decide_eq_true (by kernel_rfl)
theorem pdeep : Tryz.prog.keyTypeAt 2 187 = true := by kernel_rfl
theorem plaw : KeyLaw Tryz.prog 187 := deep_law_laid plaidOut (m := 2) (by omega) prow pdeep (by rw [Tryz.underlying187])
theorem pkeyed : Keyed Tryz.prog 187 := Keyed.of_law plaw
theorem pcells : Tryz.prog.cellsOf 187 = 2 := by kernel_rfl
theorem pcell1 : Tryz.prog.cellsOf 9 = 1 := by kernel_rfl
theorem pkeyType : Tryz.prog.keyType 187 = true := by kernel_rfl
theorem ptypes : ∃ m, Tryz.prog.types.size = m + 1 := ⟨Tryz.prog.types.size - 1, by kernel_rfl⟩

/-- The key (u, g). -/
def PK (u g : ByteArray) : Lit := .string (keyBytes [.string u.data.toList, .string g.data.toList])

theorem pkey {u g : ByteArray} (hu : u.size ≤ maxLen) (hg : g.size ≤ maxLen) : keyOf Tryz.prog 187 (.agg #[.string u, .string g]) = some (PK u g) := by
  obtain ⟨m, hm⟩ := ptypes
  unfold keyOf PK
  simp only [Tryz.underlying187]
  rw [if_pos (by simp [pkeyType, Value.formed, Tryz.underlying187, pcells]), hm]
  simp [Program.keyLits, Tryz.underlying187, Tryz.underlying9, pcells, pcell1, Value.cells, hu, hg]
theorem PK_inj {u g u' g' : ByteArray} (hu : u.size ≤ maxLen) (hg : g.size ≤ maxLen) (hu' : u'.size ≤ maxLen) (hg' : g'.size ≤ maxLen) (h : PK u g = PK u' g') : u = u' ∧ g = g' := by
  have h1 := plaw.inj (pkey hu hg) (by rw [h]; exact pkey hu' hg')
  injection h1 with h1
  injection h1 with h1
  injection h1 with h1 h2
  injection h2 with h2
  injection h1 with h1
  injection h2 with h2
  exact ⟨h1, h2⟩
theorem PK_lit (u g : ByteArray) : WideAt.IsKeyLit (PK u g) := trivial

/-- Block b is a map of at most n pairs: those of which M tells so. -/
def InMap (w : World) (b n : Nat) (M : ByteArray → ByteArray → Bool) : Prop :=
  ∃ D : DataW Unit, w.ownsMap Tryz.prog 187 (plainElem Tryz.prog 3) b n D ∧
    ∀ u g : ByteArray, u.size ≤ 1099511627776 → g.size ≤ 1099511627776 → Maps.has D (PK u g) = M u g

theorem InMap.keep {w w' : World} {b n : Nat} {M : ByteArray → ByteArray → Bool} (h : InMap w b n M) (hk : ∀ es ck, w.heap[b]? = some (.map es ck) → w'.heap[b]? = w.heap[b]?) : InMap w' b n M := by
  obtain ⟨D, ⟨es, ck, hb, r⟩, hx⟩ := h
  exact ⟨D, ⟨es, ck, (hk es ck hb).trans hb, r⟩, hx⟩
theorem InMap.lt {w : World} {b n : Nat} {M : ByteArray → ByteArray → Bool} (h : InMap w b n M) : b < w.heap.size := by
  obtain ⟨D, ⟨es, ck, hb, r⟩, hx⟩ := h
  exact heap_lt hb
theorem InMap.obj {w : World} {b n : Nat} {M : ByteArray → ByteArray → Bool} (h : InMap w b n M) : ∃ es ck, w.heap[b]? = some (.map es ck) := by
  obtain ⟨D, ⟨es, ck, hb, r⟩, hx⟩ := h
  exact ⟨es, ck, hb⟩
theorem InMap.below {w w' : World} {b n : Nat} {M : ByteArray → ByteArray → Bool} (h : InMap w b n M) (hb : Below w.heap.size w w') : InMap w' b n M :=
  h.keep fun _ _ hc => hb.block b (heap_lt hc)
theorem InMap.made (w : World) : InMap (w.alloc (.map #[] 0)) w.heap.size 0 (fun _ _ => false) :=
  ⟨.map [], World.ownsMap_made _ _ _ _, fun _ _ _ _ => rfl⟩
theorem InMap.mono {w : World} {b n m : Nat} {M : ByteArray → ByteArray → Bool} (h : InMap w b n M) (hn : n ≤ m) : InMap w b m M := by
  obtain ⟨D, h1, h2⟩ := h
  exact ⟨D, h1.mono hn, h2⟩
theorem InMap.as {w : World} {b n : Nat} {M M' : ByteArray → ByteArray → Bool} (h : InMap w b n M) (hM : ∀ u g, M u g = M' u g) : InMap w b n M' := by
  obtain ⟨D, h1, h2⟩ := h
  exact ⟨D, h1, fun u g hu hg => (h2 u g hu hg).trans (hM u g)⟩

theorem InMap.look {w : World} {b n : Nat} {M : ByteArray → ByteArray → Bool} (h : InMap w b n M) (u g : ByteArray) (hu : u.size ≤ 1099511627776) (hg : g.size ≤ 1099511627776) :
    ∃ c : Int, (Instr.lookup 137 (.map (some b)) (.agg #[.string u, .string g]) true).run Tryz.prog w = .ok (.tuple #[.int .i64 c, .bool (M u g)]) w := by
  obtain ⟨D, ho, hx⟩ := h
  have hz : (zeroValue 3).run Tryz.prog w = .ok (.int .i64 0) w := by kernel_rfl
  obtain ⟨v, ps, hrun, hv⟩ := ho.look_ok pkeyed Tryz.underlying137 hz (plainElem_int Tryz.underlying3 (by decide)) (pkey (u := u) (g := g) (by unfold maxLen; omega) (by unfold maxLen; omega))
  obtain ⟨c, rfl, hc, _⟩ := plainElem_int_inv Tryz.underlying3 hv
  exact ⟨c, by rw [hrun, hx u g hu hg]⟩

theorem InMap.add {w : World} {b n : Nat} {M : ByteArray → ByteArray → Bool} (h : InMap w b n M) (u g : ByteArray) (hu : u.size ≤ 1099511627776) (hg : g.size ≤ 1099511627776) (hn : n < maxLen) (i : Nat) (hi : i ≤ 1099511627776) :
    ∃ w', (Instr.mapUpdate 137 (.map (some b)) (.agg #[.string u, .string g]) (.int .i64 (i : Nat))).run Tryz.prog w = .ok () w' ∧ InMap w' b (n + 1) (fun x y => M x y || (decide (x = u) && decide (y = g))) ∧ w.grownBy w' (some b) := by
  obtain ⟨D, ho, hx⟩ := h
  have hwf : (Lit.int .i64 (i : Int)).wf = true := WalkArith.wf_i64 (by omega)
  have hu2 : u.size ≤ maxLen := by unfold maxLen; omega
  have hg2 : g.size ≤ maxLen := by unfold maxLen; omega
  obtain ⟨w', hrun, ho', hgr⟩ := ho.update pkeyed Tryz.underlying137 hn (pkey hu2 hg2) (plainElem_int Tryz.underlying3 hwf)
  refine ⟨w', hrun, ⟨_, ho', fun x y hxs hys => ?_⟩, hgr⟩
  have hm : IsMap D := ho.isMap
  by_cases he : x = u ∧ y = g
  · obtain ⟨rfl, rfl⟩ := he
    show _ = (M x y || (decide (x = x) && decide (y = y)))
    rw [decide_eq_true (rfl : x = x), decide_eq_true (rfl : y = y), Bool.true_and, Bool.or_true]
    exact has_put_same hm (PK_lit _ _) _
  · have hne : PK x y ≠ PK u g := fun e => he (PK_inj (by unfold maxLen; omega) (by unfold maxLen; omega) hu2 hg2 e)
    have h0 : (decide (x = u) && decide (y = g)) = false := by
      cases hd : (decide (x = u) && decide (y = g)) with
      | false => rfl
      | true =>
        rw [Bool.and_eq_true, decide_eq_true_iff, decide_eq_true_iff] at hd
        exact absurd hd he
    show _ = (M x y || (decide (x = u) && decide (y = g)))
    rw [h0, Bool.or_false, ← hx x y hxs hys]
    exact has_put_other hne _
end Go.Proofs.YtlenlldiimohjaaGreatDoor

namespace Go.Proofs.YtlenlldiimohjaaGreatDoor

/-- A node. -/
structure Nd where
  path : Int
  parent : Int
  name : ByteArray
  mode : Int
  uid : ByteArray
  gid : ByteArray
  muid : ByteArray
  atime : Int
  mtime : Int
  vers : Int
  length : Int
  opens : Int
  kids : Int

abbrev factsV (n p : Nd) (taken full : Bool) : Value := .agg #[.int .u64 n.path, .int .u64 n.parent, .string n.name, .int .u32 n.mode, .string n.uid, .string n.gid, .string n.muid, .int .u32 n.atime, .int .u32 n.mtime, .int .u32 n.vers, .int .u64 n.length, .int .i64 n.opens, .int .i64 n.kids,
  .int .u64 p.path, .int .u64 p.parent, .string p.name, .int .u32 p.mode, .string p.uid, .string p.gid, .string p.muid, .int .u32 p.atime, .int .u32 p.mtime, .int .u32 p.vers, .int .u64 p.length, .int .i64 p.opens, .int .i64 p.kids, .bool taken, .bool full]
def Nd.none : Nd := ⟨0, 0, ⟨#[]⟩, 0, ⟨#[]⟩, ⟨#[]⟩, ⟨#[]⟩, 0, 0, 0, 0, 0, 0⟩

/-- The node's mode is a mode; its texts are short. -/
def Nd.ok (n : Nd) : Prop := 0 ≤ n.mode ∧ n.mode < 4294967296 ∧ n.name.size ≤ 16777216 ∧ n.uid.size ≤ 16777216 ∧ n.gid.size ≤ 16777216 ∧ n.muid.size ≤ 16777216

/-- The bits of the classes together. -/
def rightsN (own mem : Bool) (m : Nat) : Nat := ((if own then m / 64 % 8 else 0) ||| (if mem then m / 8 % 8 else 0)) ||| m % 8
def rights (own mem : Bool) (m : Int) : Int := (rightsN own mem m.toNat : Nat)
end Go.Proofs.YtlenlldiimohjaaGreatDoor
