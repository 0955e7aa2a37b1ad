
/-
  The acts of AuthKeeps, the cuts of AuthComes: slices of arguments, opened. No function of the program is walked here.
-/
import Derived.Test.YtlenlldiimohjaaGreatDoorAFreshM
import Derived.Test.YtlenlldiimohjaaGreatDoorV2
import Derived.Deep.Strs
import Derived.ChangeSlices
import Derived.Clock
namespace Go.Proofs.YtlenlldiimohjaaGreatDoor
open Go.RowKit Go.ChangeShapes Go.WideShapes

structure Ac where
  tell : Bool
  count : Int
  bytes : List UInt8
instance : Inhabited Ac := ⟨⟨false, 0, []⟩⟩
/-- One act, at an address. -/
def ActAt (w : World) (B : Nat) (a : Addr) (i : Nat) (x : Ac) (bv : Value) : Prop :=
  w.cell? (a.add (i * 3)) = some (.bool x.tell) ∧ w.cell? (a.add (i * 3 + 1)) = some (.int .i64 x.count) ∧ w.cell? (a.add (i * 3 + 2)) = some bv ∧ Bys w B bv x.bytes ∧ -9223372036854775808 ≤ x.count ∧ x.count ≤ 9223372036854775807 ∧ x.bytes.length ≤ 140737488355327
/-- The acts. -/
def Acts (w : World) (B : Nat) (v : Value) (xs : List Ac) : Prop := ∃ A cap, v = .slice A xs.length cap ∧ xs.length ≤ cap ∧ cap ≤ maxLen ∧
  ∀ i, i < xs.length → ∃ a bv, A = some a ∧ a.block < B ∧ ActAt w B a i (xs.getD i default) bv
theorem Acts.below {w w' : World} {B : Nat} {v : Value} {xs : List Ac} (h : Acts w B v xs) (hb : Below B w w') : Acts w' B v xs := by
  obtain ⟨A, cap, e, h1, h2, h3⟩ := h
  refine ⟨A, cap, e, h1, h2, fun i hi => ?_⟩
  obtain ⟨a, bv, hA, hlt, c0, c1, c2, hby, hc⟩ := h3 i hi
  exact ⟨a, bv, hA, hlt, (hb.cell (by rw [block_of_add]; exact hlt)).trans c0, (hb.cell (by rw [block_of_add]; exact hlt)).trans c1, (hb.cell (by rw [block_of_add]; exact hlt)).trans c2, hby.below hb, hc⟩
theorem byte_of7 {n : Int} (h : (Lit.int .u8 n).wf = true) : ∃ k : UInt8, n = (k.toNat : Int) := by
  simp only [Lit.wf, IntKind.min, IntKind.max, IntKind.signed, IntKind.bits, Bool.and_eq_true] at h
  simp at h
  exact ⟨UInt8.ofNat n.toNat, by
    rw [UInt8.toNat_ofNat']
    omega⟩
theorem i64_wf7 {n : Int} (h : (Lit.int .i64 n).wf = true) : -9223372036854775808 ≤ n ∧ n ≤ 9223372036854775807 := by
  simp only [Lit.wf, IntKind.min, IntKind.max, IntKind.signed, IntKind.bits, Bool.and_eq_true] at h
  simpa using h
theorem bytes_of7 : ∀ zs : List Int, (∀ n ∈ zs, (Lit.int .u8 n).wf = true) → ∃ l : List UInt8, l.length = zs.length ∧ byteL l = zs.map (.int .u8)
  | [], _ => ⟨[], rfl, rfl⟩
  | z :: zs, h => by
    obtain ⟨k, hk⟩ := byte_of7 (h z (.head _))
    obtain ⟨l, h1, h2⟩ := bytes_of7 zs (fun n hn => h n (.tail _ hn))
    exact ⟨k :: l, by simp [h1], by simp only [byteL, List.map_cons] at h2 ⊢; rw [h2, hk]⟩
section
variable {H : Type} {enc : TypeId × Value → H} {w : World} {base : Nat} {held : Bool} {fuel : Nat}
theorem ints_open {t e : TypeId} {k : IntKind} {cs : List Value} {x : DataW H × List MemPlace} (ht : Tryz.prog.underlying t = some (.slice e)) (he : Tryz.prog.underlying e = some (.int k)) (hc : Tryz.prog.cellsOf e = 1)
    (h : DataW.trod enc Tryz.prog w base (fun _ => true) held fuel t cs = some x) : ∃ (A : Option Addr) (n cap : Nat) (zs : List Int), cs = [.slice A n cap] ∧ n ≤ cap ∧ cap ≤ maxLen ∧ zs.length = n ∧ Reads w w.heap.size 1 A n (zs.map (.int k)) ∧ (∀ z ∈ zs, (Lit.int k z).wf = true) ∧
      ∀ B, (∀ q ∈ x.1.weights Tryz.prog t, q ≤ B) → n * Tryz.prog.bytesOf e ≤ B := by
  rcases open_ints ht he hc h with ⟨rfl, _⟩ | ⟨a, l, c, zs, rfl, _, hl, hm, hz, rfl, hcell, hwz⟩
  · exact ⟨none, 0, 0, [], rfl, Nat.le_refl _, Nat.zero_le _, rfl, Reads.none_, fun z hz => (by cases hz), fun B _ => (by rw [Nat.zero_mul]; exact Nat.zero_le _)⟩
  · have hz' : zs.length = c := by simpa using hz
    have htl : (zs.take l).length = l := by rw [List.length_take]; omega
    refine ⟨some a, l, c, zs.take l, rfl, hl, hm, htl, ⟨by rw [List.length_map, htl]; omega, fun hn => ⟨a, rfl, Go.Clock.block_lt (hcell 0 (by omega)), fun j u hu => ?_⟩⟩, fun z hz => hwz z (List.mem_of_mem_take hz), fun B hB => ?_⟩
    · rw [List.getElem?_map, Option.map_eq_some_iff] at hu
      obtain ⟨z, hz1, rfl⟩ := hu
      have hj : j < l := by
        have := (List.getElem?_eq_some_iff.1 hz1).1
        omega
      rw [List.getElem?_take_of_lt hj] at hz1
      rw [hcell j (by omega), List.getD_eq_getElem?_getD, hz1]
      rfl
    · have h1 := hB (((lits (H := H) k (zs.take l)).length + (lits (H := H) k (zs.drop l)).length) * Tryz.prog.bytesOf e) (by simp [DataW.weights, ht])
      have h2 : (lits (H := H) k (zs.take l)).length = l := by simp only [lits, List.length_map, htl]
      rw [h2] at h1
      exact Nat.le_trans (Nat.mul_le_mul_right _ (Nat.le_add_right _ _)) h1
theorem bys_open {cs : List Value} {x : DataW H × List MemPlace} (h : DataW.trod enc Tryz.prog w base (fun _ => true) held fuel 47 cs = some x) : ∃ v l, cs = [v] ∧ Bys w w.heap.size v l ∧ ((∀ q ∈ x.1.weights Tryz.prog 47, q ≤ reachBytes) → l.length ≤ 140737488355327) := by
  obtain ⟨A, n, cap, zs, rfl, h1, h2, h3, h4, h5, h6⟩ := ints_open Tryz.underlying47 Tryz.underlying5 (by kernel_rfl) h
  obtain ⟨l, hl1, hl2⟩ := bytes_of7 zs h5
  subst h3
  rw [← hl2, ← hl1] at h4
  refine ⟨_, l, rfl, ⟨A, cap, by rw [hl1], by omega, h2, h4⟩, fun hq => ?_⟩
  have h7 := h6 reachBytes hq
  rw [show Tryz.prog.bytesOf 5 = 1 from by kernel_rfl, Nat.mul_one, ← hl1] at h7
  unfold reachBytes at h7
  omega
theorem cuts_open {cs : List Value} {x : DataW H × List MemPlace} (h : DataW.trod enc Tryz.prog w base (fun _ => true) held fuel 67 cs = some x) : ∃ v l, cs = [v] ∧ Cuts w w.heap.size v l := by
  obtain ⟨A, n, cap, zs, rfl, h1, h2, h3, h4, h5, -⟩ := ints_open Tryz.underlying67 Tryz.underlying3 (by kernel_rfl) h
  subst h3
  exact ⟨_, zs, rfl, ⟨A, cap, rfl, h1, h4⟩, by unfold maxLen at h2; omega, fun c hc => i64_wf7 (h5 c hc)⟩
theorem weights_all_mem {P : Program} {e : TypeId} : ∀ {l : List (DataW H)} {d : DataW H}, d ∈ l → ∀ k ∈ d.weights P e, k ∈ DataW.weightsAll P e l
  | x :: l, d, hd, k, hk => by
    rw [DataW.weightsAll, List.mem_append]
    rcases List.mem_cons.1 hd with rfl | hd
    · exact .inl hk
    · exact .inr (weights_all_mem hd k hk)
set_option maxRecDepth 100000 in
theorem acts_open {cs : List Value} {x : DataW H × List MemPlace} (h : DataW.trod enc Tryz.prog w base (fun _ => true) held fuel 46 cs = some x) (hq : ∀ q ∈ x.1.weights Tryz.prog 46, q ≤ reachBytes) : ∃ v xs, cs = [v] ∧ Acts w w.heap.size v xs := by
  rcases Go.Deep.open_slice Tryz.underlying46 h with ⟨rfl, _⟩ | ⟨a, len, cap, m, n, D, Pl, rfl, hb, hl, hm, hmm, rfl, hx⟩
  · exact ⟨_, [], rfl, none, 0, rfl, Nat.le_refl _, Nat.zero_le _, fun i hi => absurd hi (by simp)⟩
  · have hmc : m = cap := by simpa using hmm
    have hce : Tryz.prog.cellsOf 49 = 3 := by kernel_rfl
    obtain ⟨f, hf⟩ := Go.Deep.choose_lt (n := len) (p := fun i (q : Ac × Value) => a.block < w.heap.size ∧ ActAt w w.heap.size a i q.1 q.2) (fun i hi => by
      obtain ⟨cs', h1, h2⟩ := hx i (by omega)
      have hqi : ∀ k ∈ (D i).weights Tryz.prog 49, k ≤ reachBytes := fun k hk => hq k (by
        simp only [DataW.weights, Tryz.underlying46]
        exact .tail _ (List.mem_append_left _ (weights_all_mem (List.mem_map.2 ⟨i, List.mem_range.2 hi, rfl⟩) k hk)))
      rw [hce] at h1
      obtain ⟨_, hlen, hcell⟩ := World.cells?_some h1
      match cs', hlen with
      | [v0, v1, v2], _ =>
        obtain ⟨m0, y0, g0, -⟩ := str_at Tryz.underlying49 h2 0 rfl 4 rfl (show Tryz.prog.cellsOf 4 = 1 by kernel_rfl) [v0] rfl
        obtain ⟨m1, y1, g1, -⟩ := str_at Tryz.underlying49 h2 1 rfl 3 rfl (show Tryz.prog.cellsOf 3 = 1 by kernel_rfl) [v1] rfl
        obtain ⟨m2, y2, g2, hy2⟩ := str_at Tryz.underlying49 h2 2 rfl 47 rfl (show Tryz.prog.cellsOf 47 = 1 by kernel_rfl) [v2] rfl
        have c0 := hcell 0 (by omega)
        have c1 := hcell 1 (by omega)
        have c2 := hcell 2 (by omega)
        rw [add_of_add] at c0 c1 c2
        obtain ⟨b0, e0, -⟩ := DataW.trod_bool Tryz.underlying4 g0
        obtain ⟨z1, e1, -, hw⟩ := DataW.trod_int Tryz.underlying3 g1
        injection e0 with e0
        injection e1 with e1
        subst e0
        subst e1
        obtain ⟨bv, l, hbv, hby, hlw⟩ := bys_open g2
        injection hbv with hbv
        subst hbv
        exact ⟨(⟨b0, z1, l⟩, v2), by have := Go.Clock.block_lt c0; rwa [block_of_add] at this, c0, c1, c2, hby, (i64_wf7 hw).1, (i64_wf7 hw).2, hlw (fun k hk => hqi k (hy2 k hk))⟩)
    refine ⟨_, (List.range len).map fun i => (f i).1, rfl, some a, cap, by simp, by simpa using hl, hm, fun i hi => ?_⟩
    have hi' : i < len := by simpa using hi
    refine ⟨a, (f i).2, rfl, (hf i hi').1, ?_⟩
    have : ((List.range len).map fun i => (f i).1).getD i default = (f i).1 := by simp [List.getD, hi']
    rw [this]
    exact (hf i hi').2
end
end Go.Proofs.YtlenlldiimohjaaGreatDoor
