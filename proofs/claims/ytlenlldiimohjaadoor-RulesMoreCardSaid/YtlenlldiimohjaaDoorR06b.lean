/-
  The reference of layer 6: cuts. Condition: a text of at most 16777216 bytes.
-/
import Derived.Test.YtlenlldiimohjaaDoorR06a
import Derived.Deep.DeepCutAuto
namespace Go.Proofs.YtlenlldiimohjaaDoor
open Go.ChangeShapes Go.WideShapes Go.ChangeAt Go.RowKit

theorem str_info : (Tryd.prog.info? 9).map (fun i => (i.zero, i.size, i.bytes)) = some (some (.string ByteArray.empty), 1, 16) := by kernel_rfl

theorem reads_new (w : World) (t : TypeId) (v : Value) : Reads (w.alloc (.cells #[v] t)) (w.heap.size + 1) 1 (some ⟨w.heap.size, 0, none⟩) 1 [v] := by
  refine ⟨rfl, fun _ => ⟨_, rfl, Nat.lt_succ_self _, fun j u hu => ?_⟩⟩
  have hj : j = 0 := by
    have := (List.getElem?_eq_some_iff.1 hu).1
    simpa using this
  subst hj
  rw [Addr.add_lit, World.cell?_alloc_new]
  simpa using hu

/-- What cuts has laid so far, and what is left. -/
def CutAt (c : UInt8) (s : ByteArray) (done : List ByteArray) (from_ i : Nat) : Prop :=
  done ++ (cutL c (s.data.toList.drop from_)).map ofL = cut c s ∧ (∀ (j : Nat) (h : j < s.size), from_ ≤ j → j < i → s[j] ≠ c)

theorem extract_ofL (s : ByteArray) (a b : Nat) : s.extract a b = ofL ((s.data.toList.drop a).take (b - a)) := by
  apply ByteArray.ext
  unfold ofL
  rw [ByteArray.data_extract]
  apply Array.ext'
  simp [List.extract_eq_take_drop]

theorem no_in (c : UInt8) (s : ByteArray) (a b : Nat) (h : ∀ (j : Nat) (h : j < s.size), a ≤ j → j < b → s[j] ≠ c) : ∀ x ∈ (s.data.toList.drop a).take (b - a), x ≠ c := by
  intro x hx
  obtain ⟨q, hq, rfl⟩ := List.mem_iff_getElem.1 hx
  simp only [List.length_take, List.length_drop, Array.length_toList, ByteArray.size_data] at hq
  rw [List.getElem_take, List.getElem_drop]
  have := h (a + q) (by omega) (by omega) (by omega)
  exact this

theorem CutAt.start (c : UInt8) (s : ByteArray) : CutAt c s [] 0 0 := ⟨rfl, fun _ _ _ h => absurd h (Nat.not_lt_zero _)⟩
theorem CutAt.pass {c : UInt8} {s : ByteArray} {done : List ByteArray} {f i : Nat} (h : CutAt c s done f i) (hi : i < s.size) (hne : s[i] ≠ c) : CutAt c s done f (i + 1) :=
  ⟨h.1, fun j hj h1 h2 => by
    rcases Nat.lt_succ_iff_lt_or_eq.1 h2 with h3 | rfl
    · exact h.2 j hj h1 h3
    · exact hne⟩
theorem CutAt.hit {c : UInt8} {s : ByteArray} {done : List ByteArray} {f i : Nat} (h : CutAt c s done f i) (hf : f ≤ i) (hi : i < s.size) (he : s[i] = c) : CutAt c s (done ++ [s.extract f i]) (i + 1) (i + 1) := by
  refine ⟨?_, fun j _ h1 h2 => absurd h2 (by omega)⟩
  rw [← h.1]
  have e : s.data.toList.drop f = (s.data.toList.drop f).take (i - f) ++ c :: s.data.toList.drop (i + 1) := by
    have h1 : s.data.toList.drop f = (s.data.toList.drop f).take (i - f) ++ (s.data.toList.drop f).drop (i - f) := (List.take_append_drop _ _).symm
    rw [List.drop_drop, show f + (i - f) = i from by omega] at h1
    have hl : i < s.data.toList.length := by simpa using hi
    rw [List.drop_eq_getElem_cons hl] at h1
    have : s.data.toList[i] = c := he
    rw [this] at h1
    exact h1
  conv => rhs; rw [e, cutL_hit c _ _ (no_in c s f i h.2)]
  rw [List.map_cons, extract_ofL, List.append_assoc, List.singleton_append]
theorem CutAt.done {c : UInt8} {s : ByteArray} {done : List ByteArray} {f i : Nat} (h : CutAt c s done f i) (hi : s.size ≤ i) : done ++ [s.extract f s.size] = cut c s := by
  rw [← h.1]
  have hno : ∀ x ∈ s.data.toList.drop f, x ≠ c := by
    have := no_in c s f i h.2
    rwa [List.take_of_length_le (by simp; omega)] at this
  rw [cutL_none c _ hno, extract_ofL, List.take_of_length_le (by simp)]
  rfl

theorem cuts_calls (s : ByteArray) (c : UInt8) (w : World) (hs : s.size ≤ 16777216) :
    Calls Tryd.prog 67 #[.string s, .int .u8 (c.toNat : Int)] w fun e w' => ∃ v, e = .returned v ∧ Strs w' v (cut c s) ∧ Below w.heap.size w w' := by
  obtain ⟨i0, hi0, hz0, hz1, hz2⟩ := info_parts str_info
  have HI := Lib.hid hi0; clear hi0
  have HZ0 := Lib.hid hz0; clear hz0
  have HZ1 := Lib.hid hz1; clear hz1
  have HZ2 := Lib.hid hz2; clear hz2
  go_enter Tryd.func67, Tryd.ntmps67
  go_wp2_with fail
  go_loopw [5, 6, 7] (fun v f i wr => ∃ (done : List ByteArray) (fr k : Nat), i = .int .i64 k ∧ f = .int .i64 fr ∧ fr ≤ k ∧ k ≤ s.size ∧ done.length ≤ k ∧ wr.ownsRow w.heap.size 9 1 v done.length (done.map Value.string) ∧ Below w.heap.size w wr ∧ CutAt c s done fr k) (fun _ _ i _ => s.size - (intOf i).toNat)
  case atStart => exact ⟨[], 0, 0, rfl, rfl, by omega, by omega, by simp, World.ownsRow_nil _ _ _ _, Below.refl _ _, CutAt.start c s⟩
  case round =>
    obtain ⟨done, fr, k, rfl, rfl, hf, hk, hd, hown, hb, hcut⟩ := hrel
    have HO := Lib.hid hown; clear hown
    have HB := Lib.hid hb; clear hb
    have HC := Lib.hid hcut; clear hcut
    by_cases hlt : k < s.size
    · by_cases he : s[k] = c
      · have hbe : ((s[k].toNat : Int) == (c.toNat : Int)) = true := by rw [he]; exact beq_self_eq_true _
        have HE := Lib.hid he; clear he
        have i1 : (fr : Int) ≤ (k : Int) := by omega
        have i2 : (k : Int) ≤ (s.size : Int) := by omega
        go_wp2_with (at_builtin; refine wpList_append_any _ rfl (.tmp 19) (.tmp 24) _ rfl w.heap.size 9 i0 _ 1 16 Tryd.underlying101 HI.out HZ0.out HZ1.out HZ2.out rfl (by omega) _ done.length (done.map Value.string) rfl (HO.out.alloc _) (wr.heap.size + 1) (some ⟨wr.heap.size, 0, none⟩) 1 1 [.string (s.extract fr k)] rfl (reads_new _ _ _) (by intro u hu; simp at hu; subst hu; rfl) (by simp only [maxLen]; omega) (by omega) (by have := HB.out.size; simp; omega) ?_; intro v2 w2 hown2 hg2 hat2; have HO2 := Lib.hid hown2; clear hown2; have HG2 := Lib.hid hg2; clear hg2; clear hat2)
        have HG3 : Hid ((wr.alloc (Obj.cells #[Value.string (s.extract fr k)] 9)).grownBy w2 u5.ownBlock) := HG2.out
        clear HG2
        go_roundw
        case rel =>
          refine ⟨done ++ [s.extract fr k], k + 1, k + 1, by go_num, by go_num, by omega, by omega, by simp; omega, ?_, ?_, HC.out.hit hf hlt HE.out⟩
          · simpa using HO2.out
          · exact (HB.out.alloc HB.out.size _).grown HG3.out (by have := HB.out.size; simp; omega) (fun b hb => (HO.out.lt b hb).1)
        case measure => simp [intOf]; omega
      · have hbe : ((s[k].toNat : Int) == (c.toNat : Int)) = false := by rw [beq_eq_false_iff_ne]; intro h; exact he (UInt8.toNat_inj.1 (by omega))
        have HE := Lib.hid he; clear he
        go_wp2_with fail
        go_roundw
        case rel => exact ⟨done, fr, k + 1, by go_num, rfl, by omega, by omega, by omega, HO.out, HB.out, HC.out.pass hlt HE.out⟩
        case measure => simp [intOf]; omega
    · have i1 : (fr : Int) ≤ (s.size : Int) := by omega
      have i2 : (0 : Int) ≤ (fr : Int) := by omega
      go_wp2_with (at_builtin; refine wpList_append_any _ rfl (.tmp 28) (.tmp 32) _ rfl w.heap.size 9 i0 _ 1 16 Tryd.underlying101 HI.out HZ0.out HZ1.out HZ2.out rfl (by omega) _ done.length (done.map Value.string) rfl (HO.out.alloc _) (wr.heap.size + 1) (some ⟨wr.heap.size, 0, none⟩) 1 1 [.string (s.extract fr s.size)] rfl (reads_new _ _ _) (by intro u hu; simp at hu; subst hu; rfl) (by simp only [maxLen]; omega) (by omega) (by have := HB.out.size; simp; omega) ?_; intro v2 w2 hown2 hg2 hat2; have HO2 := Lib.hid hown2; clear hown2; have HG2 := Lib.hid hg2; clear hg2; clear hat2)
      have HG3 : Hid ((wr.alloc (Obj.cells #[Value.string (s.extract fr s.size)] 9)).grownBy w2 u5.ownBlock) := HG2.out
      clear HG2
      go_ret
      refine ⟨v2, rfl, ?_, (HB.out.alloc HB.out.size _).grown HG3.out (by have := HB.out.size; simp; omega) (fun b hb => (HO.out.lt b hb).1)⟩
      have e := HC.out.done (by omega)
      refine Strs.of_own (n := done.length + 1) (base := w.heap.size) ?_ (by rw [← e]; simp)
      rw [← e, List.map_append]
      exact HO2.out
end Go.Proofs.YtlenlldiimohjaaDoor
