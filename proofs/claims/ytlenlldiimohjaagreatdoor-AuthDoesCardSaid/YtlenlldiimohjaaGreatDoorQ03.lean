/-
  G1: what AuthDoes needs of them.
-/
import Derived.Test.YtlenlldiimohjaaGreatDoorQ01
import Derived.WalkKit
import Derived.ProofKit
import Derived.OpenShut
import Derived.BigQuiet
import Derived.Deep.QuietTactic
import Derived.Deep.DeepCutAuto
import Derived.StillTailTactics
import Derived.OwnWalk
namespace Go.Proofs.YtlenlldiimohjaaGreatDoor
open Go.ChangeShapes Go.WideShapes Go.ChangeAt Go.RowKit

def findZ (L : List Acct) (s : ByteArray) : Int := match findIx L s with | some i => (i : Int) | none => -1

theorem findIx_hit {L : List Acct} {s : ByteArray} {k : Nat} {a : Acct} (hk : L[k]? = some a) (he : a.name = s) (hno : ∀ (q : Nat) b, q < k → L[q]? = some b → ¬ b.name = s) : findIx L s = some k := by
  unfold findIx
  rw [List.findIdx?_eq_some_iff_getElem]
  obtain ⟨hl, hg⟩ := List.getElem?_eq_some_iff.1 hk
  refine ⟨hl, by rw [hg]; exact decide_eq_true he, fun j hj => ?_⟩
  have := hno j L[j] hj (List.getElem?_eq_getElem (by omega))
  simpa using this
theorem findIx_none {L : List Acct} {s : ByteArray} (hno : ∀ (q : Nat) b, q < L.length → L[q]? = some b → ¬ b.name = s) : findIx L s = none := by
  unfold findIx
  rw [List.findIdx?_eq_none_iff]
  intro x hx
  obtain ⟨q, hq, rfl⟩ := List.mem_iff_getElem.1 hx
  have := hno q L[q] hq (List.getElem?_eq_getElem hq)
  simpa using this

theorem find_calls (v : Value) (L : List Acct) (s : ByteArray) (w : World) (h : Accts w v L) :
    Calls Tryz.prog 66 #[v, .string s] w fun e w' => e = .returned (.int .i64 (findZ L s)) ∧ w = w' := by
  obtain ⟨A, c, rfl, hlc, hcm⟩ := h.len
  have H := Lib.hid h; clear h
  unfold maxLen at hcm
  go_enter Tryz.func66, Tryz.ntmps66
  go_wp2_with fail
  go_loop [5] (fun i => ∃ k : Nat, k ≤ L.length ∧ i = .int .i64 k ∧ ∀ (q : Nat) b, q < k → L[q]? = some b → ¬ b.name = s) (fun i => L.length - (intOf i).toNat)
  case atStart => exact ⟨0, by omega, rfl, fun q b hq => absurd hq (Nat.not_lt_zero q)⟩
  case round =>
    obtain ⟨k, hk, rfl, hno⟩ := hrel
    have HNO := Lib.hid hno; clear hno
    by_cases hlt : k < L.length
    · obtain ⟨a, hka⟩ : ∃ a, L[k]? = some a := ⟨L[k], List.getElem?_eq_getElem hlt⟩
      obtain ⟨g, o, c', mv, hv, _, _, h0, _⟩ := H.out.at_ hka
      injection hv with e1 _ e3
      subst e1; subst e3
      have HKA := Lib.hid hka; clear hka
      by_cases he : a.name = s
      · have hbe := beq_str_t he
        have hz : findZ L s = (k : Int) := by unfold findZ; rw [findIx_hit HKA.out he HNO.out]
        have HZ := Lib.hid hz; clear hz
        have HE := Lib.hid he; clear he
        go_wp2_with fail
        go_ret
        exact ⟨ret_int HZ.out.symm, rfl⟩
      · have hbe := beq_str_f he
        have HE := Lib.hid he; clear he
        go_wp2_with fail
        go_round
        case rel => exact ⟨k + 1, by omega, by go_num, fun q b hq hb => (by
          rcases Nat.lt_succ_iff_lt_or_eq.1 hq with h | h
          · exact HNO.out q b h hb
          · subst h
            have := HKA.out
            rw [hb] at this
            obtain rfl := Option.some.inj this
            exact HE.out)⟩
        case measure => simp [intOf]; omega
    · have hz : findZ L s = -1 := by unfold findZ; rw [findIx_none (fun q b hq hb => HNO.out q b (by omega) hb)]
      have HZ := Lib.hid hz; clear hz
      go_wp2_with fail
      go_ret
      exact ⟨ret_int HZ.out.symm, rfl⟩

theorem has_hit {l : List ByteArray} {s x : ByteArray} {k : Nat} (hk : l[k]? = some x) (he : x = s) : has l s = true := by
  subst he
  unfold has
  rw [List.any_eq_true]
  exact ⟨x, List.mem_of_getElem? hk, decide_eq_true rfl⟩
theorem has_none {l : List ByteArray} {s : ByteArray} (hno : ∀ (q : Nat) b, q < l.length → l[q]? = some b → ¬ b = s) : has l s = false := by
  unfold has
  rw [List.any_eq_false]
  intro x hx
  obtain ⟨q, hq, rfl⟩ := List.mem_iff_getElem.1 hx
  have := hno q l[q] hq (List.getElem?_eq_getElem hq)
  simpa using this

theorem has_calls (v : Value) (l : List ByteArray) (s : ByteArray) (w : World) (h : Strs w v l) :
    Calls Tryz.prog 118 #[v, .string s] w fun e w' => e = .returned (.bool (has l s)) ∧ w = w' := by
  obtain ⟨A, c, rfl, hlc, hcm, -⟩ := id h
  have H := Lib.hid h; clear h
  unfold maxLen at hcm
  go_enter Tryz.func118, Tryz.ntmps118
  go_wp2_with fail
  go_loop [5] (fun i => ∃ k : Nat, k ≤ l.length ∧ i = .int .i64 k ∧ ∀ (q : Nat) x, q < k → l[q]? = some x → ¬ x = s) (fun i => l.length - (intOf i).toNat)
  case atStart => exact ⟨0, by omega, rfl, fun q b hq => absurd hq (Nat.not_lt_zero q)⟩
  case round =>
    obtain ⟨k, hk, rfl, hno⟩ := hrel
    have HNO := Lib.hid hno; clear hno
    by_cases hlt : k < l.length
    · obtain ⟨x, hkx⟩ : ∃ x, l[k]? = some x := ⟨l[k], List.getElem?_eq_getElem hlt⟩
      obtain ⟨g, o, c', hv, _, h0⟩ := H.out.at_ hkx
      injection hv with e1 _ e3
      subst e1; subst e3
      have HKX := Lib.hid hkx; clear hkx
      by_cases he : x = s
      · have hbe := beq_str_t he
        have HZ := Lib.hid (has_hit HKX.out he)
        have HE := Lib.hid he; clear he
        go_wp2_with fail
        go_ret
        exact ⟨ret_bool HZ.out.symm, rfl⟩
      · have hbe := beq_str_f he
        have HE := Lib.hid he; clear he
        go_wp2_with fail
        go_round
        case rel => exact ⟨k + 1, by omega, by go_num, fun q b hq hb => (by
          rcases Nat.lt_succ_iff_lt_or_eq.1 hq with h | h
          · exact HNO.out q b h hb
          · subst h
            have := HKX.out
            rw [hb] at this
            obtain rfl := Option.some.inj this
            exact HE.out)⟩
        case measure => simp [intOf]; omega
    · have HZ := Lib.hid (has_none (fun q b hq hb => HNO.out q b (by omega) hb))
      go_wp2_with fail
      go_ret
      exact ⟨ret_bool HZ.out.symm, rfl⟩

theorem twice_step {l : List ByteArray} {k : Nat} {x : ByteArray} (hk : l[k]? = some x) : twiceFrom l (l.drop k) k = (has (l.take k) x || twiceFrom l (l.drop (k + 1)) (k + 1)) := by
  obtain ⟨hl, rfl⟩ := List.getElem?_eq_some_iff.1 hk
  rw [List.drop_eq_getElem_cons hl, twiceFrom]
theorem twice_hit {l : List ByteArray} {k : Nat} {x : ByteArray} (hk : l[k]? = some x) (ht : twiceFrom l (l.drop k) k = twice l) (hh : has (l.take k) x = true) : twice l = true := by
  rw [← ht, twice_step hk, hh, Bool.true_or]
theorem twice_miss {l : List ByteArray} {k : Nat} {x : ByteArray} (hk : l[k]? = some x) (ht : twiceFrom l (l.drop k) k = twice l) (hh : has (l.take k) x = false) : twiceFrom l (l.drop (k + 1)) (k + 1) = twice l := by
  rw [← ht, twice_step hk, hh, Bool.false_or]
theorem twice_end {l : List ByteArray} {k : Nat} (ht : twiceFrom l (l.drop k) k = twice l) (hk : l.length ≤ k) : twice l = false := by
  rw [← ht, List.drop_eq_nil_of_le hk, twiceFrom]

theorem twice_calls (v : Value) (l : List ByteArray) (w : World) (h : Strs w v l) :
    Calls Tryz.prog 67 #[v] w fun e w' => e = .returned (.bool (twice l)) ∧ Drawn w w' := by
  obtain ⟨A, c, rfl, hlc, hcm, -⟩ := id h
  have H := Lib.hid h; clear h
  unfold maxLen at hcm
  go_enter Tryz.func67, Tryz.ntmps67
  go_wp2_with fail
  go_loopw [3] (fun i wr => ∃ k : Nat, k ≤ l.length ∧ i = .int .i64 k ∧ Drawn w wr ∧ twiceFrom l (l.drop k) k = twice l) (fun i _ => l.length - (intOf i).toNat)
  case atStart => exact ⟨0, by omega, rfl, Drawn.refl w, rfl⟩
  case round =>
    obtain ⟨k, hk, rfl, hd, htw⟩ := hrel
    have HT := Lib.hid htw; clear htw
    have HD := Lib.hid hd; clear hd
    by_cases hlt : k < l.length
    · obtain ⟨x, hkx⟩ : ∃ x, l[k]? = some x := ⟨l[k], List.getElem?_eq_getElem hlt⟩
      obtain ⟨g, o, c', hv, _, h0⟩ := (H.out.drawn HD.out).at_ hkx
      injection hv with e1 _ e3
      subst e1; subst e3
      have HKX := Lib.hid hkx; clear hkx
      have HF := Lib.hid ((H.out.front (k := k) (by omega)).drawn HD.out)
      have i1 : (k : Int) < (l.length : Int) := by omega
      have i2 : (k : Int) ≤ (c : Int) := by omega
      have i3 : k ≤ c := by omega
      go_wp2_with fail
      go_quiet ((go_at_call 118; exact quietly (has_calls _ _ _ _ (HF.out.drewN _))))
      by_cases hh : has (l.take k) x = true
      · have HZ := Lib.hid (twice_hit HKX.out HT.out hh)
        rw [hh]
        clear hh
        go_wp2_with fail
        go_ret
        exact ⟨ret_bool HZ.out.symm, HD.out.next _⟩
      · rw [Bool.not_eq_true] at hh
        have HZ := Lib.hid (twice_miss HKX.out HT.out hh)
        rw [hh]
        clear hh
        go_wp2_with fail
        go_roundw
        case rel => exact ⟨k + 1, by omega, by go_num, HD.out.next _, HZ.out⟩
        case measure => simp [intOf]; omega
    · have HZ := Lib.hid (twice_end HT.out (by omega))
      go_wp2_with fail
      go_ret
      exact ⟨ret_bool HZ.out.symm, HD.out⟩
end Go.Proofs.YtlenlldiimohjaaGreatDoor

namespace Go.Proofs.YtlenlldiimohjaaGreatDoor
open Go.ChangeShapes Go.WideShapes Go.ChangeAt Go.RowKit

theorem str_info : (Tryz.prog.info? 9).map (fun i => (i.zero, i.size, i.bytes)) = some (some (.string ByteArray.empty), 1, 16) := by kernel_rfl

theorem reads_new (w : World) (t : TypeId) (v : Value) : Reads (w.alloc (.cells #[v] t)) (w.heap.size + 1) 1 (some ⟨w.heap.size, 0, none⟩) 1 [v] := by
  refine ⟨rfl, fun _ => ⟨_, rfl, Nat.lt_succ_self _, fun j u hu => ?_⟩⟩
  have hj : j = 0 := by
    have := (List.getElem?_eq_some_iff.1 hu).1
    simpa using this
  subst hj
  rw [Addr.add_lit, World.cell?_alloc_new]
  simpa using hu

/-- What cuts has laid so far, and what is left. -/
def CutAt (c : UInt8) (s : ByteArray) (done : List ByteArray) (from_ i : Nat) : Prop :=
  done ++ (cutL c (s.data.toList.drop from_)).map ofL = cut c s ∧ (∀ (j : Nat) (h : j < s.size), from_ ≤ j → j < i → s[j] ≠ c)

theorem extract_ofL (s : ByteArray) (a b : Nat) : s.extract a b = ofL ((s.data.toList.drop a).take (b - a)) := by
  apply ByteArray.ext
  unfold ofL
  rw [ByteArray.data_extract]
  apply Array.ext'
  simp [List.extract_eq_take_drop]

theorem no_in (c : UInt8) (s : ByteArray) (a b : Nat) (h : ∀ (j : Nat) (h : j < s.size), a ≤ j → j < b → s[j] ≠ c) : ∀ x ∈ (s.data.toList.drop a).take (b - a), x ≠ c := by
  intro x hx
  obtain ⟨q, hq, rfl⟩ := List.mem_iff_getElem.1 hx
  simp only [List.length_take, List.length_drop, Array.length_toList, ByteArray.size_data] at hq
  rw [List.getElem_take, List.getElem_drop]
  have := h (a + q) (by omega) (by omega) (by omega)
  exact this

theorem CutAt.start (c : UInt8) (s : ByteArray) : CutAt c s [] 0 0 := ⟨rfl, fun _ _ _ h => absurd h (Nat.not_lt_zero _)⟩
theorem CutAt.pass {c : UInt8} {s : ByteArray} {done : List ByteArray} {f i : Nat} (h : CutAt c s done f i) (hi : i < s.size) (hne : s[i] ≠ c) : CutAt c s done f (i + 1) :=
  ⟨h.1, fun j hj h1 h2 => by
    rcases Nat.lt_succ_iff_lt_or_eq.1 h2 with h3 | rfl
    · exact h.2 j hj h1 h3
    · exact hne⟩
theorem CutAt.hit {c : UInt8} {s : ByteArray} {done : List ByteArray} {f i : Nat} (h : CutAt c s done f i) (hf : f ≤ i) (hi : i < s.size) (he : s[i] = c) : CutAt c s (done ++ [s.extract f i]) (i + 1) (i + 1) := by
  refine ⟨?_, fun j _ h1 h2 => absurd h2 (by omega)⟩
  rw [← h.1]
  have e : s.data.toList.drop f = (s.data.toList.drop f).take (i - f) ++ c :: s.data.toList.drop (i + 1) := by
    have h1 : s.data.toList.drop f = (s.data.toList.drop f).take (i - f) ++ (s.data.toList.drop f).drop (i - f) := (List.take_append_drop _ _).symm
    rw [List.drop_drop, show f + (i - f) = i from by omega] at h1
    have hl : i < s.data.toList.length := by simpa using hi
    rw [List.drop_eq_getElem_cons hl] at h1
    have : s.data.toList[i] = c := he
    rw [this] at h1
    exact h1
  conv => rhs; rw [e, cutL_hit c _ _ (no_in c s f i h.2)]
  rw [List.map_cons, extract_ofL, List.append_assoc, List.singleton_append]
theorem CutAt.done {c : UInt8} {s : ByteArray} {done : List ByteArray} {f i : Nat} (h : CutAt c s done f i) (hi : s.size ≤ i) : done ++ [s.extract f s.size] = cut c s := by
  rw [← h.1]
  have hno : ∀ x ∈ s.data.toList.drop f, x ≠ c := by
    have := no_in c s f i h.2
    rwa [List.take_of_length_le (by simp; omega)] at this
  rw [cutL_none c _ hno, extract_ofL, List.take_of_length_le (by simp)]
  rfl

theorem cuts_calls (s : ByteArray) (c : UInt8) (w : World) (hs : s.size ≤ 16777216) :
    Calls Tryz.prog 64 #[.string s, .int .u8 (c.toNat : Int)] w fun e w' => ∃ v, e = .returned v ∧ Strs w' v (cut c s) ∧ Below w.heap.size w w' := by
  obtain ⟨i0, hi0, hz0, hz1, hz2⟩ := info_parts str_info
  have HI := Lib.hid hi0; clear hi0
  have HZ0 := Lib.hid hz0; clear hz0
  have HZ1 := Lib.hid hz1; clear hz1
  have HZ2 := Lib.hid hz2; clear hz2
  go_enter Tryz.func64, Tryz.ntmps64
  go_wp2_with fail
  go_loopw [5, 6, 7] (fun v f i wr => ∃ (done : List ByteArray) (fr k : Nat), i = .int .i64 k ∧ f = .int .i64 fr ∧ fr ≤ k ∧ k ≤ s.size ∧ done.length ≤ k ∧ wr.ownsRow w.heap.size 9 1 v done.length (done.map Value.string) ∧ Below w.heap.size w wr ∧ CutAt c s done fr k) (fun _ _ i _ => s.size - (intOf i).toNat)
  case atStart => exact ⟨[], 0, 0, rfl, rfl, by omega, by omega, by simp, World.ownsRow_nil _ _ _ _, Below.refl _ _, CutAt.start c s⟩
  case round =>
    obtain ⟨done, fr, k, rfl, rfl, hf, hk, hd, hown, hb, hcut⟩ := hrel
    have HO := Lib.hid hown; clear hown
    have HB := Lib.hid hb; clear hb
    have HC := Lib.hid hcut; clear hcut
    by_cases hlt : k < s.size
    · by_cases he : s[k] = c
      · have hbe : ((s[k].toNat : Int) == (c.toNat : Int)) = true := by rw [he]; exact beq_self_eq_true _
        have HE := Lib.hid he; clear he
        have i1 : (fr : Int) ≤ (k : Int) := by omega
        have i2 : (k : Int) ≤ (s.size : Int) := by omega
        go_wp2_with (at_builtin; refine wpList_append_any _ rfl (.tmp 19) (.tmp 24) _ rfl w.heap.size 9 i0 _ 1 16 Tryz.underlying123 HI.out HZ0.out HZ1.out HZ2.out rfl (by omega) _ done.length (done.map Value.string) rfl (HO.out.alloc _) (wr.heap.size + 1) (some ⟨wr.heap.size, 0, none⟩) 1 1 [.string (s.extract fr k)] rfl (reads_new _ _ _) (by intro u hu; simp at hu; subst hu; rfl) (by simp only [maxLen]; omega) (by omega) (by have := HB.out.size; simp; omega) ?_; intro v2 w2 hown2 hg2 hat2; have HO2 := Lib.hid hown2; clear hown2; have HG2 := Lib.hid hg2; clear hg2; clear hat2)
        have HG3 : Hid ((wr.alloc (Obj.cells #[Value.string (s.extract fr k)] 9)).grownBy w2 u5.ownBlock) := HG2.out
        clear HG2
        go_roundw
        case rel =>
          refine ⟨done ++ [s.extract fr k], k + 1, k + 1, by go_num, by go_num, by omega, by omega, by simp; omega, ?_, ?_, HC.out.hit hf hlt HE.out⟩
          · simpa using HO2.out
          · exact (HB.out.alloc HB.out.size _).grown HG3.out (by have := HB.out.size; simp; omega) (fun b hb => (HO.out.lt b hb).1)
        case measure => simp [intOf]; omega
      · have hbe : ((s[k].toNat : Int) == (c.toNat : Int)) = false := by rw [beq_eq_false_iff_ne]; intro h; exact he (UInt8.toNat_inj.1 (by omega))
        have HE := Lib.hid he; clear he
        go_wp2_with fail
        go_roundw
        case rel => exact ⟨done, fr, k + 1, by go_num, rfl, by omega, by omega, by omega, HO.out, HB.out, HC.out.pass hlt HE.out⟩
        case measure => simp [intOf]; omega
    · have i1 : (fr : Int) ≤ (s.size : Int) := by omega
      have i2 : (0 : Int) ≤ (fr : Int) := by omega
      go_wp2_with (at_builtin; refine wpList_append_any _ rfl (.tmp 28) (.tmp 32) _ rfl w.heap.size 9 i0 _ 1 16 Tryz.underlying123 HI.out HZ0.out HZ1.out HZ2.out rfl (by omega) _ done.length (done.map Value.string) rfl (HO.out.alloc _) (wr.heap.size + 1) (some ⟨wr.heap.size, 0, none⟩) 1 1 [.string (s.extract fr s.size)] rfl (reads_new _ _ _) (by intro u hu; simp at hu; subst hu; rfl) (by simp only [maxLen]; omega) (by omega) (by have := HB.out.size; simp; omega) ?_; intro v2 w2 hown2 hg2 hat2; have HO2 := Lib.hid hown2; clear hown2; have HG2 := Lib.hid hg2; clear hg2; clear hat2)
      have HG3 : Hid ((wr.alloc (Obj.cells #[Value.string (s.extract fr s.size)] 9)).grownBy w2 u5.ownBlock) := HG2.out
      clear HG2
      go_ret
      refine ⟨v2, rfl, ?_, (HB.out.alloc HB.out.size _).grown HG3.out (by have := HB.out.size; simp; omega) (fun b hb => (HO.out.lt b hb).1)⟩
      have e := HC.out.done (by omega)
      refine Strs.of_own (n := done.length + 1) (base := w.heap.size) ?_ (by rw [← e]; simp)
      rw [← e, List.map_append]
      exact HO2.out
end Go.Proofs.YtlenlldiimohjaaGreatDoor

namespace Go.Proofs.YtlenlldiimohjaaGreatDoor
open Go.ChangeShapes Go.WideShapes Go.ChangeAt Go.RowKit

theorem get_bang (s : ByteArray) (i : Nat) (h : i < s.size) : s.get! i = s[i] := by
  have := get_at s i h
  rwa [Nat.add_zero] at this

theorem within_calls (s : ByteArray) (i lo hi : Nat) (w : World) :
    Calls Tryz.prog 194 #[.string s, .int .i64 (i : Int), .int .u8 (lo : Int), .int .u8 (hi : Int)] w fun e w' => e = .returned (.bool (withinB s i lo hi)) ∧ w = w' := by
  by_cases hi1 : i < s.size
  · have hb : withinB s i lo hi = (decide (lo ≤ s[i].toNat) && decide (s[i].toNat ≤ hi)) := by
      unfold withinB; rw [decide_eq_true hi1, Bool.true_and, get_bang s i hi1]
    have HB := Lib.hid hb; clear hb
    by_cases h1 : lo ≤ s[i].toNat
    · have d1 : decide ((lo : Int) ≤ (s[i].toNat : Int)) = true := decide_eq_true (by omega)
      by_cases h2 : s[i].toNat ≤ hi
      · have d2 : decide ((s[i].toNat : Int) ≤ (hi : Int)) = true := decide_eq_true (by omega)
        go_enter Tryz.func194, Tryz.ntmps194
        go_wp2
        go_ret
        refine ⟨ret_bool ?_, rfl⟩
        rw [HB.out, decide_eq_true h1, decide_eq_true h2]; rfl
      · have d2 : decide ((s[i].toNat : Int) ≤ (hi : Int)) = false := decide_eq_false (by omega)
        go_enter Tryz.func194, Tryz.ntmps194
        go_wp2
        go_ret
        refine ⟨ret_bool ?_, rfl⟩
        rw [HB.out, decide_eq_true h1, decide_eq_false h2]; rfl
    · have d1 : decide ((lo : Int) ≤ (s[i].toNat : Int)) = false := decide_eq_false (by omega)
      go_enter Tryz.func194, Tryz.ntmps194
      go_wp2
      go_ret
      refine ⟨ret_bool ?_, rfl⟩
      rw [HB.out, decide_eq_false h1]; rfl
  · have hb : withinB s i lo hi = false := by unfold withinB; rw [decide_eq_false hi1]; rfl
    have HB := Lib.hid hb; clear hb
    go_enter Tryz.func194, Tryz.ntmps194
    go_wp2
    go_ret
    exact ⟨ret_bool HB.out.symm, rfl⟩

/-- The byte at a place. -/
def byteAt (s : ByteArray) (i : Nat) : Nat := (s.get! i).toNat

theorem within_t {s : ByteArray} {i lo hi : Nat} (h : i < s.size ∧ lo ≤ byteAt s i ∧ byteAt s i ≤ hi) : withinB s i lo hi = true := by
  unfold withinB; simp only [Bool.and_eq_true, decide_eq_true_eq]; exact h
theorem within_f {s : ByteArray} {i lo hi : Nat} (h : ¬ (i < s.size ∧ lo ≤ byteAt s i ∧ byteAt s i ≤ hi)) : withinB s i lo hi = false := by
  rw [← Bool.not_eq_true]
  unfold withinB; simp only [Bool.and_eq_true, decide_eq_true_eq]; exact h

theorem within_q (s : ByteArray) (i k : Nat) (a lo hi : Int) (w : World) (h0 : a = (i : Int) + (k : Int)) (h1 : 0 ≤ lo) (h2 : 0 ≤ hi) :
    Calls Tryz.prog 194 #[.string s, .int .i64 a, .int .u8 lo, .int .u8 hi] w fun e w' => (e = .returned (.bool true) ∧ w = w' ∧ (i + k < s.size ∧ lo ≤ (byteAt s (i + k) : Int) ∧ (byteAt s (i + k) : Int) ≤ hi)) ∨ (e = .returned (.bool false) ∧ w = w' ∧ ¬ (i + k < s.size ∧ lo ≤ (byteAt s (i + k) : Int) ∧ (byteAt s (i + k) : Int) ≤ hi)) := by
  obtain ⟨b, rfl⟩ := Int.eq_ofNat_of_zero_le h1
  obtain ⟨c, rfl⟩ := Int.eq_ofNat_of_zero_le h2
  have e : a = ((i + k : Nat) : Int) := by omega
  subst e
  refine (within_calls s (i + k) b c w).mono fun e w' ⟨he, hw⟩ => ?_
  by_cases h : i + k < s.size ∧ b ≤ byteAt s (i + k) ∧ byteAt s (i + k) ≤ c
  · rw [within_t h] at he
    exact .inl ⟨he, hw, by omega⟩
  · rw [within_f h] at he
    exact .inr ⟨he, hw, by omega⟩

theorem charW_arith (s : ByteArray) (i : Nat) : charW s i =
    if i < s.size ∧ 0 ≤ byteAt s i ∧ byteAt s i ≤ 127 then 1
    else if (i < s.size ∧ 194 ≤ byteAt s i ∧ byteAt s i ≤ 223) ∧ (i + 1 < s.size ∧ 128 ≤ byteAt s (i + 1) ∧ byteAt s (i + 1) ≤ 191) then 2
    else if ((i < s.size ∧ 224 ≤ byteAt s i ∧ byteAt s i ≤ 239) ∧ (i + 1 < s.size ∧ (if i < s.size ∧ 224 ≤ byteAt s i ∧ byteAt s i ≤ 224 then 160 else 128) ≤ byteAt s (i + 1) ∧ byteAt s (i + 1) ≤ (if i < s.size ∧ 237 ≤ byteAt s i ∧ byteAt s i ≤ 237 then 159 else 191))) ∧ (i + 2 < s.size ∧ 128 ≤ byteAt s (i + 2) ∧ byteAt s (i + 2) ≤ 191) then 3
    else if (((i < s.size ∧ 240 ≤ byteAt s i ∧ byteAt s i ≤ 244) ∧ (i + 1 < s.size ∧ (if i < s.size ∧ 240 ≤ byteAt s i ∧ byteAt s i ≤ 240 then 144 else if i < s.size ∧ 224 ≤ byteAt s i ∧ byteAt s i ≤ 224 then 160 else 128) ≤ byteAt s (i + 1) ∧ byteAt s (i + 1) ≤ (if i < s.size ∧ 244 ≤ byteAt s i ∧ byteAt s i ≤ 244 then 143 else if i < s.size ∧ 237 ≤ byteAt s i ∧ byteAt s i ≤ 237 then 159 else 191))) ∧ (i + 2 < s.size ∧ 128 ≤ byteAt s (i + 2) ∧ byteAt s (i + 2) ≤ 191)) ∧ (i + 3 < s.size ∧ 128 ≤ byteAt s (i + 3) ∧ byteAt s (i + 3) ≤ 191) then 4 else 0 := by
  unfold charW withinB byteAt
  simp only [Bool.and_eq_true, decide_eq_true_eq]

set_option maxHeartbeats 8000000 in
theorem char_calls (s : ByteArray) (i : Nat) (w : World) (hi : i ≤ 16777216) :
    Calls Tryz.prog 175 #[.string s, .int .i64 (i : Int)] w fun e w' => e = .returned (.int .i64 (charW s i : Int)) ∧ w = w' := by
  have hw : ∀ n : Nat, charW s i = n → (n : Int) = (charW s i : Int) := fun n h => by rw [h]
  have HW := Lib.hid hw; clear hw
  go_enter Tryz.func175, Tryz.ntmps175
  go_wp2_with (go_at_call 194; (first | refine (within_q s i 0 _ _ _ _ (by omega) (by omega) (by omega)).mono ?_ | refine (within_q s i 1 _ _ _ _ (by omega) (by omega) (by omega)).mono ?_ | refine (within_q s i 2 _ _ _ _ (by omega) (by omega) (by omega)).mono ?_ | refine (within_q s i 3 _ _ _ _ (by omega) (by omega) (by omega)).mono ?_); rintro e w' (⟨rfl, rfl, hq⟩ | ⟨rfl, rfl, hq⟩) <;> first | (exfalso; omega) | skip)
  all_goals
    go_ret
    refine ⟨ret_int (HW.out _ ?_), rfl⟩
    clear HW
    simp only [Nat.add_zero] at *
    rw [charW_arith]
    repeat' split
    all_goals omega

end Go.Proofs.YtlenlldiimohjaaGreatDoor

namespace Go.Proofs.YtlenlldiimohjaaGreatDoor
open Go.ChangeShapes Go.WideShapes Go.ChangeAt Go.RowKit

theorem charW_le (s : ByteArray) (i : Nat) : charW s i ≤ 4 := by
  rw [charW_arith]
  repeat' split
  all_goals omega

/-- Bad: the place of the first bad piece. -/
theorem bad_calls (s : ByteArray) (w : World) (hs : s.size ≤ 16777216) :
    Calls Tryz.prog 156 #[.string s] w fun e w' => e = .returned (.int .i64 (badR s s.size 0 : Int)) ∧ w = w' := by
  go_enter Tryz.func156, Tryz.ntmps156
  go_wp2_with fail
  go_loop [3] (fun c => ∃ i f : Nat, c = .int .i64 i ∧ i ≤ s.size + 4 ∧ s.size ≤ i + f ∧ badR s f i = badR s s.size 0) (fun c => s.size - (intOf c).toNat)
  case atStart => exact ⟨0, s.size, rfl, by omega, by omega, rfl⟩
  case round =>
    obtain ⟨i, f, rfl, hi, hf, hb⟩ := hrel
    have HB := Lib.hid hb; clear hb
    by_cases hlt : i < s.size
    · have hcw := charW_le s i
      obtain ⟨f, rfl⟩ : ∃ f', f = f' + 1 := ⟨f - 1, by omega⟩
      by_cases hz : charW s i = 0
      · have HR := Lib.hid (show badR s s.size 0 = i from by rw [← HB.out, badR, if_pos hlt, if_pos (.inl hz)])
        go_wp2_with fail
        refine (char_calls s i _ (by omega)).mono ?_
        rintro e w' ⟨rfl, rfl⟩
        rw [hz]
        have hzz : (((0 : Nat) : Int) == 0) = true := rfl
        go_wp2_with fail
        go_ret
        exact ⟨ret_int (by rw [HR.out]), rfl⟩
      · have hzz : (((charW s i : Nat) : Int) == 0) = false := by rw [beq_eq_false_iff_ne]; omega
        by_cases h0 : s[i].toNat = 0
        · have HR := Lib.hid (show badR s s.size 0 = i from by rw [← HB.out, badR, if_pos hlt, if_pos (.inr (by rw [get_bang s i hlt]; exact h0))])
          have h00 : ((s[i].toNat : Int) == 0) = true := by rw [h0]; rfl
          have HZ := Lib.hid hz; clear hz
          have H0 := Lib.hid h0; clear h0
          go_wp2_with fail
          refine (char_calls s i _ (by omega)).mono ?_
          rintro e w' ⟨rfl, rfl⟩
          generalize charW s i = cw at hzz hcw HZ ⊢
          go_wp2_with fail
          go_ret
          exact ⟨ret_int (by rw [HR.out]), rfl⟩
        · have HR := Lib.hid (show badR s f (i + charW s i) = badR s s.size 0 from by rw [← HB.out, badR, if_pos hlt, if_neg (by rintro (h | h); exact hz h; exact h0 (by rwa [get_bang s i hlt] at h))])
          have h00 : ((s[i].toNat : Int) == 0) = false := by rw [beq_eq_false_iff_ne]; omega
          have HZ := Lib.hid hz; clear hz
          have H0 := Lib.hid h0; clear h0
          go_wp2_with fail
          refine (char_calls s i _ (by omega)).mono ?_
          rintro e w' ⟨rfl, rfl⟩
          generalize charW s i = cw at hzz hcw HZ HR ⊢
          go_wp2_with fail
          have hz2 := HZ.out
          go_round
          case rel => exact ⟨i + cw, f, by go_num, by omega, by omega, HR.out⟩
          case measure => simp [intOf]; omega
    · have HR := Lib.hid (show badR s s.size 0 = s.size from by
        rw [← HB.out]
        cases f with
        | zero => rfl
        | succ f => rw [badR, if_neg hlt])
      go_wp2_with fail
      go_ret
      exact ⟨ret_int (by rw [HR.out]), rfl⟩

theorem good_calls (s : ByteArray) (w : World) (hs : s.size ≤ 16777216) :
    Calls Tryz.prog 135 #[.string s] w fun e w' => e = .returned (.bool (good s)) ∧ w = w' := by
  have hg := badR_good s s.size 0
  by_cases h : badR s s.size 0 = s.size
  · have HG := Lib.hid (show good s = true from hg.1 h)
    clear hg
    have hz : (((badR s s.size 0 : Nat) : Int) == (s.size : Int)) = true := by rw [h]; exact beq_self_eq_true _
    have HH := Lib.hid h; clear h
    go_enter Tryz.func135, Tryz.ntmps135
    go_wp2_with fail
    refine (bad_calls s _ hs).mono ?_
    rintro e w' ⟨rfl, rfl⟩
    generalize badR s s.size 0 = b at hz HH ⊢
    go_wp2_with fail
    go_ret
    exact ⟨ret_bool HG.out.symm, rfl⟩
  · have HG := Lib.hid (show good s = false from by rw [← Bool.not_eq_true]; exact fun e => h (hg.2 e))
    clear hg
    have hz : (((badR s s.size 0 : Nat) : Int) == (s.size : Int)) = false := by rw [beq_eq_false_iff_ne]; omega
    have HH := Lib.hid h; clear h
    go_enter Tryz.func135, Tryz.ntmps135
    go_wp2_with fail
    refine (bad_calls s _ hs).mono ?_
    rintro e w' ⟨rfl, rfl⟩
    generalize badR s s.size 0 = b at hz HH ⊢
    go_wp2_with fail
    go_ret
    exact ⟨ret_bool HG.out.symm, rfl⟩
end Go.Proofs.YtlenlldiimohjaaGreatDoor

namespace Go.Proofs.YtlenlldiimohjaaGreatDoor
open Go.ChangeShapes Go.WideShapes Go.ChangeAt Go.RowKit

/-- The first of the tests on a byte that says no; or none does. -/
theorem nameByte_cases (c : UInt8) :
    (byteOk c = true ∧ (decide ((c.toNat : Int) < 33) = false ∧ ((c.toNat : Int) == 127) = false ∧ ((c.toNat : Int) == 58) = false ∧ ((c.toNat : Int) == 44) = false ∧ ((c.toNat : Int) == 35) = false ∧ ((c.toNat : Int) == 47) = false)) ∨
    (byteOk c = false ∧ (decide ((c.toNat : Int) < 33) = true ∨ (decide ((c.toNat : Int) < 33) = false ∧ ((c.toNat : Int) == 127) = true) ∨
      (decide ((c.toNat : Int) < 33) = false ∧ ((c.toNat : Int) == 127) = false ∧ ((c.toNat : Int) == 58) = true) ∨
      (decide ((c.toNat : Int) < 33) = false ∧ ((c.toNat : Int) == 127) = false ∧ ((c.toNat : Int) == 58) = false ∧ ((c.toNat : Int) == 44) = true) ∨
      (decide ((c.toNat : Int) < 33) = false ∧ ((c.toNat : Int) == 127) = false ∧ ((c.toNat : Int) == 58) = false ∧ ((c.toNat : Int) == 44) = false ∧ ((c.toNat : Int) == 35) = true) ∨
      (decide ((c.toNat : Int) < 33) = false ∧ ((c.toNat : Int) == 127) = false ∧ ((c.toNat : Int) == 58) = false ∧ ((c.toNat : Int) == 44) = false ∧ ((c.toNat : Int) == 35) = false ∧ ((c.toNat : Int) == 47) = true))) := by
  have key (n : Nat) : ((c.toNat : Int) == (n : Int)) = decide (c.toNat = n) := by
    rw [Bool.eq_iff_iff, beq_iff_eq, decide_eq_true_iff]; omega
  have k0 : decide ((c.toNat : Int) < 33) = decide (c.toNat < 33) := by rw [Bool.eq_iff_iff, decide_eq_true_iff, decide_eq_true_iff]; omega
  have k1 := key 127
  have k2 := key 58
  have k3 := key 44
  have k4 := key 35
  have k5 := key 47
  simp only [Int.cast_ofNat_Int] at k1 k2 k3 k4 k5
  rw [k0, k1, k2, k3, k4, k5]
  unfold byteOk
  cases decide (c.toNat < 33) <;> cases decide (c.toNat = 127) <;> cases decide (c.toNat = 58) <;> cases decide (c.toNat = 44) <;> cases decide (c.toNat = 35) <;> cases decide (c.toNat = 47) <;> simp

theorem all_step {s : ByteArray} {k : Nat} {p : UInt8 → Bool} (hk : k < s.size) (h : (s.data.toList.take k).all p = true) : (s.data.toList.take (k + 1)).all p = p s[k] := by
  have hl : k < s.data.toList.length := by simpa using hk
  rw [List.take_succ_eq_append_getElem hl, List.all_append, h, Bool.true_and, List.all_cons, List.all_nil, Bool.and_true]
  rfl
theorem all_no {s : ByteArray} {k : Nat} {p : UInt8 → Bool} (hk : k < s.size) (h : p s[k] = false) : s.data.toList.all p = false := by
  rw [List.all_eq_false]
  refine ⟨s[k], ?_, by rw [h]; exact Bool.false_ne_true⟩
  exact Array.mem_toList_iff.2 (Array.getElem_mem hk)
theorem all_end {s : ByteArray} {k : Nat} {p : UInt8 → Bool} (hk : s.size ≤ k) (h : (s.data.toList.take k).all p = true) : s.data.toList.all p = true := by
  rwa [List.take_of_length_le (by simpa using hk)] at h

theorem refName_calls (s : ByteArray) (w : World) (hs : s.size ≤ 16777216) :
    Calls Tryz.prog 142 #[.string s] w fun e w' => e = .returned (.bool (isName s)) ∧ w = w' := by
  by_cases h0 : s.size < 1
  · have HR := Lib.hid (show isName s = false from by unfold isName; rw [decide_eq_false (by omega : ¬ 1 ≤ s.size)]; rfl)
    go_enter Tryz.func142, Tryz.ntmps142
    go_wp2_with fail
    go_ret
    exact ⟨ret_bool HR.out.symm, rfl⟩
  · by_cases h1 : 32 < s.size
    · have HR := Lib.hid (show isName s = false from by unfold isName; rw [decide_eq_false (by omega : ¬ s.size ≤ 32), Bool.and_false]; rfl)
      go_enter Tryz.func142, Tryz.ntmps142
      go_wp2_with fail
      go_ret
      exact ⟨ret_bool HR.out.symm, rfl⟩
    · have HR := Lib.hid (show isName s = (good s && s.data.toList.all byteOk) from by unfold isName; rw [decide_eq_true (by omega : 1 ≤ s.size), decide_eq_true (by omega : s.size ≤ 32)]; rfl)
      cases hg : good s with
      | false =>
        have HG := Lib.hid hg; clear hg
        go_enter Tryz.func142, Tryz.ntmps142
        go_wp2_with (go_at_call 135; refine (good_calls s _ (by omega)).mono ?_; rw [HG.out]; rintro e w' ⟨rfl, rfl⟩)
        go_ret
        exact ⟨ret_bool (by rw [HR.out, HG.out]; rfl), rfl⟩
      | true =>
        have HG := Lib.hid hg; clear hg
        go_enter Tryz.func142, Tryz.ntmps142
        go_wp2_with (go_at_call 135; refine (good_calls s _ (by omega)).mono ?_; rw [HG.out]; rintro e w' ⟨rfl, rfl⟩)
        go_loop [3] (fun c => ∃ k : Nat, k ≤ s.size ∧ c = .int .i64 k ∧ (s.data.toList.take k).all byteOk = true) (fun c => s.size - (intOf c).toNat)
        case atStart => exact ⟨0, by omega, rfl, rfl⟩
        case round =>
          obtain ⟨k, hk, rfl, hall⟩ := hrel
          have HA := Lib.hid hall; clear hall
          by_cases hlt : k < s.size
          · rcases nameByte_cases s[k] with ⟨hok, f1, f2, f3, f4, f5, f6⟩ | ⟨hok, hf⟩
            · have HK := Lib.hid hok; clear hok
              go_wp2_with fail
              go_round
              case rel => exact ⟨k + 1, by omega, by go_num, by rw [all_step hlt HA.out]; exact HK.out⟩
              case measure => simp [intOf]; omega
            · have HK := Lib.hid hok; clear hok
              rcases hf with f1 | ⟨f1, f2⟩ | ⟨f1, f2, f3⟩ | ⟨f1, f2, f3, f4⟩ | ⟨f1, f2, f3, f4, f5⟩ | ⟨f1, f2, f3, f4, f5, f6⟩
              all_goals
                go_wp2_with fail
                go_ret
                exact ⟨ret_bool (by rw [HR.out, HG.out, all_no hlt HK.out]; rfl), rfl⟩
          · go_wp2_with fail
            go_ret
            exact ⟨ret_bool (by rw [HR.out, HG.out, all_end (by omega) HA.out]; rfl), rfl⟩

theorem keyByte_cases (c : UInt8) :
    (keyByte c = true ∧ (decide ((c.toNat : Int) < 33) = false ∧ decide ((126 : Int) < (c.toNat : Int)) = false ∧ ((c.toNat : Int) == 58) = false)) ∨
    (keyByte c = false ∧ (decide ((c.toNat : Int) < 33) = true ∨ (decide ((c.toNat : Int) < 33) = false ∧ decide ((126 : Int) < (c.toNat : Int)) = true) ∨
      (decide ((c.toNat : Int) < 33) = false ∧ decide ((126 : Int) < (c.toNat : Int)) = false ∧ ((c.toNat : Int) == 58) = true))) := by
  have k0 : decide ((c.toNat : Int) < 33) = decide (c.toNat < 33) := by rw [Bool.eq_iff_iff, decide_eq_true_iff, decide_eq_true_iff]; omega
  have k1 : decide ((126 : Int) < (c.toNat : Int)) = decide (126 < c.toNat) := by rw [Bool.eq_iff_iff, decide_eq_true_iff, decide_eq_true_iff]; omega
  have k2 : ((c.toNat : Int) == 58) = decide (c.toNat = 58) := by
    rw [Bool.eq_iff_iff, beq_iff_eq, decide_eq_true_iff]; omega
  rw [k0, k1, k2]
  unfold keyByte
  cases decide (c.toNat < 33) <;> cases decide (126 < c.toNat) <;> cases decide (c.toNat = 58) <;> simp

theorem refKey_calls (s : ByteArray) (w : World) :
    Calls Tryz.prog 143 #[.string s] w fun e w' => e = .returned (.bool (isKey s)) ∧ w = w' := by
  by_cases h1 : 32 < s.size
  · have HR := Lib.hid (show isKey s = false from by unfold isKey; rw [decide_eq_false (by omega : ¬ s.size ≤ 32)]; rfl)
    go_enter Tryz.func143, Tryz.ntmps143
    go_wp2_with fail
    go_ret
    exact ⟨ret_bool HR.out.symm, rfl⟩
  · have HR := Lib.hid (show isKey s = s.data.toList.all keyByte from by unfold isKey; rw [decide_eq_true (by omega : s.size ≤ 32)]; rfl)
    go_enter Tryz.func143, Tryz.ntmps143
    go_wp2_with fail
    go_loop [3] (fun c => ∃ k : Nat, k ≤ s.size ∧ c = .int .i64 k ∧ (s.data.toList.take k).all keyByte = true) (fun c => s.size - (intOf c).toNat)
    case atStart => exact ⟨0, by omega, rfl, rfl⟩
    case round =>
      obtain ⟨k, hk, rfl, hall⟩ := hrel
      have HA := Lib.hid hall; clear hall
      by_cases hlt : k < s.size
      · rcases keyByte_cases s[k] with ⟨hok, f1, f2, f3⟩ | ⟨hok, hf⟩
        · have HK := Lib.hid hok; clear hok
          go_wp2_with fail
          go_round
          case rel => exact ⟨k + 1, by omega, by go_num, by rw [all_step hlt HA.out]; exact HK.out⟩
          case measure => simp [intOf]; omega
        · have HK := Lib.hid hok; clear hok
          rcases hf with f1 | ⟨f1, f2⟩ | ⟨f1, f2, f3⟩
          all_goals
            go_wp2_with fail
            go_ret
            exact ⟨ret_bool (by rw [HR.out, all_no hlt HK.out]), rfl⟩
      · go_wp2_with fail
        go_ret
        exact ⟨ret_bool (by rw [HR.out, all_end (by omega) HA.out]), rfl⟩
end Go.Proofs.YtlenlldiimohjaaGreatDoor

namespace Go.Proofs.YtlenlldiimohjaaGreatDoor
open Go.ChangeShapes Go.WideShapes Go.ChangeAt Go.RowKit

theorem empty_t {s : ByteArray} (h : s.size = 0) : s.toList.isEmpty = true := by
  rw [ByteArray.toList_eq, List.isEmpty_iff, Array.toList_eq_nil_iff, ← Array.size_eq_zero_iff]; exact h
theorem empty_f {s : ByteArray} (h : ¬ s.size = 0) : s.toList.isEmpty = false := by
  rw [← Bool.not_eq_true]
  intro e
  rw [ByteArray.toList_eq, List.isEmpty_iff, Array.toList_eq_nil_iff, ← Array.size_eq_zero_iff] at e
  exact h e

theorem lall_step {α : Type} {l : List α} {k : Nat} {x : α} {p : α → Bool} (hk : l[k]? = some x) (h : (l.take k).all p = true) : (l.take (k + 1)).all p = p x := by
  obtain ⟨hl, rfl⟩ := List.getElem?_eq_some_iff.1 hk
  rw [List.take_succ_eq_append_getElem hl, List.all_append, h, Bool.true_and, List.all_cons, List.all_nil, Bool.and_true]
theorem lall_no {α : Type} {l : List α} {k : Nat} {x : α} {p : α → Bool} (hk : l[k]? = some x) (h : p x = false) : l.all p = false := by
  rw [List.all_eq_false]
  exact ⟨x, List.mem_of_getElem? hk, by rw [h]; exact Bool.false_ne_true⟩
theorem lall_end {α : Type} {l : List α} {k : Nat} {p : α → Bool} (hk : l.length ≤ k) (h : (l.take k).all p = true) : l.all p = true := by
  rwa [List.take_of_length_le hk] at h

/-- The sizes of an account's texts. -/
def Small (a : Acct) : Prop := a.name.size ≤ 16777216 ∧ a.leader.size ≤ 16777216 ∧ a.key.size ≤ 16777216 ∧ ∀ m ∈ a.members, m.size ≤ 16777216

def acctV (a : Acct) (mv : Value) : Value := .agg #[.string a.name, .string a.leader, mv, .string a.key]

theorem right_calls (a : Acct) (mv : Value) (w : World) (hm : Strs w mv a.members) (hs : Small a) :
    Calls Tryz.prog 117 #[acctV a mv] w fun e w' => e = .returned (.bool (formed a)) ∧ Below w.heap.size w w' := by
  obtain ⟨A, c, rfl, hlc, hcm, -⟩ := id hm
  unfold maxLen at hcm
  have HM := Lib.hid hm; clear hm
  obtain ⟨s1, s2, s3, s4⟩ := hs
  have S4 := Lib.hid s4; clear s4
  unfold acctV
  cases hn : isName a.name with
  | false =>
    have HN := Lib.hid hn; clear hn
    have HR := Lib.hid (show formed a = false from by unfold formed; rw [HN.out]; rfl)
    go_enter Tryz.func117, Tryz.ntmps117
    go_wp2_with (go_at_call 142; refine (refName_calls _ _ (by assumption)).mono ?_; rw [HN.out]; rintro e w' ⟨rfl, rfl⟩)
    go_ret
    exact ⟨ret_bool HR.out.symm, (Below.refl _ _).alloc (Nat.le_refl _) _⟩
  | true =>
    have HN := Lib.hid hn; clear hn
    have hlc2 : (a.leader.toList.isEmpty = true ∧ a.leader.toList = [] ∧ Hid (formed a = (a.members.all isName && isKey a.key))) ∨
        (a.leader.toList.isEmpty = false ∧ Hid (isName a.leader = true) ∧ Hid (formed a = (a.members.all isName && isKey a.key))) ∨
        (a.leader.toList.isEmpty = false ∧ Hid (isName a.leader = false) ∧ Hid (formed a = false)) := by
      by_cases h0 : a.leader.size = 0
      · refine .inl ⟨empty_t h0, List.isEmpty_iff.1 (empty_t h0), ?_⟩
        show formed a = _
        unfold formed; rw [HN.out, decide_eq_true h0]; rfl
      · cases hl : isName a.leader with
        | true =>
          refine .inr (.inl ⟨empty_f h0, rfl, ?_⟩)
          show formed a = _
          unfold formed; rw [HN.out, hl, Bool.or_true]; rfl
        | false =>
          refine .inr (.inr ⟨empty_f h0, rfl, ?_⟩)
          show formed a = _
          unfold formed; rw [HN.out, hl, decide_eq_false h0]; rfl
    rcases hlc2 with ⟨he, he2, HF⟩ | ⟨he, HL, HF⟩ | ⟨he, HL, HF⟩
    case inr.inr =>
      go_enter Tryz.func117, Tryz.ntmps117
      go_wp2_with (go_at_call 142; refine (refName_calls _ _ (by assumption)).mono ?_; (first | rw [HN.out] | rw [HL.out]); rintro e w' ⟨rfl, rfl⟩)
      go_ret
      exact ⟨ret_bool HF.out.symm, (Below.refl _ _).alloc (Nat.le_refl _) _⟩
    all_goals
      cases hk : isKey a.key with
      | false =>
        have HK := Lib.hid hk; clear hk
        go_enter Tryz.func117, Tryz.ntmps117
        go_wp2_with (first | (go_at_call 142; refine (refName_calls _ _ (by assumption)).mono ?_; (first | rw [HN.out] | rw [HL.out]); rintro e w' ⟨rfl, rfl⟩) | (go_at_call 143; refine (refKey_calls _ _).mono ?_; rw [HK.out]; rintro e w' ⟨rfl, rfl⟩))
        go_ret
        exact ⟨ret_bool (by rw [HF.out, HK.out, Bool.and_false]), (Below.refl _ _).alloc (Nat.le_refl _) _⟩
      | true =>
        have HK := Lib.hid hk; clear hk
        go_enter Tryz.func117, Tryz.ntmps117
        go_wp2_with (first | (go_at_call 142; refine (refName_calls _ _ (by assumption)).mono ?_; (first | rw [HN.out] | rw [HL.out]); rintro e w' ⟨rfl, rfl⟩) | (go_at_call 143; refine (refKey_calls _ _).mono ?_; rw [HK.out]; rintro e w' ⟨rfl, rfl⟩))
        have hb : Below w.heap.size w (w.alloc (Obj.cells #[.string a.name, .string a.leader, .slice A a.members.length c, .string a.key] 127)) := (Below.refl _ _).alloc (Nat.le_refl _) _
        have hc2 : (w.alloc (Obj.cells #[.string a.name, .string a.leader, .slice A a.members.length c, .string a.key] 127)).cell? ⟨w.heap.size, 2, none⟩ = some (.slice A a.members.length c) := (Blk.new w _ _).cell 2
        have HM2 := Lib.hid (HM.out.alloc (Obj.cells #[.string a.name, .string a.leader, .slice A a.members.length c, .string a.key] 127))
        generalize w.alloc (Obj.cells #[.string a.name, .string a.leader, .slice A a.members.length c, .string a.key] 127) = w1 at hb hc2 HM2 ⊢
        have HB := Lib.hid hb; clear hb
        clear HM he
        go_loop [3] (fun i => ∃ k : Nat, k ≤ a.members.length ∧ i = .int .i64 k ∧ (a.members.take k).all isName = true) (fun i => a.members.length - (intOf i).toNat)
        case atStart => exact ⟨0, by omega, rfl, rfl⟩
        case round =>
          obtain ⟨k, hk, rfl, hall⟩ := hrel
          have HA := Lib.hid hall; clear hall
          by_cases hlt : k < a.members.length
          · obtain ⟨x, hkx⟩ : ∃ x, a.members[k]? = some x := ⟨a.members[k], List.getElem?_eq_getElem hlt⟩
            obtain ⟨g, o, c', hv, _, h0⟩ := HM2.out.at_ hkx
            injection hv with e1 _ e3
            subst e1; subst e3
            have hxs := S4.out x (List.mem_of_getElem? hkx)
            have HKX := Lib.hid hkx; clear hkx
            cases hnx : isName x with
            | false =>
              have HNX := Lib.hid hnx; clear hnx
              go_wp2_with (go_at_call 142; refine (refName_calls _ _ (by assumption)).mono ?_; rw [HNX.out]; rintro e w' ⟨rfl, rfl⟩)
              go_ret
              exact ⟨ret_bool (by rw [HF.out, lall_no HKX.out HNX.out]; rfl), HB.out⟩
            | true =>
              have HNX := Lib.hid hnx; clear hnx
              go_wp2_with (go_at_call 142; refine (refName_calls _ _ (by assumption)).mono ?_; rw [HNX.out]; rintro e w' ⟨rfl, rfl⟩)
              go_round
              case rel => exact ⟨k + 1, by omega, by go_num, by rw [lall_step HKX.out HA.out]; exact HNX.out⟩
              case measure => simp [intOf]; omega
          · go_wp2_with fail
            go_ret
            exact ⟨ret_bool (by rw [HF.out, HK.out, lall_end (by omega) HA.out]; rfl), HB.out⟩
end Go.Proofs.YtlenlldiimohjaaGreatDoor

namespace Go.Proofs.YtlenlldiimohjaaGreatDoor
open Go.ChangeShapes Go.WideShapes Go.ChangeAt Go.RowKit

/-- What an account's reader gives back. -/
def AcctAns (line : ByteArray) (w : World) (e : Ending) (w' : World) : Prop :=
  Below w.heap.size w w' ∧ match account line with
    | none => e = .returned (.tuple #[.agg #[.string ⟨#[]⟩, .string ⟨#[]⟩, .slice none 0 0, .string ⟨#[]⟩], .bool false])
    | some a => ∃ mv, e = .returned (.tuple #[acctV a mv, .bool true]) ∧ Strs w' mv a.members

theorem cut_size {c : UInt8} {s x : ByteArray} (h : x ∈ cut c s) : x.size ≤ s.size := by
  have key : ∀ (l : List UInt8), ∀ y ∈ cutL c l, y.length ≤ l.length := by
    intro l
    induction l with
    | nil => intro y hy; simp [cutL] at hy; subst hy; simp
    | cons b l ih =>
      intro y hy
      unfold cutL at hy
      split at hy
      · rcases List.mem_cons.1 hy with rfl | h
        · simp
        · have := ih y h; simp; omega
      · split at hy
        · simp at hy; subst hy; simp
        · rename_i h t he
          rcases List.mem_cons.1 hy with rfl | h2
          · have := ih h (by rw [he]; simp); simp; omega
          · have := ih y (by rw [he]; simp [h2]); simp; omega
  unfold cut at h
  obtain ⟨y, hy, rfl⟩ := List.mem_map.1 h
  have := key _ y hy
  rw [Array.length_toList, ByteArray.size_data] at this
  exact this

theorem Strs.set_acct {w : World} {v : Value} {l : List ByteArray} {g : Nat} {cs : Array Value} (h : Strs w v l) (hg : Blk w g 127 cs) (i : Nat) (u : Value) : Strs (w.setCell ⟨g, i, none⟩ u) v l :=
  h.keep fun g' cur fr hg' => Below.heap_setCell _ _ _ _ (by
    rintro rfl
    unfold Blk at hg
    rw [hg] at hg'
    injection hg' with hg'
    injection hg' with _ ht
    exact absurd ht (by decide))

theorem refAccount_calls (line : ByteArray) (w : World) (hs : line.size ≤ 16777216) :
    Calls Tryz.prog 65 #[.string line] w (AcctAns line w) := by
  go_enter Tryz.func65, Tryz.ntmps65
  go_wp2_with fail
  refine (cuts_calls line 58 _ hs).mono ?_
  rintro e w1 ⟨v, rfl, hv, hb⟩
  rw [World.size_alloc] at hb
  have hb1 : Below w.heap.size w w1 := ((Below.refl _ _).alloc (Nat.le_refl _) _).trans (hb.mono (by omega))
  have hr0 : Blk w1 w.heap.size 127 #[.string ⟨#[]⟩, .string ⟨#[]⟩, .slice none 0 0, .string ⟨#[]⟩] := (hb.block _ (by omega)).trans (Blk.new _ _ _)
  have hz1 : w.heap.size + 1 ≤ w1.heap.size := by have := hb.size; simpa using this
  clear hb
  have HB1 := Lib.hid hb1; clear hb1
  have HR0 := Lib.hid hr0; clear hr0
  have HV := Lib.hid hv; clear hv
  generalize hcut : cut 58 line = l at HV
  have HCUT := Lib.hid hcut; clear hcut
  obtain ⟨A, c, rfl, hlc, hcm, -⟩ := HV.out
  unfold maxLen at hcm
  have d0 : w1.cell? ⟨w.heap.size, 0, none⟩ = some (.string ⟨#[]⟩) := HR0.out.cell 0
  have d1 : w1.cell? ⟨w.heap.size, 1, none⟩ = some (.string ⟨#[]⟩) := HR0.out.cell 1
  have d2 : w1.cell? ⟨w.heap.size, 2, none⟩ = some (.slice none 0 0) := HR0.out.cell 2
  have d3 : w1.cell? ⟨w.heap.size, 3, none⟩ = some (.string ⟨#[]⟩) := HR0.out.cell 3
  have f0 := HR0.out.frozen 0
  have f1 := HR0.out.frozen 1
  have f2 := HR0.out.frozen 2
  have f3 := HR0.out.frozen 3
  by_cases h4 : l.length = 4
  · obtain ⟨x0, x1, x2, x3, rfl⟩ : ∃ x0 x1 x2 x3, l = [x0, x1, x2, x3] := by
      match l, h4 with
      | [a, b, c, d], _ => exact ⟨a, b, c, d, rfl⟩
    clear h4
    obtain ⟨g, o, c', hv, _, c0⟩ := HV.out.at_ (k := 0) rfl
    injection hv with e1 _ e3
    subst e1; subst e3
    obtain ⟨g', o', c', hv, _, c1⟩ := HV.out.at_ (k := 1) rfl
    injection hv with e1 _ e3
    injection e1 with e1
    injection e1 with e1 e2
    subst e1; subst e2; clear e3
    obtain ⟨g', o', c', hv, _, c2⟩ := HV.out.at_ (k := 2) rfl
    injection hv with e1 _ e3
    injection e1 with e1
    injection e1 with e1 e2
    subst e1; subst e2; clear e3
    obtain ⟨g', o', c', hv, _, c3⟩ := HV.out.at_ (k := 3) rfl
    injection hv with e1 _ e3
    injection e1 with e1
    injection e1 with e1 e2
    subst e1; subst e2; clear e3
    simp only [List.length_cons, List.length_nil, Nat.zero_add, Nat.reduceAdd, Nat.add_zero] at hlc c0 ⊢
    have hgl : g < w1.heap.size := World.block_lt_of_cell? w1 _ c0
    go_wp2_with fail
    go_region
    have hb2 : Below w.heap.size w (w1.alloc (Obj.cells #[.string x0, .string x1, .slice none 0 0, .string x3] 127)).drew := (HB1.out.alloc HB1.out.size _).drew
    have ha2 : Blk (w1.alloc (Obj.cells #[.string x0, .string x1, .slice none 0 0, .string x3] 127)).drew w1.heap.size 127 #[.string x0, .string x1, .slice none 0 0, .string x3] := Blk.new w1 _ _
    have hr2 : Blk (w1.alloc (Obj.cells #[.string x0, .string x1, .slice none 0 0, .string x3] 127)).drew w.heap.size 127 #[.string ⟨#[]⟩, .string ⟨#[]⟩, .slice none 0 0, .string ⟨#[]⟩] := HR0.out.alloc _
    have hc2 : (w1.alloc (Obj.cells #[.string x0, .string x1, .slice none 0 0, .string x3] 127)).drew.cell? ⟨g, o + 2, none⟩ = some (.string x2) := (World.cell?_alloc_lt _ _ _ hgl).trans c2
    clear d0 d1 d2 d3 f0 f1 f2 f3 c0 c1 c2 c3 HR0 HV
    generalize (w1.alloc (Obj.cells #[.string x0, .string x1, .slice none 0 0, .string x3] 127)).drew = w2 at hb2 ha2 hr2 hc2 ⊢
    generalize hB1 : w1.heap.size = b1 at ha2 hgl hz1 ⊢
    have hwb : w.heap.size < b1 := hz1
    clear hB1 HB1 hz1 hgl
    have HB2 := Lib.hid hb2; clear hb2
    have HA2 := Lib.hid ha2; clear ha2
    have HR2 := Lib.hid hr2; clear hr2
    have hx2s : x2.size ≤ 16777216 := Nat.le_trans (cut_size (c := 58) (s := line) (by rw [HCUT.out]; simp)) hs
    go_upto_if 25 with (fail)
    go_cut [] (fun wx => ∃ mv, Blk wx b1 127 #[.string x0, .string x1, mv, .string x3] ∧ Strs wx mv (if x2.size = 0 then [] else cut 44 x2) ∧ Blk wx w.heap.size 127 #[.string ⟨#[]⟩, .string ⟨#[]⟩, .slice none 0 0, .string ⟨#[]⟩] ∧ Below w.heap.size w wx)
    case first =>
      by_cases hz : x2.size = 0
      · have he := empty_t hz
        have HZ := Lib.hid hz; clear hz
        rw [he]
        clear he
        go_wp2_with fail
        go_meet
        case rel => exact ⟨.slice none 0 0, HA2.out, by rw [if_pos HZ.out]; exact Strs.nil_ _, HR2.out, HB2.out⟩
      · have he := empty_f hz
        have HZ := Lib.hid hz; clear hz
        rw [he]
        clear he
        go_wp2_with fail
        refine (cuts_calls x2 44 _ hx2s).mono ?_
        rintro e w3 ⟨v3, rfl, hv3, hb3⟩
        have HA3 := Lib.hid (HA2.out.below hb3 HA2.out.lt)
        have HR3 := Lib.hid (HR2.out.below hb3 HR2.out.lt)
        have HB3 := Lib.hid (HB2.out.trans (hb3.mono HB2.out.size))
        clear hb3 hc2 HA2 HR2 HB2
        obtain ⟨A3, c3, rfl, -⟩ := id hv3
        have HV3 := Lib.hid hv3; clear hv3
        have d2 : w3.cell? ⟨b1, 2, none⟩ = some (.slice none 0 0) := HA3.out.cell 2
        have f2 := HA3.out.frozen 2
        go_wp2_with fail
        go_meet
        case rel =>
          refine ⟨_, HA3.out.set_ 2 _, ?_, HR3.out.far (by show w.heap.size ≠ b1; omega) _, HB3.out.setCell (Nat.le_of_lt hwb) _⟩
          rw [if_neg HZ.out]
          exact HV3.out.keep fun g' cur fr hg => Below.heap_setCell _ _ _ _ (by
            rintro rfl
            have h1 := HA3.out
            unfold Blk at h1
            rw [h1] at hg
            injection hg with hg
            injection hg with _ ht
            exact absurd ht (by decide))
    case rest =>
      obtain ⟨mv, ha3, hm3, hr3, hb3⟩ := hcut
      clear HB2 HA2 HR2 hc2
      generalize hms : (if x2.size = 0 then [] else cut 44 x2) = ms at hm3
      have hacc : account line = if formed ⟨x0, x1, ms, x3⟩ then some ⟨x0, x1, ms, x3⟩ else none := by
        unfold account
        rw [HCUT.out, ← hms]
      have hsm : Small ⟨x0, x1, ms, x3⟩ := by
        have hle : ∀ x ∈ cut 58 line, x.size ≤ 16777216 := fun x hx => Nat.le_trans (cut_size hx) hs
        rw [HCUT.out] at hle
        refine ⟨hle x0 (by simp), hle x1 (by simp), hle x3 (by simp), fun m hm => ?_⟩
        change m ∈ ms at hm
        rw [← hms] at hm
        split at hm
        · cases hm
        · exact Nat.le_trans (cut_size hm) hx2s
      have HACC := Lib.hid hacc; clear hacc
      have HSM := Lib.hid hsm; clear hsm
      clear hms HCUT
      have hwc : b1 < wc.heap.size := ha3.lt
      have HA3 := Lib.hid ha3; clear ha3
      have HR3 := Lib.hid hr3; clear hr3
      have HB3 := Lib.hid hb3; clear hb3
      obtain ⟨Am, cm, hmv, -⟩ := id hm3
      subst hmv
      have HM3 := Lib.hid hm3; clear hm3
      have a0 : wc.cell? ⟨b1, 0, none⟩ = some (.string x0) := HA3.out.cell 0
      have a1 : wc.cell? ⟨b1, 1, none⟩ = some (.string x1) := HA3.out.cell 1
      have a2 : wc.cell? ⟨b1, 2, none⟩ = some (.slice Am ms.length cm) := HA3.out.cell 2
      have a3 : wc.cell? ⟨b1, 3, none⟩ = some (.string x3) := HA3.out.cell 3
      go_wp2_with fail
      refine (right_calls ⟨x0, x1, ms, x3⟩ (.slice Am ms.length cm) _ HM3.out HSM.out).mono ?_
      rintro e w4 ⟨rfl, hb4⟩
      clear a0 a1 a2 a3
      have HA4 := Lib.hid (HA3.out.below hb4 HA3.out.lt)
      have HR4 := Lib.hid (HR3.out.below hb4 HR3.out.lt)
      have HM4 := Lib.hid (HM3.out.below hb4 (Nat.le_refl _))
      have HB4 := Lib.hid (HB3.out.trans (hb4.mono HB3.out.size))
      clear hb4 HA3 HR3 HM3 HB3
      have a0 : w4.cell? ⟨b1, 0, none⟩ = some (.string x0) := HA4.out.cell 0
      have a1 : w4.cell? ⟨b1, 1, none⟩ = some (.string x1) := HA4.out.cell 1
      have a2 : w4.cell? ⟨b1, 2, none⟩ = some (.slice Am ms.length cm) := HA4.out.cell 2
      have a3 : w4.cell? ⟨b1, 3, none⟩ = some (.string x3) := HA4.out.cell 3
      have r0 : w4.cell? ⟨w.heap.size, 0, none⟩ = some (.string ⟨#[]⟩) := HR4.out.cell 0
      have r1 : w4.cell? ⟨w.heap.size, 1, none⟩ = some (.string ⟨#[]⟩) := HR4.out.cell 1
      have r2 : w4.cell? ⟨w.heap.size, 2, none⟩ = some (.slice none 0 0) := HR4.out.cell 2
      have r3 : w4.cell? ⟨w.heap.size, 3, none⟩ = some (.string ⟨#[]⟩) := HR4.out.cell 3
      have f0 := HR4.out.frozen 0
      have f1 := HR4.out.frozen 1
      have f2 := HR4.out.frozen 2
      have f3 := HR4.out.frozen 3
      cases hfm : formed ⟨x0, x1, ms, x3⟩ with
      | false =>
        have HN := Lib.hid (show account line = none from by rw [HACC.out, hfm]; rfl)
        clear hfm HACC
        go_wp2_with fail
        refine bodyPost_ret (v := .tuple #[.agg #[.string ⟨#[]⟩, .string ⟨#[]⟩, .slice none 0 0, .string ⟨#[]⟩], .bool false]) (by simp [results, Tryz.results65, go_sem, r0, r1, r2, r3]) rfl ?_
        refine ⟨(((HB4.out.setCell (Nat.le_refl _) _).setCell (Nat.le_refl _) _).setCell (Nat.le_refl _) _).setCell (Nat.le_refl _) _, ?_⟩
        rw [HN.out]
      | true =>
        have HN := Lib.hid (show account line = some ⟨x0, x1, ms, x3⟩ from by rw [HACC.out, hfm]; rfl)
        clear hfm HACC
        go_wp2_with fail
        refine bodyPost_ret (v := .tuple #[.agg #[.string x0, .string x1, .slice Am ms.length cm, .string x3], .bool true]) (by simp [results, Tryz.results65, go_sem, r0, r1, r2, r3]) rfl ?_
        refine ⟨(((HB4.out.setCell (Nat.le_refl _) _).setCell (Nat.le_refl _) _).setCell (Nat.le_refl _) _).setCell (Nat.le_refl _) _, ?_⟩
        rw [HN.out]
        exact ⟨_, rfl, (((HM4.out.set_acct HR4.out _ _).set_acct (HR4.out.set_ _ _) _ _).set_acct ((HR4.out.set_ _ _).set_ _ _) _ _).set_acct (((HR4.out.set_ _ _).set_ _ _).set_ _ _) _ _⟩
  · have hacc : account line = none := by
      unfold account
      rw [HCUT.out]
      match l, h4 with
      | [], _ => rfl
      | [_], _ => rfl
      | [_, _], _ => rfl
      | [_, _, _], _ => rfl
      | [_, _, _, _], h => exact absurd rfl h
      | _ :: _ :: _ :: _ :: _ :: _, _ => rfl
    have HACC := Lib.hid hacc; clear hacc
    have hne : ((l.length : Int) != 4) = true := by rw [bne_iff_ne]; omega
    clear HCUT
    go_wp2_with fail
    refine bodyPost_ret (v := .tuple #[.agg #[.string ⟨#[]⟩, .string ⟨#[]⟩, .slice none 0 0, .string ⟨#[]⟩], .bool false]) (by simp [results, Tryz.results65, go_sem, d0, d1, d2, d3]) rfl ?_
    refine ⟨(((HB1.out.setCell (Nat.le_refl _) _).setCell (Nat.le_refl _) _).setCell (Nat.le_refl _) _).setCell (Nat.le_refl _) _, ?_⟩
    rw [HACC.out]
end Go.Proofs.YtlenlldiimohjaaGreatDoor

namespace Go.Proofs.YtlenlldiimohjaaGreatDoor
open Go.ChangeShapes Go.WideShapes Go.ChangeAt Go.RowKit

theorem findZ_known (L : List Acct) (s : ByteArray) : (known L s = true ∧ 0 ≤ findZ L s) ∨ (known L s = false ∧ findZ L s < 0) := by
  unfold findZ
  cases h : findIx L s with
  | none =>
    refine .inr ⟨?_, by simp⟩
    unfold findIx at h
    rw [List.findIdx?_eq_none_iff] at h
    unfold known
    rw [List.any_eq_false]
    intro x hx
    rw [h x hx]
    exact Bool.false_ne_true
  | some i =>
    refine .inl ⟨?_, by simp⟩
    unfold findIx at h
    rw [List.findIdx?_eq_some_iff_getElem] at h
    obtain ⟨hl, hp, _⟩ := h
    unfold known
    rw [List.any_eq_true]
    exact ⟨L[i], List.getElem_mem hl, hp⟩

theorem knows_calls (v : Value) (L : List Acct) (a : Acct) (mv : Value) (w : World) (hL : Accts w v L) (hm : Strs w mv a.members) :
    Calls Tryz.prog 68 #[v, acctV a mv] w fun e w' => e = .returned (.bool (knows L a)) ∧ Below w.heap.size w w' := by
  obtain ⟨A, c, rfl, hlc, hcm, -⟩ := id hm
  unfold maxLen at hcm
  have HM := Lib.hid hm; clear hm
  have HL := Lib.hid hL; clear hL
  unfold acctV
  have hcase : (a.leader.toList.isEmpty = true ∧ a.leader.toList = [] ∧ Hid (knows L a = a.members.all (known L))) ∨
      (a.leader.toList.isEmpty = false ∧ 0 ≤ findZ L a.leader ∧ Hid (knows L a = a.members.all (known L))) ∨
      (a.leader.toList.isEmpty = false ∧ findZ L a.leader < 0 ∧ Hid (knows L a = false)) := by
    by_cases h0 : a.leader.size = 0
    · exact .inl ⟨empty_t h0, List.isEmpty_iff.1 (empty_t h0), by show knows L a = _; unfold knows; rw [decide_eq_true h0]; rfl⟩
    · rcases findZ_known L a.leader with ⟨h1, h2⟩ | ⟨h1, h2⟩
      · exact .inr (.inl ⟨empty_f h0, h2, by show knows L a = _; unfold knows; rw [h1, Bool.or_true]; rfl⟩)
      · exact .inr (.inr ⟨empty_f h0, h2, by show knows L a = _; unfold knows; rw [h1, decide_eq_false h0]; rfl⟩)
  have hb : Below w.heap.size w (w.alloc (Obj.cells #[.string a.name, .string a.leader, .slice A a.members.length c, .string a.key] 127)) := (Below.refl _ _).alloc (Nat.le_refl _) _
  have HB := Lib.hid hb; clear hb
  rcases hcase with ⟨he, he2, HF⟩ | ⟨he, hz, HF⟩ | ⟨he, hz, HF⟩
  case inr.inr =>
    go_enter Tryz.func68, Tryz.ntmps68
    go_wp2_with (go_at_call 66; refine (find_calls _ L _ _ (HL.out.alloc _)).mono ?_; rintro e w' ⟨rfl, rfl⟩)
    go_ret
    exact ⟨ret_bool HF.out.symm, HB.out⟩
  all_goals
    go_enter Tryz.func68, Tryz.ntmps68
    go_wp2_with (go_at_call 66; refine (find_calls _ L _ _ (HL.out.alloc _)).mono ?_; rintro e w' ⟨rfl, rfl⟩)
    have hc2 : (w.alloc (Obj.cells #[.string a.name, .string a.leader, .slice A a.members.length c, .string a.key] 127)).cell? ⟨w.heap.size, 2, none⟩ = some (.slice A a.members.length c) := (Blk.new w _ _).cell 2
    have HM2 := Lib.hid (HM.out.alloc (Obj.cells #[.string a.name, .string a.leader, .slice A a.members.length c, .string a.key] 127))
    have HL2 := Lib.hid (HL.out.alloc (Obj.cells #[.string a.name, .string a.leader, .slice A a.members.length c, .string a.key] 127))
    generalize w.alloc (Obj.cells #[.string a.name, .string a.leader, .slice A a.members.length c, .string a.key] 127) = w1 at HB hc2 HM2 HL2 ⊢
    clear HM HL he
    go_loop [5] (fun i => ∃ k : Nat, k ≤ a.members.length ∧ i = .int .i64 k ∧ (a.members.take k).all (known L) = true) (fun i => a.members.length - (intOf i).toNat)
    case atStart => exact ⟨0, by omega, rfl, rfl⟩
    case round =>
      obtain ⟨k, hk, rfl, hall⟩ := hrel
      have HA := Lib.hid hall; clear hall
      by_cases hlt : k < a.members.length
      · obtain ⟨x, hkx⟩ : ∃ x, a.members[k]? = some x := ⟨a.members[k], List.getElem?_eq_getElem hlt⟩
        obtain ⟨g, o, c', hv, _, h0⟩ := HM2.out.at_ hkx
        injection hv with e1 _ e3
        subst e1; subst e3
        have HKX := Lib.hid hkx; clear hkx
        rcases findZ_known L x with ⟨hn, hzx⟩ | ⟨hn, hzx⟩
        · have HNX := Lib.hid hn; clear hn
          go_wp2_with (go_at_call 66; refine (find_calls _ L _ _ HL2.out).mono ?_; rintro e w' ⟨rfl, rfl⟩)
          go_round
          case rel => exact ⟨k + 1, by omega, by go_num, by rw [lall_step HKX.out HA.out]; exact HNX.out⟩
          case measure => simp [intOf]; omega
        · have HNX := Lib.hid hn; clear hn
          go_wp2_with (go_at_call 66; refine (find_calls _ L _ _ HL2.out).mono ?_; rintro e w' ⟨rfl, rfl⟩)
          go_ret
          exact ⟨ret_bool (by rw [HF.out, lall_no HKX.out HNX.out]), HB.out⟩
      · go_wp2_with fail
        go_ret
        exact ⟨ret_bool (by rw [HF.out, lall_end (by omega) HA.out]), HB.out⟩

theorem line_calls (a : Acct) (mv : Value) (w : World) (hm : Strs w mv a.members) (hll : (lineL a).length ≤ 1099511627776) :
    Calls Tryz.prog 119 #[acctV a mv] w fun e w' => e = .returned (.string (ofL (lineL a))) ∧ Below w.heap.size w w' := by
  obtain ⟨A, c, rfl, hlc, hcm, -⟩ := id hm
  unfold maxLen at hcm
  have HM := Lib.hid hm; clear hm
  rw [lineL_len] at hll
  have hn1 : a.name.size + a.leader.size + 2 ≤ 1099511627776 := by omega
  have HLL := Lib.hid hll; clear hll
  unfold acctV
  go_enter Tryz.func119, Tryz.ntmps119
  go_wp2_with fail
  have hb : Below w.heap.size w (w.alloc (Obj.cells #[.string a.name, .string a.leader, .slice A a.members.length c, .string a.key] 127)) := (Below.refl _ _).alloc (Nat.le_refl _) _
  have HB := Lib.hid hb; clear hb
  have hc2 : (w.alloc (Obj.cells #[.string a.name, .string a.leader, .slice A a.members.length c, .string a.key] 127)).cell? ⟨w.heap.size, 2, none⟩ = some (.slice A a.members.length c) := (Blk.new w _ _).cell 2
  have hc3 : (w.alloc (Obj.cells #[.string a.name, .string a.leader, .slice A a.members.length c, .string a.key] 127)).cell? ⟨w.heap.size, 3, none⟩ = some (.string a.key) := (Blk.new w _ _).cell 3
  have HM2 := Lib.hid (HM.out.alloc (Obj.cells #[.string a.name, .string a.leader, .slice A a.members.length c, .string a.key] 127))
  generalize w.alloc (Obj.cells #[.string a.name, .string a.leader, .slice A a.members.length c, .string a.key] 127) = w1 at HB hc2 hc3 HM2 ⊢
  clear HM
  go_loop [3, 4] (fun s i => ∃ k : Nat, k ≤ a.members.length ∧ i = .int .i64 k ∧ s = .string (ofL (a.name.data.toList ++ [58] ++ a.leader.data.toList ++ [58] ++ joinL [44] (a.members.take k)))) (fun _ i => a.members.length - (intOf i).toNat)
  case atStart =>
    refine ⟨0, by omega, rfl, ?_⟩
    congr 1
    apply ByteArray.ext
    simp [ofL, joinL, ByteArray.data_append]
  case round =>
    obtain ⟨k, hk, rfl, rfl⟩ := hrel
    have hsz : (ofL (a.name.data.toList ++ [58] ++ a.leader.data.toList ++ [58] ++ joinL [44] (a.members.take k))).size + a.key.size + 1 ≤ 1099511627776 := by
      have := joinL_take [44] a.members k
      have := HLL.out
      rw [ofL_size]
      simp
      omega
    have hsx : ∀ x, a.members[k]? = some x → (ofL (a.name.data.toList ++ [58] ++ a.leader.data.toList ++ [58] ++ joinL [44] (a.members.take k))).size + x.size + 1 ≤ 1099511627777 := by
      intro x hx
      have := joinL_get [44] a.members k x hx
      have := HLL.out
      rw [ofL_size]
      simp
      omega
    generalize hS : ofL (a.name.data.toList ++ [58] ++ a.leader.data.toList ++ [58] ++ joinL [44] (a.members.take k)) = S at hsz hsx ⊢
    have HS := Lib.hid hS; clear hS
    by_cases hlt : k < a.members.length
    · obtain ⟨x, hkx⟩ : ∃ x, a.members[k]? = some x := ⟨a.members[k], List.getElem?_eq_getElem hlt⟩
      obtain ⟨g, o, c', hv, _, h0⟩ := HM2.out.at_ hkx
      injection hv with e1 _ e3
      subst e1; subst e3
      have hsx := hsx x hkx
      have HKX := Lib.hid hkx; clear hkx
      have htk : a.members.take (k + 1) = a.members.take k ++ [x] := by
        obtain ⟨hl, rfl⟩ := List.getElem?_eq_some_iff.1 HKX.out
        exact List.take_succ_eq_append_getElem hl
      have HTK := Lib.hid htk; clear htk
      have hlk : (a.members.take k).length = k := by rw [List.length_take]; omega
      have HLK := Lib.hid hlk; clear hlk
      by_cases h1 : 0 < k
      · go_wp2_with fail
        go_round
        case rel =>
          refine ⟨k + 1, by omega, by go_num, ?_⟩
          congr 1
          rw [HTK.out, joinL_snoc, if_neg (by rw [HLK.out]; omega), ← HS.out]
          apply ByteArray.ext
          simp [ofL, ByteArray.data_append]
        case measure => simp [intOf]; omega
      · go_wp2_with fail
        go_round
        case rel =>
          refine ⟨k + 1, by omega, by go_num, ?_⟩
          congr 1
          have hk0 : k = 0 := by omega
          rw [HTK.out, joinL_snoc, if_pos (by rw [HLK.out]; omega), ← HS.out]
          subst hk0
          apply ByteArray.ext
          simp [ofL, ByteArray.data_append, joinL]
        case measure => simp [intOf]; omega
    · clear hsx
      go_wp2_with fail
      go_ret
      refine ⟨ret_str ?_, HB.out⟩
      rw [← HS.out, List.take_of_length_le (by omega)]
      unfold lineL
      apply ByteArray.ext
      simp [ofL, ByteArray.data_append]
end Go.Proofs.YtlenlldiimohjaaGreatDoor

namespace Go.Proofs.YtlenlldiimohjaaGreatDoor
open Go.ChangeShapes Go.WideShapes Go.ChangeAt Go.RowKit

/-- Each account's line is short. -/
def Shorts (L : List Acct) : Prop := ∀ a ∈ L, (lineL a).length ≤ 1099511627776

theorem length_calls (v : Value) (L : List Acct) (w : World) (hL : Accts w v L) (hs : Shorts L) :
    Calls Tryz.prog 69 #[v] w fun e w' => (∃ n : Nat, e = .returned (.int .i64 n) ∧ (65536 < n ↔ 65536 < (textL L).length)) ∧ Below w.heap.size w w' := by
  obtain ⟨A, c, rfl, hlc, hcm⟩ := hL.len
  unfold maxLen at hcm
  have HL := Lib.hid hL; clear hL
  have HS := Lib.hid hs; clear hs
  go_enter Tryz.func69, Tryz.ntmps69
  go_wp2_with fail
  go_loopw [3, 4] (fun n i wr => ∃ k m : Nat, k ≤ L.length ∧ i = .int .i64 k ∧ n = .int .i64 m ∧ m = (textL (L.take k)).length ∧ m ≤ 65536 + 1099511627776 ∧ Below w.heap.size w wr) (fun _ i _ => L.length - (intOf i).toNat)
  case atStart => exact ⟨0, 0, by omega, rfl, rfl, rfl, by omega, Below.refl _ _⟩
  case round =>
    obtain ⟨k, m, hk, rfl, rfl, hm, hm2, hb⟩ := hrel
    have HM := Lib.hid hm; clear hm
    have HB := Lib.hid hb; clear hb
    by_cases hlt : k < L.length
    · by_cases hle : m ≤ 65536
      · obtain ⟨a, hka⟩ : ∃ a, L[k]? = some a := ⟨L[k], List.getElem?_eq_getElem hlt⟩
        have hsa : (lineL a).length ≤ 1099511627776 := HS.out a (List.mem_of_getElem? hka)
        have HL2 := Lib.hid (HL.out.below HB.out (Nat.le_refl _))
        obtain ⟨g, o, c', mv, hv, _, hms, h0, h1, h2, h3, _⟩ := HL2.out.at_ hka
        injection hv with e1 _ e3
        subst e1; subst e3
        have HMS := Lib.hid hms; clear hms
        have HKA := Lib.hid hka; clear hka
        have hbig : (ofL (lineL a)).size = (lineL a).length := ofL_size _
        go_wp2_with (go_at_call 119; refine (line_calls a mv _ HMS.out (by assumption)).mono ?_; rintro e w2 ⟨rfl, hb2⟩; have HB2 := Lib.hid hb2; clear hb2)
        go_roundw
        case rel =>
          refine ⟨k + 1, m + (lineL a).length, by omega, by go_num, by go_num, ?_, by omega, HB.out.trans (HB2.out.mono HB.out.size)⟩
          rw [textL_take_succ HKA.out, List.length_append, ← HM.out]
        case measure => simp [intOf]; omega
      · go_wp2_with fail
        go_ret
        refine ⟨⟨m, rfl, ?_⟩, HB.out⟩
        have := textL_take_le L k
        have := HM.out
        omega
    · go_wp2_with fail
      go_ret
      refine ⟨⟨m, rfl, ?_⟩, HB.out⟩
      have := HM.out
      rw [List.take_of_length_le (by omega)] at this
      rw [this]
end Go.Proofs.YtlenlldiimohjaaGreatDoor

namespace Go.Proofs.YtlenlldiimohjaaGreatDoor
open Go.ChangeShapes Go.WideShapes Go.ChangeAt Go.RowKit

theorem acct_info : (Tryz.prog.info? 127).map (fun i => (i.zero, i.size, i.bytes)) = some (some (.agg #[.string ByteArray.empty, .string ByteArray.empty, .slice none 0 0, .string ByteArray.empty]), 4, 72) := by kernel_rfl
theorem int_info : (Tryz.prog.info? 3).map (fun i => (i.zero, i.size, i.bytes)) = some (some (.int .i64 0), 1, 8) := by kernel_rfl

/-- The reference's table of the accounts L lies at g. -/
def RTab (w : World) (g : Nat) (L : List Acct) : Prop := ∃ v, Blk w g 135 #[v] ∧ Accts w v L

/-- What the reference's Parse gives back. -/
def RParsed (s : ByteArray) (w : World) (e : Ending) (w' : World) : Prop :=
  Below w.heap.size w w' ∧ match parse s with
    | .error (er, ln) => e = .returned (.tuple #[.pointer none, .int .i64 er, .int .i64 (ln : Int)])
    | .ok L => ∃ g, w.heap.size ≤ g ∧ e = .returned (.tuple #[.pointer (some ⟨g, 0, none⟩), .int .i64 0, .int .i64 0]) ∧ RTab w' g L

theorem readLines_skip {l : ByteArray} {rest : List ByteArray} {i : Nat} {L : List Acct} {P : List Nat} (h : l.size = 0 ∨ l.data.toList.head? = some 35) : readLines (l :: rest) i L P = readLines rest (i + 1) L P := by
  rw [readLines, if_pos h]
theorem readLines_bad {l : ByteArray} {rest : List ByteArray} {i : Nat} {L : List Acct} {P : List Nat} (h : ¬ (l.size = 0 ∨ l.data.toList.head? = some 35)) (ha : account l = none) : readLines (l :: rest) i L P = .error (60, i + 1) := by
  rw [readLines, if_neg h, ha]
theorem readLines_twice {l : ByteArray} {rest : List ByteArray} {i : Nat} {L : List Acct} {P : List Nat} {a : Acct} (h : ¬ (l.size = 0 ∨ l.data.toList.head? = some 35)) (ha : account l = some a) (ht : known L a.name = true ∨ twice a.members = true) : readLines (l :: rest) i L P = .error (61, i + 1) := by
  rw [readLines, if_neg h, ha]
  simp only [if_pos ht]
theorem readLines_more {l : ByteArray} {rest : List ByteArray} {i : Nat} {L : List Acct} {P : List Nat} {a : Acct} (h : ¬ (l.size = 0 ∨ l.data.toList.head? = some 35)) (ha : account l = some a) (hk : known L a.name = false) (ht : twice a.members = false) : readLines (l :: rest) i L P = readLines rest (i + 1) (L ++ [a]) (P ++ [i + 1]) := by
  rw [readLines, if_neg h, ha]
  simp only [hk, ht, Bool.false_eq_true, or_self, if_false]

theorem cut_length (c : UInt8) (s : ByteArray) : (cut c s).length ≤ s.size + 1 := by
  have key : ∀ l : List UInt8, (cutL c l).length ≤ l.length + 1 := by
    intro l
    induction l with
    | nil => simp [cutL]
    | cons b l ih =>
      unfold cutL
      split
      · simp; omega
      · split
        · simp
        · rename_i h t he
          rw [he] at ih
          simp at ih ⊢
          omega
  have := key s.data.toList
  unfold cut
  simpa using this

theorem head35 {x : ByteArray} (h : 0 < x.size) (hb : ((x[0].toNat : Int) == 35) = true) : x.data.toList.head? = some 35 := by
  have e : x[0].toNat = 35 := by have := beq_iff_eq.1 hb; omega
  have e2 : x[0] = 35 := UInt8.toNat_inj.1 (by rw [e]; rfl)
  rw [List.head?_eq_getElem?, List.getElem?_eq_getElem (by simpa using h)]
  congr 1
theorem head35_no {x : ByteArray} (h : 0 < x.size) (hb : ((x[0].toNat : Int) == 35) = false) : ¬ (x.size = 0 ∨ x.data.toList.head? = some 35) := by
  rintro (h0 | h0)
  · omega
  · rw [List.head?_eq_getElem?, List.getElem?_eq_getElem (by simpa using h)] at h0
    injection h0 with h0
    have : x[0].toNat = 35 := by
      have e : x[0] = 35 := h0
      rw [e]; rfl
    rw [beq_eq_false_iff_ne] at hb
    exact hb (by omega)

theorem parse_err {s : ByteArray} {e : Int × Nat} (h : ¬ 65536 < s.size) (hr : readLines (cut 10 s) 0 [] [] = .error e) : parse s = .error e := by
  unfold parse; rw [if_neg h, hr]
theorem parse_none {s : ByteArray} {L : List Acct} {P : List Nat} {p : Nat} (h : ¬ 65536 < s.size) (hr : readLines (cut 10 s) 0 [] [] = .ok (L, P)) (hc : checkNames L L P = some p) : parse s = .error (62, p) := by
  unfold parse; rw [if_neg h, hr]; simp only [hc]
theorem parse_long {s : ByteArray} {L : List Acct} {P : List Nat} (h : ¬ 65536 < s.size) (hr : readLines (cut 10 s) 0 [] [] = .ok (L, P)) (hc : checkNames L L P = none) (hl : 65536 < (textL L).length) : parse s = .error (1, 0) := by
  unfold parse; rw [if_neg h, hr]; simp only [hc, if_pos hl]
theorem parse_ok {s : ByteArray} {L : List Acct} {P : List Nat} (h : ¬ 65536 < s.size) (hr : readLines (cut 10 s) 0 [] [] = .ok (L, P)) (hc : checkNames L L P = none) (hl : ¬ 65536 < (textL L).length) : parse s = .ok L := by
  unfold parse; rw [if_neg h, hr]; simp only [hc, if_neg hl]

theorem RParsed.err {s : ByteArray} {w w' : World} {er : Int} {ln : Nat} (hb : Below w.heap.size w w') (h : parse s = .error (er, ln)) : RParsed s w (.returned (.tuple #[.pointer none, .int .i64 er, .int .i64 (ln : Int)])) w' := by
  refine ⟨hb, ?_⟩
  rw [h]

theorem checkNames_step {all L : List Acct} {P : List Nat} {k : Nat} {a : Acct} {p : Nat} (ha : L[k]? = some a) (hp : P[k]? = some p) :
    checkNames all (L.drop k) (P.drop k) = if knows all a then checkNames all (L.drop (k + 1)) (P.drop (k + 1)) else some p := by
  obtain ⟨h1, rfl⟩ := List.getElem?_eq_some_iff.1 ha
  obtain ⟨h2, rfl⟩ := List.getElem?_eq_some_iff.1 hp
  rw [List.drop_eq_getElem_cons h1, List.drop_eq_getElem_cons h2, checkNames]

set_option maxRecDepth 100000 in
theorem refParse_calls (s : ByteArray) (w : World) : Calls Tryz.prog 25 #[.string s] w (RParsed s w) := by
  by_cases hbig : 65536 < s.size
  · have HP := Lib.hid (show parse s = .error (1, 0) from by unfold parse; rw [if_pos hbig])
    go_enter Tryz.func25, Tryz.ntmps25
    go_wp2_with fail
    go_ret3
    exact RParsed.err (Below.refl _ _) HP.out
  have hcl := cut_length 10 s
  have hcs : ∀ x ∈ cut 10 s, x.size ≤ 65536 := fun x hx => by have := cut_size hx; omega
  obtain ⟨i0, hi0, hz0, hz1, hz2⟩ := info_parts acct_info
  have HI := Lib.hid hi0; clear hi0
  have HZ0 := Lib.hid hz0; clear hz0
  have HZ1 := Lib.hid hz1; clear hz1
  have HZ2 := Lib.hid hz2; clear hz2
  obtain ⟨j0, hi0, hz0, hz1, hz2⟩ := info_parts int_info
  have JI := Lib.hid hi0; clear hi0
  have JZ0 := Lib.hid hz0; clear hz0
  have JZ1 := Lib.hid hz1; clear hz1
  have JZ2 := Lib.hid hz2; clear hz2
  go_enter Tryz.func25, Tryz.ntmps25
  go_wp2_with (go_at_call 64; refine (cuts_calls s 10 _ (by omega)).mono ?_; rintro e w1 ⟨v5, rfl, hv5, hb1⟩; have HV5 := Lib.hid hv5; clear hv5; have HB1 := Lib.hid hb1; clear hb1)
  generalize hlines : cut 10 s = lines at HV5 hcl hcs
  have HLN := Lib.hid hlines; clear hlines
  have hln : lines.length ≤ 65537 := by omega
  have HCS := Lib.hid hcs; clear hcs
  clear hcl
  have HBIG := Lib.hid hbig; clear hbig
  obtain ⟨A, c, rfl, hlc, hcm, -⟩ := id HV5.out
  unfold maxLen at hcm
  go_loopw [6, 7, 8] (fun vl va i wr => ∃ (L : List Acct) (P : List Nat) (k : Nat), i = .int .i64 k ∧ k ≤ lines.length ∧ L.length ≤ k ∧ P.length = L.length ∧ OwnAccts wr w.heap.size vl L ∧ wr.ownsRow w.heap.size 3 1 va P.length (P.map fun p : Nat => Value.int .i64 (p : Int)) ∧ Strs wr (.slice A lines.length c) lines ∧ Shorts L ∧ Below w.heap.size w wr ∧ readLines lines 0 [] [] = readLines (lines.drop k) k L P) (fun _ _ i _ => lines.length - (intOf i).toNat)
  case atStart => exact ⟨[], [], 0, rfl, by omega, by simp, rfl, OwnAccts.nil_ _ _, World.ownsRow_nil _ _ _ _, HV5.out, (by intro a ha; cases ha), HB1.out, rfl⟩
  case round =>
    obtain ⟨L, P, k, rfl, hk, hLk, hPL, hoa, hoi, hst, hsh, hb, hrd⟩ := hrel
    have HPL := Lib.hid hPL; clear hPL
    have HOA := Lib.hid hoa; clear hoa
    have HOI := Lib.hid hoi; clear hoi
    have HST := Lib.hid hst; clear hst
    have HSH := Lib.hid hsh; clear hsh
    have HB := Lib.hid hb; clear hb
    have HRD := Lib.hid hrd; clear hrd
    clear HV5 HB1
    by_cases hlt : k < lines.length
    · obtain ⟨x, hkx⟩ : ∃ x, lines[k]? = some x := ⟨lines[k], List.getElem?_eq_getElem hlt⟩
      obtain ⟨g, o, c', hv, _, h0⟩ := HST.out.at_ hkx
      injection hv with e1 _ e3
      subst e1; subst e3
      have hxs := HCS.out x (List.mem_of_getElem? hkx)
      have hdr : lines.drop k = x :: lines.drop (k + 1) := by
        obtain ⟨h1, rfl⟩ := List.getElem?_eq_some_iff.1 hkx
        exact List.drop_eq_getElem_cons h1
      clear hkx
      have HDR := Lib.hid hdr; clear hdr
      by_cases hz : x.size = 0
      · have hem := empty_t hz
        have HZ := Lib.hid hz; clear hz
        go_wp2_with fail
        go_roundw
        case rel => exact ⟨L, P, k + 1, by go_num, by omega, by omega, HPL.out, HOA.out, HOI.out, HST.out, HSH.out, HB.out, by rw [HRD.out, HDR.out, readLines_skip (.inl HZ.out)]⟩
        case measure => simp [intOf]; omega
      · have hem := empty_f hz
        have hpos : 0 < x.size := by omega
        cases hb35 : ((x[0].toNat : Int) == 35) with
        | true =>
          go_wp2_with fail
          go_roundw
          case rel => exact ⟨L, P, k + 1, by go_num, by omega, by omega, HPL.out, HOA.out, HOI.out, HST.out, HSH.out, HB.out, by rw [HRD.out, HDR.out, readLines_skip (.inr (head35 hpos hb35))]⟩
          case measure => simp [intOf]; omega
        | false =>
          have HNO := Lib.hid (head35_no hpos hb35)
          cases hacc : account x with
          | none =>
            have HACC := Lib.hid hacc; clear hacc
            go_wp2_with (go_at_call 65; refine (refAccount_calls x _ (by omega)).mono ?_; rintro e w2 ⟨hb2, he2⟩; rw [HACC.out] at he2; dsimp only at he2; subst he2; have HB2 := Lib.hid hb2; clear hb2)
            go_ret3
            refine RParsed.err (er := 60) (ln := k + 1) ?_ (parse_err HBIG.out (by rw [HLN.out, HRD.out, HDR.out, readLines_bad HNO.out HACC.out]))
            have hb3 : Below w.heap.size w w2 := HB.out.trans (HB2.out.mono HB.out.size)
            exact hb3.alloc hb3.size _
          | some a =>
            have HACC := Lib.hid hacc; clear hacc
            go_wp2_with (go_at_call 65; refine (refAccount_calls x _ (by omega)).mono ?_; rintro e w2 ⟨hb2, he2⟩; rw [HACC.out] at he2; dsimp only at he2; obtain ⟨mv, rfl, hmv⟩ := he2; obtain ⟨Am, cm, rfl, hm1, hm2, -⟩ := id hmv; unfold maxLen at hm2; have HB2 := Lib.hid hb2; clear hb2; have HMV := Lib.hid hmv; clear hmv; unfold acctV)
            have HOA2 := Lib.hid (HOA.out.below HB2.out); clear HOA
            have HOI2 := Lib.hid (own_below HOI.out HB2.out); clear HOI
            have HST2 := Lib.hid (HST.out.below HB2.out (Nat.le_refl _)); clear HST
            have HB3 := Lib.hid (HB.out.trans (HB2.out.mono HB.out.size)); clear HB HB2 h0
            rcases findZ_known L a.name with ⟨hn, hz1⟩ | ⟨hn, hz1⟩
            · have HN := Lib.hid hn; clear hn
              refine (find_calls _ L _ _ (HOA2.out.accts.alloc _)).mono ?_
              rintro e w3 ⟨rfl, rfl⟩
              go_wp2_with fail
              go_ret3
              exact RParsed.err (er := 61) (ln := k + 1) (HB3.out.alloc HB3.out.size _) (parse_err HBIG.out (by rw [HLN.out, HRD.out, HDR.out, readLines_twice HNO.out HACC.out (.inl HN.out)]))
            · have HN := Lib.hid hn; clear hn
              refine (find_calls _ L _ _ (HOA2.out.accts.alloc _)).mono ?_
              rintro e w3 ⟨rfl, rfl⟩
              go_wp2_with fail
              refine (twice_calls _ a.members _ (HMV.out.alloc _)).mono ?_
              rintro e w4 ⟨rfl, hd⟩
              have hbk : Blk w4 w2.heap.size 127 #[.string a.name, .string a.leader, .slice Am a.members.length cm, .string a.key] := by
                obtain ⟨q, rfl⟩ := hd
                exact (Blk.new w2 _ _).drewN q
              have HMV4 := Lib.hid ((HMV.out.alloc (Obj.cells #[.string a.name, .string a.leader, .slice Am a.members.length cm, .string a.key] 127)).drawn hd)
              have HOA4 := Lib.hid ((HOA2.out.alloc (Obj.cells #[.string a.name, .string a.leader, .slice Am a.members.length cm, .string a.key] 127)).below (hd.below _))
              have HOI4 := Lib.hid (own_below (HOI2.out.alloc (Obj.cells #[.string a.name, .string a.leader, .slice Am a.members.length cm, .string a.key] 127)) (hd.below _))
              have HST4 := Lib.hid ((HST2.out.alloc (Obj.cells #[.string a.name, .string a.leader, .slice Am a.members.length cm, .string a.key] 127)).drawn hd)
              have HB4 := Lib.hid ((HB3.out.alloc HB3.out.size (Obj.cells #[.string a.name, .string a.leader, .slice Am a.members.length cm, .string a.key] 127)).trans (hd.below _))
              clear HOA2 HOI2 HST2 HB3 HMV hd
              have d0 : w4.cell? ⟨w2.heap.size, 0, none⟩ = some (.string a.name) := hbk.cell 0
              have d1 : w4.cell? ⟨w2.heap.size, 1, none⟩ = some (.string a.leader) := hbk.cell 1
              have d2 : w4.cell? ⟨w2.heap.size, 2, none⟩ = some (.slice Am a.members.length cm) := hbk.cell 2
              have d3 : w4.cell? ⟨w2.heap.size, 3, none⟩ = some (.string a.key) := hbk.cell 3
              clear hbk
              cases htw : twice a.members with
              | true =>
                have HTW := Lib.hid htw; clear htw
                go_wp2_with fail
                go_ret3
                exact RParsed.err (er := 61) (ln := k + 1) HB4.out (parse_err HBIG.out (by rw [HLN.out, HRD.out, HDR.out, readLines_twice HNO.out HACC.out (.inr HTW.out)]))
              | false =>
                have HTW := Lib.hid htw; clear htw
                obtain ⟨xs, hox, hxx⟩ := HOA4.out
                have HOX := Lib.hid hox; clear hox
                have HXX := Lib.hid hxx; clear hxx
                clear HOA4
                have hpl : P.length ≤ 65537 := by have := HPL.out; omega
                go_wp2_with (first
                  | (at_builtin; refine wpList_append_any _ rfl (.tmp 60) (.tmp 62) _ rfl w.heap.size 127 i0 _ 4 72 Tryz.underlying125 HI.out HZ0.out HZ1.out HZ2.out rfl (by omega) _ L.length xs rfl (HOX.out.alloc _) (w4.heap.size + 1) (some ⟨w4.heap.size, 0, none⟩) 1 1 [.string a.name, .string a.leader, .slice Am a.members.length cm, .string a.key] rfl (reads_new4 _ _ _ _ _ _) (by intro u hu; simp at hu; rcases hu with rfl | rfl | rfl | rfl <;> rfl) (by simp only [maxLen]; omega) (by omega) (by have := HB4.out.size; simp; omega) ?_; intro v6 w5 hown5 hg5 hat5; have HO5 := Lib.hid hown5; clear hown5; have HG5 := Lib.hid hg5; clear hg5; clear hat5
                     have HOI5 := Lib.hid (own_grown (HOI4.out.alloc _) (HOX.out.alloc _) HG5.out (by decide))
                     have HST5 := Lib.hid ((HST4.out.alloc _).grown (HOX.out.alloc _) HG5.out (by decide))
                     have HOA5 := Lib.hid (OwnAccts.snoc (a := a) (HOX.out.alloc _) HG5.out (fun k b hb => by obtain ⟨mv, hm, r⟩ := HXX.out k b hb; exact ⟨mv, hm.alloc _, r⟩) (HMV4.out.alloc _) HO5.out)
                     have HB5 := Lib.hid ((HB4.out.alloc HB4.out.size _).grown HG5.out (by have := HB4.out.size; simp; omega) (fun b hb => (HOX.out.lt b hb).1))
                     clear HOX HXX HOI4 HST4 HB4 HG5 HO5 HMV4)
                  | (at_builtin; refine wpList_append_any _ rfl (.tmp 64) (.tmp 67) _ rfl w.heap.size 3 j0 _ 1 8 Tryz.underlying67 JI.out JZ0.out JZ1.out JZ2.out rfl (by omega) _ P.length _ rfl (HOI5.out.alloc _) (w5.heap.size + 1) (some ⟨w5.heap.size, 0, none⟩) 1 1 [.int .i64 ((k : Int) + 1)] rfl (reads_new _ _ _) (by intro u hu; simp at hu; subst hu; rfl) (by simp only [maxLen]; omega) (by omega) (by have := HB5.out.size; simp; omega) ?_; intro v7 w6 hown6 hg6 hat6; have HO6 := Lib.hid hown6; clear hown6; have HG6 := Lib.hid hg6; clear hg6; clear hat6
                     have HST6 := Lib.hid ((HST5.out.alloc _).grown (HOI5.out.alloc _) HG6.out (by decide))
                     have HOA6 := Lib.hid ((HOA5.out.alloc _).grown (HOI5.out.alloc _) HG6.out (by decide) (by decide))
                     have HB6 := Lib.hid ((HB5.out.alloc HB5.out.size _).grown HG6.out (by have := HB5.out.size; simp; omega) (fun b hb => (HOI5.out.lt b hb).1))
                     clear HOI5 HOA5 HST5 HB5 HG6))
                go_roundw
                case rel =>
                  refine ⟨L ++ [a], P ++ [k + 1], k + 1, by go_num, by omega, by simp; omega, by simp [HPL.out], HOA6.out, ?_, HST6.out, ?_, HB6.out, ?_⟩
                  · simpa using HO6.out
                  · intro b hb
                    rcases List.mem_append.1 hb with h1 | h1
                    · exact HSH.out b h1
                    · rw [List.mem_singleton.1 h1, lineL_account_len HACC.out]
                      omega
                  · rw [HRD.out, HDR.out, readLines_more HNO.out HACC.out HN.out HTW.out]
                case measure => simp [intOf]; omega
    · have HR := Lib.hid (show readLines (cut 10 s) 0 [] [] = .ok (L, P) from by rw [HLN.out, HRD.out, List.drop_eq_nil_of_le (by omega)]; rfl)
      clear HRD HLN HCS HST HI HZ0 HZ1 HZ2 JI JZ0 JZ1 JZ2
      have HAC := Lib.hid HOA.out.accts; clear HOA
      obtain ⟨A6, c6, e6, hc6, hm6⟩ := HAC.out.len
      subst e6
      unfold maxLen at hm6
      have hpl : P.length = L.length := HPL.out
      clear HPL
      go_wp2_with fail
      go_loopw [11] (fun i wq => ∃ j : Nat, i = .int .i64 j ∧ j ≤ L.length ∧ Below wr.heap.size wr wq ∧ checkNames L L P = checkNames L (L.drop j) (P.drop j)) (fun i _ => L.length - (intOf i).toNat)
      case atStart => exact ⟨0, rfl, by omega, Below.refl _ _, rfl⟩
      case round =>
        obtain ⟨j, rfl, hj, hq, hcn⟩ := hrel
        have HQ := Lib.hid hq; clear hq
        have HCN := Lib.hid hcn; clear hcn
        by_cases hlt2 : j < L.length
        · obtain ⟨a, hja⟩ : ∃ a, L[j]? = some a := ⟨L[j], List.getElem?_eq_getElem hlt2⟩
          obtain ⟨p, hjp⟩ : ∃ p, P[j]? = some p := ⟨P[j]'(by omega), List.getElem?_eq_getElem (by omega)⟩
          have HAC2 := Lib.hid (HAC.out.below HQ.out (Nat.le_refl _))
          obtain ⟨g, o, c', mv, hv, _, hms, h0, h1, h2, h3, _⟩ := HAC2.out.at_ hja
          injection hv with e1 _ e3
          subst e1; subst e3
          have HMS := Lib.hid hms; clear hms
          have HOI2 := Lib.hid (own_below HOI.out HQ.out)
          obtain ⟨g7, c7, e7, _, hg7⟩ := HOI2.out.form (by omega)
          subst e7
          have hjp2 : j < P.length := by omega
          have HPL := Lib.hid hpl; clear hpl
          have hxp : (P.map fun p : Nat => Value.int .i64 (p : Int))[j]? = some (.int .i64 (p : Int)) := by rw [List.getElem?_map, hjp]; rfl
          have HXP := Lib.hid hxp; clear hxp
          have HSTEP := Lib.hid (checkNames_step (all := L) hja hjp)
          clear hja hjp
          have hc7 : j < c7 := by
            have := (World.ownsRow.lt HOI2.out)
            rcases HOI2.out.2 with ⟨he, _⟩ | ⟨_, cap, _, hv, _, _, hcap, _⟩
            · cases he
            · injection hv with _ _ h3
              subst h3
              omega
          obtain ⟨Am, cm, rfl, hm1, hm2, -⟩ := id HMS.out
          unfold maxLen at hm2
          cases hkn : knows L a with
          | false =>
            have HKN := Lib.hid hkn
            go_wp2_with (go_at_call 68; refine (knows_calls _ L a _ _ HAC2.out HMS.out).mono ?_; rintro e w8 ⟨rfl, hb8⟩; rw [HKN.out])
            have h8 : w8.cell? ⟨g7, j, none⟩ = some (.int .i64 (p : Int)) := by
              rw [World.ownsRow.cellAt (own_below HOI2.out hb8) j (by have := HPL.out; omega)]
              exact HXP.out
            have HB8 := Lib.hid hb8; clear hb8
            go_region
            go_wp2_with fail
            go_ret3
            refine RParsed.err (er := 62) (ln := p) ?_ (parse_none HBIG.out HR.out (by rw [HCN.out, HSTEP.out, if_neg (by rw [HKN.out]; exact Bool.false_ne_true)]))
            exact (HB.out.trans ((HQ.out.trans (HB8.out.mono HQ.out.size)).mono HB.out.size)).drew
          | true =>
            have HKN := Lib.hid hkn
            go_wp2_with (go_at_call 68; refine (knows_calls _ L a _ _ HAC2.out HMS.out).mono ?_; rintro e w8 ⟨rfl, hb8⟩; rw [HKN.out]; have HB8 := Lib.hid hb8; clear hb8)
            go_roundw
            case rel => exact ⟨j + 1, by go_num, by omega, HQ.out.trans (HB8.out.mono HQ.out.size), by rw [HCN.out, HSTEP.out, if_pos HKN.out]⟩
            case measure => simp [intOf]; omega
        · have HC := Lib.hid (show checkNames L L P = none from by rw [HCN.out, List.drop_eq_nil_of_le (show L.length ≤ j by omega)]; rfl)
          clear HCN
          have HAC2 := Lib.hid (HAC.out.below HQ.out (Nat.le_refl _))
          have HB2 := Lib.hid (HB.out.trans (HQ.out.mono HB.out.size))
          clear HQ HB HAC HOI
          go_wp2_with fail
          refine (length_calls _ L _ HAC2.out HSH.out).mono ?_
          rintro e w8 ⟨⟨n, rfl, hn⟩, hb8⟩
          have HN := Lib.hid hn; clear hn
          have HB8 := Lib.hid (HB2.out.trans (hb8.mono HB2.out.size))
          have HAC8 := Lib.hid (HAC2.out.below hb8 (Nat.le_refl _))
          clear hb8 HB2 HAC2
          by_cases hbig : 65536 < n
          · go_wp2_with fail
            go_ret3
            exact RParsed.err (er := 1) (ln := 0) HB8.out (parse_long HBIG.out HR.out HC.out (HN.out.1 hbig))
          · go_wp2_with fail
            go_ret3
            refine ⟨HB8.out.alloc HB8.out.size _, ?_⟩
            rw [parse_ok HBIG.out HR.out HC.out (fun h => hbig (HN.out.2 h))]
            exact ⟨_, HB8.out.size, rfl, _, Blk.new _ _ _, HAC8.out.alloc _⟩
end Go.Proofs.YtlenlldiimohjaaGreatDoor

namespace Go.Proofs.YtlenlldiimohjaaGreatDoor
open Go.ChangeShapes Go.WideShapes Go.ChangeAt Go.RowKit

theorem findZ_parts (L : List Acct) (s : ByteArray) : (∃ (i : Nat) (a : Acct), findZ L s = (i : Int) ∧ L[i]? = some a ∧ a.name = s ∧ known L s = true ∧ L.find? (fun a => decide (a.name = s)) = some a) ∨
    (findZ L s = -1 ∧ known L s = false ∧ L.find? (fun a => decide (a.name = s)) = none) := by
  unfold findZ
  cases h : findIx L s with
  | none =>
    unfold findIx at h
    rw [List.findIdx?_eq_none_iff] at h
    refine .inr ⟨rfl, ?_, ?_⟩
    · unfold known
      rw [List.any_eq_false]
      intro x hx
      rw [h x hx]
      exact Bool.false_ne_true
    · rw [List.find?_eq_none]
      intro x hx
      rw [h x hx]
      exact Bool.false_ne_true
  | some i =>
    unfold findIx at h
    rw [List.findIdx?_eq_some_iff_getElem] at h
    obtain ⟨hl, hp, hno⟩ := h
    refine .inl ⟨i, L[i], rfl, List.getElem?_eq_getElem hl, of_decide_eq_true hp, ?_, ?_⟩
    · unfold known
      rw [List.any_eq_true]
      exact ⟨L[i], List.getElem_mem hl, hp⟩
    · rw [List.find?_eq_some_iff_getElem]
      exact ⟨hp, i, hl, rfl, fun j hj => by have := hno j hj; simpa using this⟩

theorem RTab.below {w w' : World} {g : Nat} {L : List Acct} (h : RTab w g L) (hb : Below w.heap.size w w') : RTab w' g L := by
  obtain ⟨v, h1, h2⟩ := h
  exact ⟨v, h1.below hb h1.lt, h2.below hb (Nat.le_refl _)⟩

end Go.Proofs.YtlenlldiimohjaaGreatDoor
