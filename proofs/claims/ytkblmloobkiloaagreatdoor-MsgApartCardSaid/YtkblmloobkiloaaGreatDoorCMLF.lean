/-
  vergerlaw03: ofMsg.
-/
import Derived.Test.YtkblmloobkiloaaGreatDoorCMO2
import Derived.Test.YtkblmloobkiloaaGreatDoorCMLO
namespace Go.Proofs.YtkblmloobkiloaaGreatDoor
open Go.RowKit

/-- How many bytes a message has, but for its names; and with them. -/
def Mg.ofB (m : Mg) : Nat := 64 + m.version.size + m.uname.size + m.aname.size + m.ename.size + m.name.size + m.data.length + 13 * m.qids.length + m.stat.name.size + m.stat.uid.size + m.stat.gid.size + m.stat.muid.size
def namB (l : List ByteArray) : Nat := (l.map fun s => 2 + s.size).sum
def Mg.ofM (m : Mg) : Nat := m.ofB + namB m.names
theorem namB_mem {s : ByteArray} {l : List ByteArray} (h : s ∈ l) : 2 + s.size ≤ namB l := by
  induction l with
  | nil => cases h
  | cons a l ih =>
    show 2 + s.size ≤ 2 + a.size + namB l
    rcases List.mem_cons.1 h with rfl | h
    · omega
    · have := ih h
      omega
theorem namB_take {l : List ByteArray} {k : Nat} {s : ByteArray} (h : l[k]? = some s) : namB (l.take (k + 1)) = namB (l.take k) + 2 + s.size := by
  rw [List.take_add_one, h]
  unfold namB
  simp
  omega
theorem ofM_small {m : Mg} (h : m.ofM ≤ 8388608) : m.small := by
  unfold Mg.ofM Mg.ofB at h
  intro f
  cases f
  case names => show 2 + namB m.names ≤ _; omega
  case qids => show 2 + 13 * m.qids.length ≤ _; omega
  case data => show 4 + m.data.length ≤ _; omega
  case stat => show 2 + stSize m.stat ≤ _; unfold stSize; omega
  case version => show 2 + m.version.size ≤ _; omega
  case uname => show 2 + m.uname.size ≤ _; omega
  case aname => show 2 + m.aname.size ≤ _; omega
  case ename => show 2 + m.ename.size ≤ _; omega
  case name => show 2 + m.name.size ≤ _; omega
  case qid => show 13 ≤ _; omega
  case offset => show 8 ≤ _; omega
  case oldtag => show 2 ≤ _; omega
  case mode => show 1 ≤ _; omega
  all_goals (show 4 ≤ _; omega)
/-- What ofMsg gives. -/
def OfR (m : Mg) (w : World) (e : Ending) (w' : World) : Prop := (∃ n : Nat, e = .returned (.int .i64 (n : Int)) ∧ n ≤ 4503599627370496 ∧ (n ≤ 8388608 → m.ofM ≤ 8388608)) ∧ Below w.heap.size w w'
set_option maxRecDepth 100000 in
set_option maxHeartbeats 6400000 in
theorem ofMsg_calls (m : Mg) (vn vq vd : Value) (w w0 : World) (hc : Came w0 m vn vq vd) (hl : Lists w w.heap.size m vn vq vd) : Calls Tryz.prog 25 #[msgV m vn vq vd] w (OfR m w) := by
  have HM := Lib.hid (show MBlk (w.alloc (.cells (msgL m vn vq vd).toArray 41)) w.heap.size m vn vq vd from Blk.new w _ _)
  have hup : Below w.heap.size w (w.alloc (.cells (msgL m vn vq vd).toArray 41)) := (Below.refl _ _).alloc (Nat.le_refl _) _
  have HU := Lib.hid hup
  have HL := Lib.hid (hl.n.below hup)
  obtain ⟨nA, nc, rfl, -⟩ := hl.n
  obtain ⟨qA, qc, rfl, -⟩ := hl.q
  obtain ⟨dA, dc, rfl, -⟩ := hl.d
  have HC := Lib.hid hc
  clear hc hl hup
  have s3 := HC.out.s3
  have s5 := HC.out.s5
  have s6 := HC.out.s6
  have s7 := HC.out.s7
  have s18 := HC.out.s18
  have s32 := HC.out.s32
  have s33 := HC.out.s33
  have s34 := HC.out.s34
  have s35 := HC.out.s35
  have sq := HC.out.ql
  have sd := HC.out.dl
  have sn := HC.out.nl
  go_enter Tryz.func25, Tryz.ntmps25
  go_upto_region 1 with (fail)
  change Code.wp _ _ _ _ (w.alloc (.cells (msgL m (.slice nA m.names.length nc) (.slice qA m.qids.length qc) (.slice dA m.data.length dc)).toArray 41))
  generalize w.alloc (.cells (msgL m (.slice nA m.names.length nc) (.slice qA m.qids.length qc) (.slice dA m.data.length dc)).toArray 41) = w1 at HM HU HL ⊢
  generalize hz : w.heap.size = z at HM HU HL ⊢
  have HZ := Lib.hid hz
  clear hz
  have k3 : w1.cell? ⟨z, 3, none⟩ = some (.string m.version) := Blk.cell HM.out 3
  have k5 : w1.cell? ⟨z, 5, none⟩ = some (.string m.uname) := Blk.cell HM.out 5
  have k6 : w1.cell? ⟨z, 6, none⟩ = some (.string m.aname) := Blk.cell HM.out 6
  have k7 : w1.cell? ⟨z, 7, none⟩ = some (.string m.ename) := Blk.cell HM.out 7
  have k18 : w1.cell? ⟨z, 18, none⟩ = some (.string m.name) := Blk.cell HM.out 18
  have k32 : w1.cell? ⟨z, 32, none⟩ = some (.string m.stat.name) := Blk.cell HM.out 32
  have k33 : w1.cell? ⟨z, 33, none⟩ = some (.string m.stat.uid) := Blk.cell HM.out 33
  have k34 : w1.cell? ⟨z, 34, none⟩ = some (.string m.stat.gid) := Blk.cell HM.out 34
  have k35 : w1.cell? ⟨z, 35, none⟩ = some (.string m.stat.muid) := Blk.cell HM.out 35
  have k12 : w1.cell? ⟨z, 12, none⟩ = some (.slice qA m.qids.length qc) := Blk.cell HM.out 12
  have k22 : w1.cell? ⟨z, 22, none⟩ = some (.slice dA m.data.length dc) := Blk.cell HM.out 22
  have k11 : w1.cell? ⟨z, 11, none⟩ = some (.slice nA m.names.length nc) := Blk.cell HM.out 11
  have HB := Lib.hid (show m.ofB ≤ 4503599627370496 from by unfold Mg.ofB; omega)
  go_upto_region 4 with (fail)
  go_loopw [3, 4] (fun n i wr => wr = w1 ∧ ∃ k : Nat, k ≤ m.names.length ∧ i = .int .i64 (k : Int) ∧ n = .int .i64 ((m.ofB + namB (m.names.take k) : Nat) : Int) ∧ m.ofB + namB (m.names.take k) ≤ 4503599627370496) (fun _ i _ => m.names.length - (intOf i).toNat)
  case atStart =>
    refine ⟨rfl, 0, by omega, rfl, ?_, by rw [List.take_zero]; exact HB.out⟩
    rw [List.take_zero]
    unfold Mg.ofB
    show Value.int _ _ = Value.int _ _
    congr 1
    all_goals (simp only [namB, List.map_nil, List.sum_nil]; omega)
  case round =>
    obtain ⟨rfl, k, hk, rfl, rfl, hn⟩ := hrel
    have HSUM := Lib.hid (show m.ofM = m.ofB + namB m.names from rfl)
    by_cases hlt : k < m.names.length
    · obtain ⟨x, hx⟩ : ∃ x, m.names[k]? = some x := ⟨m.names[k], List.getElem?_eq_getElem _⟩
      have hxs := HC.out.ns x (List.mem_of_getElem? hx)
      have HT := Lib.hid (namB_take hx)
      obtain ⟨ad, rfl, -, kx⟩ := HL.out.at_ hx
      clear hx
      have HNN := Lib.hid hn
      generalize hT : m.ofB + namB (m.names.take k) = T at hn ⊢
      have HTT := Lib.hid hT
      clear hT
      by_cases hle : T ≤ 8388608
      · go_wp2_with fail
        go_roundw
        case rel =>
          have h1 := HT.out
          have h2 := HTT.out
          refine ⟨by trivial, k + 1, by omega, by go_num, ?_, by omega⟩
          rw [h1]
          show Value.int _ _ = Value.int _ _
          congr 1
          all_goals omega
        case measure => simp [intOf]; omega
      · have HLE := Lib.hid hle
        go_wp2_with fail
        refine bodyPost_ret (v := .int .i64 (T : Int)) (by simp [results, Tryz.results25]) rfl ⟨⟨T, rfl, hn, fun h => absurd h HLE.out⟩, ?_⟩
        rw [HZ.out]
        exact HU.out
    · have hkk : k = m.names.length := by omega
      subst hkk
      rw [List.take_length, ← HSUM.out] at hn ⊢
      clear hlt hk
      generalize hT : m.ofM = T at hn ⊢
      have HTT := Lib.hid hT
      clear hT
      go_wp2_with fail
      refine bodyPost_ret (v := .int .i64 (T : Int)) (by simp [results, Tryz.results25]) rfl ⟨⟨T, rfl, hn, fun h => (by rw [HTT.out]; exact h)⟩, ?_⟩
      rw [HZ.out]
      exact HU.out
end Go.Proofs.YtkblmloobkiloaaGreatDoor
