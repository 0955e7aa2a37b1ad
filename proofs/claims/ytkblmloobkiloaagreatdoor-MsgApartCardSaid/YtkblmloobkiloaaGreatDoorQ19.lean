/-
  MT7 MT8 MP1: what the laws of package msg need of them.
-/
import Derived.Test.YtkblmloobkiloaaGreatDoorQ16
import Derived.Test.YtkblmloobkiloaaGreatDoorQ18
import Derived.WalkLawsBesides
namespace Go.Proofs.YtkblmloobkiloaaGreatDoor
open Go.RowKit
open Go.Lib (decDigits)

theorem Mg.small.name_ {m : Mg} (h : m.small) : ∀ x ∈ m.names, x.size ≤ 16777216 := by
  intro x hx
  have h1 : 2 + (m.names.map fun s => 2 + s.size).sum ≤ 16777216 := h .names
  have h2 : ∀ l : List ByteArray, x ∈ l → x.size ≤ (l.map fun s => 2 + s.size).sum := by
    intro l
    induction l with
    | nil => intro h; cases h
    | cons y l ih =>
      intro h
      rw [List.map_cons, List.sum_cons]
      rcases List.mem_cons.1 h with rfl | h
      · omega
      · have := ih h; omega
  have := h2 _ hx
  omega
theorem Mg.small.stat_ {m : Mg} (h : m.small) : m.stat.name.size ≤ 16777216 ∧ m.stat.uid.size ≤ 16777216 ∧ m.stat.gid.size ≤ 16777216 ∧ m.stat.muid.size ≤ 16777216 := by
  have h1 : 2 + (49 + m.stat.name.size + m.stat.uid.size + m.stat.gid.size + m.stat.muid.size) ≤ 16777216 := h .stat
  omega
theorem Qd.ok.wide {q : Qd} (h : q.ok) : q.kind < 18446744073709551616 ∧ q.vers < 18446744073709551616 ∧ q.path < 18446744073709551616 := by
  obtain ⟨h1, h2, h3⟩ := h
  omega
theorem Mg.prt {m : Mg} (ho : m.ok) (hg : m.good .stat = true) (hz : m.small) : m.stat.prt := by
  obtain ⟨n1, n2, hq, n4, n5, n6, n7⟩ := ho.stat
  have hg : (Go.Proofs.YtkblmloobkiloaaGreatDoor.good m.stat.name && Go.Proofs.YtkblmloobkiloaaGreatDoor.good m.stat.uid && Go.Proofs.YtkblmloobkiloaaGreatDoor.good m.stat.gid && Go.Proofs.YtkblmloobkiloaaGreatDoor.good m.stat.muid) = true := hg
  simp only [Bool.and_eq_true] at hg
  obtain ⟨⟨⟨g1, g2⟩, g3⟩, g4⟩ := hg
  obtain ⟨z1, z2, z3, z4⟩ := hz.stat_
  exact ⟨by omega, by omega, hq.wide, by omega, by omega, by omega, by omega, ⟨g1, z1⟩, ⟨g2, z2⟩, ⟨g3, z3⟩, ⟨g4, z4⟩⟩
theorem num324_calls {w : World} {q b o K n : Nat} (hn : n < 18446744073709551616) (hent : ∀ args w, Sem.run Tryz.prog (callFunc K args) w = .ok (.enter K args) w) (hat : ∀ w, Calls Tryz.prog K #[.pointer (some ⟨q, 0, none⟩)] w fun e w' => e = .returned (.pointer (some ⟨q, o, none⟩)) ∧ w = w') (hc : Blk w b 135 #[fv K #[]]) (ks : w.cell? ⟨q, o, none⟩ = some (.int .u32 (n : Int))) (ht : TP w) :
    Calls Tryz.prog 130 #[.pointer (some ⟨q, 0, none⟩), .pointer (some ⟨b, 0, none⟩)] w fun e w' => e = .returned (.string (ofL (decDigits n))) ∧ Below w.heap.size w w' := by
  have HAT := Lib.hid (hat w)
  have HD := Lib.hid (digits_calls n hn w ht)
  have hw := wrap_u64_nat hn
  have kb : w.cell? ⟨b, 0, none⟩ = _ := hc.cell 0
  clear hat hc hn ht
  go_enter Tryz.func130, Tryz.ntmps130
  go_wp2_with fail
  refine HAT.out.mono ?_
  rintro e w' ⟨rfl, rfl⟩
  go_wp2_with fail
  refine HD.out.mono ?_
  rintro e w1 ⟨rfl, hb⟩
  have HB := Lib.hid hb
  clear hb
  go_wp2_with fail
  go_ret
  exact ⟨rfl, HB.out⟩
theorem text5_calls {w : World} {q b o K : Nat} {s : ByteArray} (hg : good s = true) (hz : s.size ≤ 16777216) (hent : ∀ args w, Sem.run Tryz.prog (callFunc K args) w = .ok (.enter K args) w) (hat : ∀ w, Calls Tryz.prog K #[.pointer (some ⟨q, 0, none⟩)] w fun e w' => e = .returned (.pointer (some ⟨q, o, none⟩)) ∧ w = w') (hc : Blk w b 138 #[fv K #[]]) (ks : w.cell? ⟨q, o, none⟩ = some (.string s)) :
    Calls Tryz.prog 139 #[.pointer (some ⟨q, 0, none⟩), .pointer (some ⟨b, 0, none⟩)] w fun e w' => e = .returned (.string (ofL (quoteS s))) ∧ Below w.heap.size w w' := by
  have HAT := Lib.hid (hat w)
  have HD := Lib.hid (quoted_calls s hg hz w)
  have kb : w.cell? ⟨b, 0, none⟩ = _ := hc.cell 0
  clear hat hc hg hz
  go_enter Tryz.func139, Tryz.ntmps139
  go_wp2_with fail
  refine HAT.out.mono ?_
  rintro e w' ⟨rfl, rfl⟩
  go_wp2_with fail
  refine HD.out.mono ?_
  rintro e w1 ⟨rfl, hb⟩
  have HB := Lib.hid hb
  clear hb
  go_wp2_with fail
  go_ret
  exact ⟨rfl, HB.out⟩
set_option maxRecDepth 100000 in
theorem print_oldtag {w : World} {q : Nat} {m : Mg} {vn vq vd : Value} (hm : MBlk w q m vn vq vd) (_hl : Lists w w.heap.size m vn vq vd) (ht : TP w) (_h8 : 8 ≤ w.heap.size) (ho : m.ok) (_hg : m.good .oldtag = true) (_hz : m.small) :
    Calls Tryz.prog 146 #[.pointer (some ⟨q, 0, none⟩)] w fun e w' => e = .returned (.string (ofL (m.val .oldtag))) ∧ Below w.heap.size w w' := by
  have HD := Lib.hid (digits_calls m.oldtag (by have := ho.oldtag; omega) w ht)
  have hw := wrap_u64_nat (show m.oldtag < 18446744073709551616 from by have := ho.oldtag; omega)
  have k0 : w.cell? ⟨q, 8, none⟩ = some (.int .u16 (m.oldtag : Int)) := Blk.cell hm 8
  clear hm _hl ht _h8 ho _hg _hz
  go_enter Tryz.func146, Tryz.ntmps146
  go_wp2_with fail
  refine HD.out.mono ?_
  rintro e w1 ⟨rfl, hb⟩
  have HB := Lib.hid hb
  clear hb
  go_wp2_with fail
  go_ret
  exact ⟨rfl, HB.out⟩
set_option maxRecDepth 100000 in
theorem print_mode {w : World} {q : Nat} {m : Mg} {vn vq vd : Value} (hm : MBlk w q m vn vq vd) (_hl : Lists w w.heap.size m vn vq vd) (ht : TP w) (_h8 : 8 ≤ w.heap.size) (ho : m.ok) (_hg : m.good .mode = true) (_hz : m.small) :
    Calls Tryz.prog 151 #[.pointer (some ⟨q, 0, none⟩)] w fun e w' => e = .returned (.string (ofL (m.val .mode))) ∧ Below w.heap.size w w' := by
  have HD := Lib.hid (digits_calls m.mode (by have := ho.mode; omega) w ht)
  have hw := wrap_u64_nat (show m.mode < 18446744073709551616 from by have := ho.mode; omega)
  have k0 : w.cell? ⟨q, 16, none⟩ = some (.int .u8 (m.mode : Int)) := Blk.cell hm 16
  clear hm _hl ht _h8 ho _hg _hz
  go_enter Tryz.func151, Tryz.ntmps151
  go_wp2_with fail
  refine HD.out.mono ?_
  rintro e w1 ⟨rfl, hb⟩
  have HB := Lib.hid hb
  clear hb
  go_wp2_with fail
  go_ret
  exact ⟨rfl, HB.out⟩
set_option maxRecDepth 100000 in
theorem print_offset {w : World} {q : Nat} {m : Mg} {vn vq vd : Value} (hm : MBlk w q m vn vq vd) (_hl : Lists w w.heap.size m vn vq vd) (ht : TP w) (_h8 : 8 ≤ w.heap.size) (ho : m.ok) (_hg : m.good .offset = true) (_hz : m.small) :
    Calls Tryz.prog 158 #[.pointer (some ⟨q, 0, none⟩)] w fun e w' => e = .returned (.string (ofL (m.val .offset))) ∧ Below w.heap.size w w' := by
  have HD := Lib.hid (digits_calls m.offset (by have := ho.offset; omega) w ht)
  have hw := wrap_u64_nat (show m.offset < 18446744073709551616 from by have := ho.offset; omega)
  have k0 : w.cell? ⟨q, 20, none⟩ = some (.int .u64 (m.offset : Int)) := Blk.cell hm 20
  clear hm _hl ht _h8 ho _hg _hz
  go_enter Tryz.func158, Tryz.ntmps158
  go_wp2_with fail
  refine HD.out.mono ?_
  rintro e w1 ⟨rfl, hb⟩
  have HB := Lib.hid hb
  clear hb
  go_wp2_with fail
  go_ret
  exact ⟨rfl, HB.out⟩
set_option maxRecDepth 100000 in
theorem print_qid {w : World} {q : Nat} {m : Mg} {vn vq vd : Value} (hm : MBlk w q m vn vq vd) (_hl : Lists w w.heap.size m vn vq vd) (ht : TP w) (h8 : 8 ≤ w.heap.size) (ho : m.ok) (_hg : m.good .qid = true) (_hz : m.small) :
    Calls Tryz.prog 175 #[.pointer (some ⟨q, 0, none⟩)] w fun e w' => e = .returned (.string (ofL (m.val .qid))) ∧ Below w.heap.size w w' := by
  have HD := Lib.hid (dot_calls m.qid ho.qid.wide w ht h8)
  have k0 : w.cell? ⟨q, 13, none⟩ = some (.int .u8 (m.qid.kind : Int)) := Blk.cell hm 13
  have k1 : w.cell? ⟨q, 14, none⟩ = some (.int .u32 (m.qid.vers : Int)) := Blk.cell hm 14
  have k2 : w.cell? ⟨q, 15, none⟩ = some (.int .u64 (m.qid.path : Int)) := Blk.cell hm 15
  clear hm _hl ht h8 ho _hg _hz
  go_enter Tryz.func175, Tryz.ntmps175
  go_wp2_with fail
  refine HD.out.mono ?_
  rintro e w1 ⟨rfl, hb⟩
  have HB := Lib.hid hb
  clear hb
  go_wp2_with fail
  go_ret
  exact ⟨rfl, HB.out⟩
set_option maxRecDepth 100000 in
theorem print_data {w : World} {q : Nat} {m : Mg} {vn vq vd : Value} (hm : MBlk w q m vn vq vd) (hl : Lists w w.heap.size m vn vq vd) (_ht : TP w) (_h8 : 8 ≤ w.heap.size) (_ho : m.ok) (_hg : m.good .data = true) (hz : m.small) :
    Calls Tryz.prog 166 #[.pointer (some ⟨q, 0, none⟩)] w fun e w' => e = .returned (.string (ofL (m.val .data))) ∧ Below w.heap.size w w' := by
  have k0 : w.cell? ⟨q, 22, none⟩ = some vd := Blk.cell hm 22
  have HD := Lib.hid (hex_calls vd m.data w hl.d hz.data)
  clear hm hl _ht _h8 _ho _hg hz
  go_enter Tryz.func166, Tryz.ntmps166
  go_wp2_with fail
  refine HD.out.mono ?_
  rintro e w1 ⟨rfl, hb⟩
  have HB := Lib.hid hb
  clear hb
  go_wp2_with fail
  go_ret
  exact ⟨rfl, HB.out⟩
set_option maxRecDepth 100000 in
theorem print_names {w : World} {q : Nat} {m : Mg} {vn vq vd : Value} (hm : MBlk w q m vn vq vd) (hl : Lists w w.heap.size m vn vq vd) (_ht : TP w) (_h8 : 8 ≤ w.heap.size) (_ho : m.ok) (hg : m.good .names = true) (hz : m.small) :
    Calls Tryz.prog 216 #[.pointer (some ⟨q, 0, none⟩)] w fun e w' => e = .returned (.string (ofL (m.val .names))) ∧ Below w.heap.size w w' := by
  have hnm : m.names.length ≤ 16 ∧ ∀ x ∈ m.names, good x = true := by
    have h : (decide (m.names.length ≤ 16) && m.names.all good) = true := hg
    rw [Bool.and_eq_true] at h
    exact ⟨of_decide_eq_true h.1, List.all_eq_true.1 h.2⟩
  have k0 : w.cell? ⟨q, 11, none⟩ = some vn := Blk.cell hm 11
  have HD := Lib.hid (listS_calls vn m.names w hl.n hnm.1 (fun x hx => ⟨hnm.2 x hx, hz.name_ x hx⟩))
  clear hm hl _ht _h8 _ho hg hz
  go_enter Tryz.func216, Tryz.ntmps216
  go_wp2_with fail
  refine HD.out.mono ?_
  rintro e w1 ⟨rfl, hb⟩
  have HB := Lib.hid hb
  clear hb
  go_wp2_with fail
  go_ret
  exact ⟨rfl, HB.out⟩
set_option maxRecDepth 100000 in
theorem print_qids {w : World} {q : Nat} {m : Mg} {vn vq vd : Value} (hm : MBlk w q m vn vq vd) (hl : Lists w w.heap.size m vn vq vd) (ht : TP w) (h8 : 8 ≤ w.heap.size) (ho : m.ok) (hg : m.good .qids = true) (_hz : m.small) :
    Calls Tryz.prog 229 #[.pointer (some ⟨q, 0, none⟩)] w fun e w' => e = .returned (.string (ofL (m.val .qids))) ∧ Below w.heap.size w w' := by
  have k0 : w.cell? ⟨q, 12, none⟩ = some vq := Blk.cell hm 12
  have HD := Lib.hid (listQ_calls vq m.qids w hl.q (of_decide_eq_true hg) (fun x hx => (ho.qids x hx).wide) ht h8)
  clear hm hl ht h8 ho hg _hz
  go_enter Tryz.func229, Tryz.ntmps229
  go_wp2_with fail
  refine HD.out.mono ?_
  rintro e w1 ⟨rfl, hb⟩
  have HB := Lib.hid hb
  clear hb
  go_wp2_with fail
  go_ret
  exact ⟨rfl, HB.out⟩
set_option maxRecDepth 100000 in
theorem print_stat {w : World} {q : Nat} {m : Mg} {vn vq vd : Value} (hm : MBlk w q m vn vq vd) (_hl : Lists w w.heap.size m vn vq vd) (ht : TP w) (h8 : 8 ≤ w.heap.size) (ho : m.ok) (hg : m.good .stat = true) (hz : m.small) :
    Calls Tryz.prog 239 #[.pointer (some ⟨q, 0, none⟩)] w fun e w' => e = .returned (.string (ofL (m.val .stat))) ∧ Below w.heap.size w w' := by
  have HD := Lib.hid (record_calls m.stat (Mg.prt ho hg hz) w ht h8)
  have HM := Lib.hid hm
  clear hm _hl ht h8 ho hg hz
  go_enter Tryz.func239, Tryz.ntmps239
  go_wp2_with (refine wlw HM.out 23 (stL m.stat) rfl rfl _ _ rfl rfl _ Tryz.underlying39 rfl stat_size ?_)
  refine HD.out.mono ?_
  rintro e w1 ⟨rfl, hb⟩
  have HB := Lib.hid hb
  clear hb
  go_wp2_with fail
  go_ret
  exact ⟨rfl, HB.out⟩
/-- A field is printed. -/
theorem fprint_calls (f : Fld) {w : World} {q : Nat} {m : Mg} {vn vq vd : Value} (hm : MBlk w q m vn vq vd) (hl : Lists w w.heap.size m vn vq vd) (ht : TP w) (h8 : 8 ≤ w.heap.size) (ho : m.ok) {b : Nat} (hc : FCap w f b) (hg : m.good f = true) (hz : m.small) :
    Calls Tryz.prog f.kr (#[.pointer (some ⟨q, 0, none⟩)] ++ f.cap b) w fun e w' => e = .returned (.string (ofL (m.val f))) ∧ Below w.heap.size w w' := by
  cases f
  case msize => exact num324_calls (n := m.msize) (by have := ho.msize; omega) (at_enters .msize rfl) (at_calls .msize rfl q) (hc.2 rfl rfl) (Blk.cell hm 2) ht
  case version => exact text5_calls (s := m.version) hg (by have h : 2 + m.version.size ≤ 16777216 := hz .version; omega) (at_enters .version rfl) (at_calls .version rfl q) (hc.1 rfl) (Blk.cell hm 3)
  case afid => exact num324_calls (n := m.afid) (by have := ho.afid; omega) (at_enters .afid rfl) (at_calls .afid rfl q) (hc.2 rfl rfl) (Blk.cell hm 4) ht
  case uname => exact text5_calls (s := m.uname) hg (by have h : 2 + m.uname.size ≤ 16777216 := hz .uname; omega) (at_enters .uname rfl) (at_calls .uname rfl q) (hc.1 rfl) (Blk.cell hm 5)
  case aname => exact text5_calls (s := m.aname) hg (by have h : 2 + m.aname.size ≤ 16777216 := hz .aname; omega) (at_enters .aname rfl) (at_calls .aname rfl q) (hc.1 rfl) (Blk.cell hm 6)
  case ename => exact text5_calls (s := m.ename) hg (by have h : 2 + m.ename.size ≤ 16777216 := hz .ename; omega) (at_enters .ename rfl) (at_calls .ename rfl q) (hc.1 rfl) (Blk.cell hm 7)
  case oldtag => exact print_oldtag hm hl ht h8 ho hg hz
  case fid => exact num324_calls (n := m.fid) (by have := ho.fid; omega) (at_enters .fid rfl) (at_calls .fid rfl q) (hc.2 rfl rfl) (Blk.cell hm 9) ht
  case newfid => exact num324_calls (n := m.newfid) (by have := ho.newfid; omega) (at_enters .newfid rfl) (at_calls .newfid rfl q) (hc.2 rfl rfl) (Blk.cell hm 10) ht
  case names => exact print_names hm hl ht h8 ho hg hz
  case qids => exact print_qids hm hl ht h8 ho hg hz
  case qid => exact print_qid hm hl ht h8 ho hg hz
  case mode => exact print_mode hm hl ht h8 ho hg hz
  case iounit => exact num324_calls (n := m.iounit) (by have := ho.iounit; omega) (at_enters .iounit rfl) (at_calls .iounit rfl q) (hc.2 rfl rfl) (Blk.cell hm 17) ht
  case name => exact text5_calls (s := m.name) hg (by have h : 2 + m.name.size ≤ 16777216 := hz .name; omega) (at_enters .name rfl) (at_calls .name rfl q) (hc.1 rfl) (Blk.cell hm 18)
  case perm => exact num324_calls (n := m.perm) (by have := ho.perm; omega) (at_enters .perm rfl) (at_calls .perm rfl q) (hc.2 rfl rfl) (Blk.cell hm 19) ht
  case offset => exact print_offset hm hl ht h8 ho hg hz
  case count => exact num324_calls (n := m.count) (by have := ho.count; omega) (at_enters .count rfl) (at_calls .count rfl q) (hc.2 rfl rfl) (Blk.cell hm 21) ht
  case data => exact print_data hm hl ht h8 ho hg hz
  case stat => exact print_stat hm hl ht h8 ho hg hz
theorem val_len (m : Mg) (f : Fld) (ho : m.ok) (hg : m.good f = true) (hz : m.small) : (m.val f).length ≤ 2147483648 := by
  have hd : ∀ n, n < 18446744073709551616 → (decDigits n).length ≤ 20 := fun n hn => by have := dig_len n hn; rw [ofL_size] at this; exact this
  have hq := fun s => quoteS_len s
  cases f
  case msize => show (decDigits m.msize).length ≤ _; have := hd m.msize (by have := ho.msize; omega); omega
  case version => show (quoteS m.version).length ≤ _; have := hq m.version; have h : 2 + m.version.size ≤ 16777216 := hz .version; omega
  case afid => show (decDigits m.afid).length ≤ _; have := hd m.afid (by have := ho.afid; omega); omega
  case uname => show (quoteS m.uname).length ≤ _; have := hq m.uname; have h : 2 + m.uname.size ≤ 16777216 := hz .uname; omega
  case aname => show (quoteS m.aname).length ≤ _; have := hq m.aname; have h : 2 + m.aname.size ≤ 16777216 := hz .aname; omega
  case ename => show (quoteS m.ename).length ≤ _; have := hq m.ename; have h : 2 + m.ename.size ≤ 16777216 := hz .ename; omega
  case oldtag => show (decDigits m.oldtag).length ≤ _; have := hd m.oldtag (by have := ho.oldtag; omega); omega
  case fid => show (decDigits m.fid).length ≤ _; have := hd m.fid (by have := ho.fid; omega); omega
  case newfid => show (decDigits m.newfid).length ≤ _; have := hd m.newfid (by have := ho.newfid; omega); omega
  case mode => show (decDigits m.mode).length ≤ _; have := hd m.mode (by have := ho.mode; omega); omega
  case iounit => show (decDigits m.iounit).length ≤ _; have := hd m.iounit (by have := ho.iounit; omega); omega
  case name => show (quoteS m.name).length ≤ _; have := hq m.name; have h : 2 + m.name.size ≤ 16777216 := hz .name; omega
  case perm => show (decDigits m.perm).length ≤ _; have := hd m.perm (by have := ho.perm; omega); omega
  case offset => show (decDigits m.offset).length ≤ _; have := hd m.offset (by have := ho.offset; omega); omega
  case count => show (decDigits m.count).length ≤ _; have := hd m.count (by have := ho.count; omega); omega
  case qid => show (dotL m.qid).length ≤ _; have := dotL_len m.qid ho.qid.wide; omega
  case data => show (m.data.flatMap hexB).length ≤ _; rw [hex_len]; have := hz.data; omega
  case names =>
    show (91 :: (joinS (m.names.map quoteS) ++ [93])).length ≤ _
    have h : (decide (m.names.length ≤ 16) && m.names.all good) = true := hg
    rw [Bool.and_eq_true] at h
    have h1 := of_decide_eq_true h.1
    have h2 := joinS_len (m.names.map quoteS) 67108866 (by
      intro x hx
      obtain ⟨y, hy, rfl⟩ := List.mem_map.1 hx
      have := hq y
      have := hz.name_ y hy
      omega)
    rw [List.length_map] at h2
    have h3 : m.names.length * (67108866 + 1) ≤ 16 * (67108866 + 1) := Nat.mul_le_mul_right _ h1
    rw [List.length_cons, List.length_append, List.length_cons, List.length_nil]
    omega
  case qids =>
    show (91 :: (joinS (m.qids.map dotL) ++ [93])).length ≤ _
    have h1 : m.qids.length ≤ 16 := of_decide_eq_true hg
    have h2 := joinS_len (m.qids.map dotL) 62 (by
      intro x hx
      obtain ⟨y, hy, rfl⟩ := List.mem_map.1 hx
      exact dotL_len y (ho.qids y hy).wide)
    rw [List.length_map] at h2
    have h3 : m.qids.length * (62 + 1) ≤ 16 * (62 + 1) := Nat.mul_le_mul_right _ h1
    rw [List.length_cons, List.length_append, List.length_cons, List.length_nil]
    omega
  case stat =>
    show (recL m.stat).length ≤ _
    have hp := Mg.prt ho hg hz
    have a0 := hd _ hp.type
    have a1 := hd _ hp.dev
    have a2 := dotL_len _ hp.qid
    have a3 := hd _ hp.mode
    have a4 := hd _ hp.atime
    have a5 := hd _ hp.mtime
    have a6 := hd _ hp.length
    have a7 := hq m.stat.name
    have a8 := hq m.stat.uid
    have a9 := hq m.stat.gid
    have b0 := hq m.stat.muid
    have b7 := hp.name.2
    have b8 := hp.uid.2
    have b9 := hp.gid.2
    have c0 := hp.muid.2
    unfold recL
    simp only [List.length_append, List.length_cons, List.length_nil]
    omega
end Go.Proofs.YtkblmloobkiloaaGreatDoor
namespace Go.Proofs.YtkblmloobkiloaaGreatDoor
open Go.RowKit
open Go.Lib (decDigits)

theorem enc_len2 {m : Mg} {fs : List Fld} (hk : kindF m.kind = some fs) (h : (refused m).1 = 0) : (enc m).1.length = m.size fs ∧ fs.all m.good = true := by
  have hr := h
  unfold refused at hr
  rw [hk] at hr
  dsimp only at hr
  by_cases hg : fs.all m.good = true
  · refine ⟨?_, hg⟩
    unfold enc
    rw [hk]
    dsimp only
    rw [if_pos h]
    dsimp only
    simp only [List.length_append, le_len, body_len, Mg.size]
  · rw [if_neg hg] at hr
    cases hr
theorem enc_refused {m : Mg} (h : (refused m).1 ≠ 0) : (enc m).1 = [] ∧ textM m = [] := by
  unfold enc textM
  cases hk : kindF m.kind with
  | none => exact ⟨rfl, rfl⟩
  | some fs =>
    dsimp only
    rw [if_neg h, if_neg h]
    exact ⟨rfl, rfl⟩
theorem not_refused {m : Mg} (h : (refused m).1 = 0) : ∃ fs, kindF m.kind = some fs := by
  unfold refused at h
  cases hk : kindF m.kind with
  | none => rw [hk] at h; cases h
  | some fs => exact ⟨fs, rfl⟩
theorem fld_one (s : ByteArray) (a b c d e f : Nat) (x y : Array Value) : ([Value.string s, fv a x, fv b y, fv c y, fv d y, fv e y, fv f y] : List Value).toArray.all (·.oneCell') = true := fld_cells s a b c d e f x y
theorem word_len (f : Fld) : f.wordS.size ≤ 7 := by cases f <;> decide
theorem kindN_len (k : Nat) : (kindN k).length ≤ 8 := by
  unfold kindN
  split <;> simp
set_option maxRecDepth 100000 in
set_option maxHeartbeats 6400000 in
theorem text_calls (m : Mg) (vn vq vd : Value) (w : World) (ho : m.ok) (hl : Lists w w.heap.size m vn vq vd) (hr : Ready w) (ht : TP w) (hz : m.small) :
    Calls Tryz.prog 21 #[msgV m vn vq vd] w fun e w' => e = .returned (.string (ofL (textM m))) ∧ Below w.heap.size w w' := by
  obtain ⟨wq, hwq⟩ : ∃ wq, wq = w.alloc (.cells (msgL m vn vq vd).toArray 41) := ⟨_, rfl⟩
  have hupq : Below w.heap.size w wq := by rw [hwq]; exact (Below.refl _ _).alloc (Nat.le_refl _) _
  have HQ := Lib.hid (show MBlk wq w.heap.size m vn vq vd from by rw [hwq]; exact Blk.new w _ _)
  have HSZ := Lib.hid (size_calls m vn vq vd wq ho ((hl.below hupq).more hupq.size) (hr.below hupq (Nat.le_refl _)) hz)
  have HB := Lib.hid hupq
  have HL := Lib.hid (hl.below hupq)
  have H8 := Lib.hid hr.eight
  have HT := Lib.hid (ht.low hupq hr.eight)
  have HO := Lib.hid ho
  have HZ := Lib.hid hz
  clear ho hl hr ht hz hupq
  unfold msgV
  go_enter Tryz.func21, Tryz.ntmps21
  go_upto_region 1 with (fail)
  change Code.wp _ _ _ _ (w.alloc (.cells (msgL m vn vq vd).toArray 41))
  rw [← hwq]
  clear hwq
  generalize hq : w.heap.size = q at HQ HB HL H8 ⊢
  have HQQ := Lib.hid hq; clear hq
  go_wp2_with (refine wlw HQ.out 0 (msgL m vn vq vd) rfl rfl _ _ rfl rfl _ Tryz.underlying41 rfl msg_size ?_)
  refine HSZ.out.mono ?_
  rintro e w1 ⟨rfl, hb⟩
  have HB1 := Lib.hid (HB.out.trans (hb.mono (by have := Blk.lt HQ.out; omega)))
  have HQ1 := Lib.hid (Blk.below HQ.out hb (Blk.lt HQ.out))
  have HL1 := Lib.hid (HL.out.below (hb.mono (by have := Blk.lt HQ.out; omega)))
  have HT1 := Lib.hid (HT.out.low hb (by have := Blk.lt HQ.out; have := H8.out; omega))
  clear hb HSZ HQ HB HL HT
  by_cases href : (refused m).1 = 0
  · obtain ⟨fs, hk⟩ := not_refused href
    obtain ⟨hlen, hall⟩ := enc_len2 hk href
    have HTX := Lib.hid (text_ok hk href)
    have HALL := Lib.hid hall
    have hne : (((enc m).1.length : Int) == 0) = false := by
      rw [beq_eq_false_iff_ne, hlen]
      unfold Mg.size
      omega
    generalize ((enc m).1.length : Int) = eL at hne ⊢
    have HK := Lib.hid hk
    clear hlen hall hk href
    have k0 : w1.cell? ⟨q, 0, none⟩ = some (.int .u8 (m.kind : Int)) := Blk.cell HQ1.out 0
    go_wp2_with fail
    refine (rowOf_in m.kind w1).mono ?_
    rintro e w2 ⟨hb, hrow⟩
    unfold RowS at hrow
    rw [HK.out] at hrow
    obtain ⟨fvl, rfl, hfl⟩ := hrow
    have hup : Below w1.heap.size w1 (w2.alloc (.cells #[.int .u8 (m.kind : Int), .string (ofL (kindN m.kind)), fvl] 79)) := hb.alloc hb.size _
    have HR3 := Lib.hid (Blk.new w2 79 #[.int .u8 (m.kind : Int), .string (ofL (kindN m.kind)), fvl])
    have HF3 := Lib.hid (hfl.keep fun i _ hi => Below.heap_alloc w2 (.cells #[.int .u8 (m.kind : Int), .string (ofL (kindN m.kind)), fvl] 79) i hi)
    have HS3 := Lib.hid (World.size_alloc w2 (.cells #[.int .u8 (m.kind : Int), .string (ofL (kindN m.kind)), fvl] 79))
    have hq1 : q < w1.heap.size := Blk.lt HQ1.out
    have HQ3 := Lib.hid (Blk.below HQ1.out hup hq1)
    have HB3 := Lib.hid (HB1.out.trans (hup.mono (Nat.le_of_lt hq1)))
    have HL3 := Lib.hid (HL1.out.below (hup.mono (Nat.le_of_lt hq1)))
    have HT3 := Lib.hid (HT1.out.low hup (by have := H8.out; omega))
    have HSZ3 := Lib.hid (And.intro hq1 hb.size)
    obtain ⟨fA, fc, rfl, hfc, hfm, -⟩ := hfl
    have hfl20 : fs.length ≤ 20 := by
      have hh := HK.out
      unfold kindF at hh
      split at hh <;> first | (obtain rfl := Option.some.inj hh; decide) | (exact absurd hh (by simp))
    clear hb hup k0 HQ1 HB1 HL1 HT1 hq1
    obtain ⟨N, hN⟩ : ∃ N, N = ofL (kindN m.kind) := ⟨_, rfl⟩
    have hNs : N.size ≤ 8 := by rw [hN, ofL_size]; exact kindN_len _
    obtain ⟨D, hD⟩ : ∃ D, D = ofL (decDigits m.tag) := ⟨_, rfl⟩
    have hDs : D.size ≤ 20 := by rw [hD]; exact dig_len _ (by have := HO.out.tag; omega)
    obtain ⟨P0, hP0⟩ : ∃ P, P = N ++ ⟨#[32]⟩ := ⟨_, rfl⟩
    have hs0 : P0.size = N.size + 1 := by rw [hP0, ByteArray.size_append]; rfl
    have ha0 : ∀ w, (Op.stringOp .add N ⟨#[32]⟩).run Tryz.prog w = .ok (.string P0) w := fun w => by
      rw [hP0]
      exact run_string_add_sum w _ _ (by rw [← ByteArray.size_append, ← hP0]; omega)
    obtain ⟨P1, hP1⟩ : ∃ P, P = P0 ++ D := ⟨_, rfl⟩
    have hs1 : P1.size = P0.size + D.size := by rw [hP1, ByteArray.size_append]
    have ha1 : ∀ w, (Op.stringOp .add P0 D).run Tryz.prog w = .ok (.string P1) w := fun w => by
      rw [hP1]
      exact run_string_add_sum w _ _ (by rw [← ByteArray.size_append, ← hP1]; omega)
    have HP1 := Lib.hid (show P1 = ofL (kindN m.kind ++ 32 :: decDigits m.tag) ∧ P1.size ≤ 29 from by
      refine ⟨?_, by omega⟩
      rw [hP1, hP0, hN, hD]
      show ofL (kindN m.kind) ++ ofL [32] ++ ofL (decDigits m.tag) = _
      simp only [ofL_app]
      simp)
    have HD := Lib.hid hD.symm
    rw [← hN] at HR3 HF3 HS3 HQ3 HB3 HL3 HT3
    have HNN := Lib.hid hN
    clear hs0 hs1 hP0 hP1 hNs hDs hD
    rw [← hN]
    clear hN
    go_upto_region 4 with (fail)
    generalize w2.alloc (.cells #[.int .u8 (m.kind : Int), .string N, .slice fA fs.length fc] 79) = w3 at HR3 HF3 HS3 HQ3 HB3 HL3 HT3 ⊢
    generalize w2.heap.size = rb at HR3 HF3 HS3 HSZ3 ⊢
    have HGE := Lib.hid (show q < rb ∧ rb < w3.heap.size ∧ 8 ≤ w3.heap.size from by have := HSZ3.out; have := HS3.out; have := H8.out; omega)
    have HTP := Lib.hid (show ∀ wx, Below w3.heap.size w3 wx → TP wx from fun wx h => HT3.out.low h HGE.out.2.2)
    have j1 : w3.cell? ⟨rb, 1, none⟩ = some (.string N) := HR3.out.cell 1
    have j2 : w3.cell? ⟨q, 1, none⟩ = some (.int .u16 (m.tag : Int)) := Blk.cell HQ3.out 1
    have HJ := Lib.hid (show ∀ wx : World, Below w3.heap.size w3 wx → wx.cell? ⟨rb, 1, none⟩ = some (.string N) ∧ wx.cell? ⟨q, 1, none⟩ = some (.int .u16 (m.tag : Int)) from fun wx h => ⟨(h.cell (p := ⟨rb, 1, none⟩) HGE.out.2.1).trans j1, (h.cell (p := ⟨q, 1, none⟩) (Nat.lt_trans HGE.out.1 HGE.out.2.1)).trans j2⟩)
    have hw_tag : IntKind.u64.wrap (m.tag : Int) = (m.tag : Int) := wrap_u64_nat (by have := HO.out.tag; omega)
    have HTG := Lib.hid (show m.tag < 18446744073709551616 from by have := HO.out.tag; omega)
    clear j1 j2
    refine wp_region_held_drew (S := fun wx => Below w3.heap.size w3 wx) (by kernel_rfl) (below_drew w3) (fun hHeld => ?_)
    generalize w3.drew = wd at hHeld ⊢
    refine wpAnyH_takeD 18 (i := 0) (v := .pointer (some ⟨rb, 1, none⟩)) rfl rfl (by kernel_rfl) (by kernel_rfl) (by kernel_rfl) (fun _ _ _ h => h) (Or.inl ⟨by rfl, fun wq hSw => by go_simp⟩) (by assumption) ?_
    simp only [Act.put, List.setIfInBounds_toArray, List.set_cons_zero, List.set_cons_succ]
    refine wpAnyH_takeD 19 (i := 1) (v := .string N) rfl rfl (by kernel_rfl) (by kernel_rfl) (by kernel_rfl) (fun _ _ _ h => h) (Or.inl ⟨by rfl, fun wq hSw => by have k := (HJ.out _ hSw).1; go_simp⟩) (by assumption) ?_
    simp only [Act.put, List.setIfInBounds_toArray, List.set_cons_zero, List.set_cons_succ]
    refine wpAnyH_takeD 20 (i := 2) (v := .string P0) rfl rfl (by kernel_rfl) (by kernel_rfl) (by kernel_rfl) (fun _ _ _ h => h) (Or.inl ⟨by rfl, fun wq hSw => by go_simp⟩) (by assumption) ?_
    simp only [Act.put, List.setIfInBounds_toArray, List.set_cons_zero, List.set_cons_succ]
    refine wpAnyH_takeD 21 (i := 3) (v := .pointer (some ⟨q, 1, none⟩)) rfl rfl (by kernel_rfl) (by kernel_rfl) (by kernel_rfl) (fun _ _ _ h => h) (Or.inl ⟨by rfl, fun wq hSw => by go_simp⟩) (by assumption) ?_
    simp only [Act.put, List.setIfInBounds_toArray, List.set_cons_zero, List.set_cons_succ]
    refine wpAnyH_takeD 22 (i := 4) (v := .int .u16 (m.tag : Int)) rfl rfl (by kernel_rfl) (by kernel_rfl) (by kernel_rfl) (fun _ _ _ h => h) (Or.inl ⟨by rfl, fun wq hSw => by have k := (HJ.out _ hSw).2; go_simp⟩) (by assumption) ?_
    simp only [Act.put, List.setIfInBounds_toArray, List.set_cons_zero, List.set_cons_succ]
    refine wpAnyH_takeD 23 (i := 5) (v := .int .u64 (m.tag : Int)) rfl rfl (by kernel_rfl) (by kernel_rfl) (by kernel_rfl) (fun _ _ _ h => h) (Or.inl ⟨by rfl, fun wq hSw => by go_simp⟩) (by assumption) ?_
    simp only [Act.put, List.setIfInBounds_toArray, List.set_cons_zero, List.set_cons_succ]
    refine wpAnyH_ready (rs := [6]) (by kernel_rfl) (by simp) ?_
    refine AllReadyH.cons rfl (fun K hK => ?_) AllReadyH.nil
    rw [if_pos (by rfl)]
    go_simp
    (with_reducible refine (digits_calls m.tag HTG.out wd (HTP.out _ hHeld)).mono ?_)
    rintro e wy ⟨rfl, hb⟩
    rw [HD.out]
    dsimp only
    have hHeld2 := hHeld.trans (hb.mono hHeld.size)
    clear hb hHeld
    refine hK.out _ _ hHeld2 (fun hHeld => ?_)
    clear hK hHeld2
    refine wpAnyH_takeD 25 (i := 7) (v := .string P1) rfl rfl (by kernel_rfl) (by kernel_rfl) (by kernel_rfl) (fun _ _ _ h => h) (Or.inl ⟨by rfl, fun wq hSw => by go_simp⟩) (by assumption) ?_
    simp only [Act.put, List.setIfInBounds_toArray, List.set_cons_zero, List.set_cons_succ]
    refine wpAnyH_takeD 5 (i := 8) (v := .string P1) rfl rfl (by kernel_rfl) (by kernel_rfl) (by kernel_rfl) (fun _ _ _ h => h) (Or.inl ⟨by rfl, fun wq hSw => by go_simp⟩) (by assumption) ?_
    simp only [Act.put, List.setIfInBounds_toArray, List.set_cons_zero, List.set_cons_succ]
    refine wpAnyH_done (by kernel_rfl) ?_ _
    have HR5 := Lib.hid (Blk.below HR3.out hHeld (Blk.lt HR3.out))
    have HF5 := Lib.hid (HF3.out.keep fun i _ hi => hHeld.block i (by have := HGE.out; omega))
    have HQ5 := Lib.hid (Blk.below HQ3.out hHeld (Blk.lt HQ3.out))
    have HB5 := Lib.hid (HB3.out.trans (hHeld.mono (by have := HGE.out; omega)))
    have HL5 := Lib.hid (HL3.out.below (hHeld.mono (by have := HGE.out; omega)))
    have HT5 := Lib.hid (HTP.out _ hHeld)
    have HG5 := Lib.hid (show q < rb ∧ rb < wy.heap.size ∧ 8 ≤ q from by have := HGE.out; have := hHeld.size; have := H8.out; omega)
    clear hHeld ha0 ha1 hw_tag HJ HTP HR3 HF3 HQ3 HB3 HL3 HT3 HS3
    have k2 : wy.cell? ⟨rb, 2, none⟩ = some (.slice fA fs.length fc) := Blk.cell HR5.out 2
    go_upto_region 6 with (fail)
    clear k2
    go_loopw [5, 7, 8, 29] (fun v _ _ i wr => ∃ k : Nat, k ≤ fs.length ∧ i = .int .i64 k ∧ (∃ S, v = .string S ∧ S = ofL (kindN m.kind ++ 32 :: (decDigits m.tag ++ (fs.take k).flatMap m.part)) ∧ S.size ≤ 29 + k * 4294967296) ∧ Below wy.heap.size wy wr) (fun _ _ _ i _ => fs.length - (intOf i).toNat)
    case atStart =>
      refine ⟨0, by omega, rfl, ⟨P1, rfl, ?_, by have := HP1.out.2; omega⟩, Below.refl _ _⟩
      rw [HP1.out.1, List.take_zero, List.flatMap_nil, List.append_nil]
    case round =>
      obtain ⟨k, hk, rfl, ⟨S, rfl, hS, hSz⟩, hb⟩ := hrel
      have HSS := Lib.hid (And.intro hS hSz); clear hS hSz
      have HBR := Lib.hid hb; clear hb
      by_cases hlt : k < fs.length
      · obtain ⟨f, hf⟩ : ∃ f, fs[k]? = some f := ⟨fs[k], List.getElem?_eq_getElem _⟩
        obtain ⟨ad, rfl, kx⟩ := (HF5.out.keep fun i hlo hi => HBR.out.block i (by have := HG5.out; omega)).at_ hf
        have HGF := Lib.hid (List.all_eq_true.1 HALL.out f (List.mem_of_getElem? hf))
        have HNX := Lib.hid (show (fs.take (k + 1)).flatMap m.part = (fs.take k).flatMap m.part ++ m.part f from by
          rw [List.take_add_one, hf, Option.toList_some, List.flatMap_append, List.flatMap_singleton])
        clear hf
        go_wp2_with fail
        refine (fieldOf_plain f wr).mono ?_
        rintro e w7 ⟨rfl, hb, hcap⟩
        generalize wr.heap.size + 1 = b9 at *
        have hwz : wy.heap.size ≤ wr.heap.size := HBR.out.size
        have HB7 := Lib.hid (HBR.out.trans (hb.mono hwz))
        have hup8 : Below w7.heap.size w7 (w7.alloc (.cells #[.string f.wordS, .func (.func f.kg) #[] (f.gcap b9), .func (.func f.kp) #[] (f.cap b9), .func (.func f.kt) #[] (f.cap b9), .func (.func f.km) #[] (f.cap b9), .func (.func f.kr) #[] (f.cap b9), .func (.func f.ks) #[] (f.cap b9)] 90)) := (Below.refl _ _).alloc (Nat.le_refl _) _
        have HN8 := Lib.hid (Blk.new w7 90 #[.string f.wordS, .func (.func f.kg) #[] (f.gcap b9), .func (.func f.kp) #[] (f.cap b9), .func (.func f.kt) #[] (f.cap b9), .func (.func f.km) #[] (f.cap b9), .func (.func f.kr) #[] (f.cap b9), .func (.func f.ks) #[] (f.cap b9)])
        have HC8 := Lib.hid (show FCap (w7.alloc (.cells #[.string f.wordS, .func (.func f.kg) #[] (f.gcap b9), .func (.func f.kp) #[] (f.cap b9), .func (.func f.kt) #[] (f.cap b9), .func (.func f.km) #[] (f.cap b9), .func (.func f.kr) #[] (f.cap b9), .func (.func f.ks) #[] (f.cap b9)] 90)) f b9 from ⟨fun h => (hcap.1 h).alloc _, fun h h' => (hcap.2 h h').alloc _⟩)
        have HB8 := Lib.hid (HB7.out.trans (hup8.mono HB7.out.size))
        have HW7 := Lib.hid (show q < wy.heap.size ∧ 8 ≤ wy.heap.size from by have := HG5.out; omega)
        clear hb hcap kx hwz hup8
        go_upto_region 9 with (fail)
        change Code.wp _ _ _ _ (w7.alloc (.cells #[.string f.wordS, .func (.func f.kg) #[] (f.gcap b9), .func (.func f.kp) #[] (f.cap b9), .func (.func f.kt) #[] (f.cap b9), .func (.func f.km) #[] (f.cap b9), .func (.func f.kr) #[] (f.cap b9), .func (.func f.ks) #[] (f.cap b9)] 90))
        generalize w7.alloc (.cells #[.string f.wordS, .func (.func f.kg) #[] (f.gcap b9), .func (.func f.kp) #[] (f.cap b9), .func (.func f.kt) #[] (f.cap b9), .func (.func f.km) #[] (f.cap b9), .func (.func f.kr) #[] (f.cap b9), .func (.func f.ks) #[] (f.cap b9)] 90) = w8 at HN8 HC8 HB8 ⊢
        generalize w7.heap.size = z at HN8 ⊢
        have HZL := Lib.hid (Blk.lt HN8.out)
        have hws := word_len f
        obtain ⟨V, hV⟩ : ∃ V, V = ofL (m.val f) := ⟨_, rfl⟩
        have hVs : V.size ≤ 2147483648 := by rw [hV, ofL_size]; exact val_len m f HO.out HGF.out HZ.out
        have hSs := HSS.out.2
        obtain ⟨Q0, hQ0⟩ : ∃ P, P = (⟨#[32]⟩ : ByteArray) ++ f.wordS := ⟨_, rfl⟩
        have hs0 : Q0.size = 1 + f.wordS.size := by rw [hQ0, ByteArray.size_append]; rfl
        have ha0 : ∀ w, (Op.stringOp .add (⟨#[32]⟩ : ByteArray) f.wordS).run Tryz.prog w = .ok (.string Q0) w := fun w => by
          rw [hQ0]
          exact run_string_add_sum w _ _ (by rw [← ByteArray.size_append, ← hQ0]; omega)
        obtain ⟨Q1, hQ1⟩ : ∃ P, P = Q0 ++ (⟨#[61]⟩ : ByteArray) := ⟨_, rfl⟩
        have hs1 : Q1.size = Q0.size + 1 := by rw [hQ1, ByteArray.size_append]; rfl
        have ha1 : ∀ w, (Op.stringOp .add Q0 (⟨#[61]⟩ : ByteArray)).run Tryz.prog w = .ok (.string Q1) w := fun w => by
          rw [hQ1]
          exact run_string_add_sum w _ _ (by rw [← ByteArray.size_append, ← hQ1]; omega)
        obtain ⟨Q2, hQ2⟩ : ∃ P, P = Q1 ++ V := ⟨_, rfl⟩
        have hs2 : Q2.size = Q1.size + V.size := by rw [hQ2, ByteArray.size_append]
        have ha2 : ∀ w, (Op.stringOp .add Q1 V).run Tryz.prog w = .ok (.string Q2) w := fun w => by
          rw [hQ2]
          exact run_string_add_sum w _ _ (by rw [← ByteArray.size_append, ← hQ2]; omega)
        obtain ⟨Q3, hQ3⟩ : ∃ P, P = S ++ Q2 := ⟨_, rfl⟩
        have hs3 : Q3.size = S.size + Q2.size := by rw [hQ3, ByteArray.size_append]
        have ha3 : ∀ w, (Op.stringOp .add S Q2).run Tryz.prog w = .ok (.string Q3) w := fun w => by
          rw [hQ3]
          exact run_string_add_sum w _ _ (by rw [← ByteArray.size_append, ← hQ3]; omega)
        have HQ3R := Lib.hid (show Q3 = ofL (kindN m.kind ++ 32 :: (decDigits m.tag ++ (fs.take (k + 1)).flatMap m.part)) ∧ Q3.size ≤ 29 + (k + 1) * 4294967296 from by
          refine ⟨?_, by omega⟩
          rw [hQ3, hQ2, hQ1, hQ0, hV, HSS.out.1, wordS_eq, HNX.out]
          show _ ++ (ofL [32] ++ _ ++ ofL [61] ++ _) = _
          simp only [ofL_app]
          unfold Mg.part
          simp only [List.append_assoc, List.cons_append, List.nil_append])
        have HV := Lib.hid hV.symm
        have hfv : ∀ wx : World, Below w8.heap.size w8 wx → wx.cell? ⟨z, 0, none⟩ = some (.string f.wordS) ∧ wx.cell? ⟨z, 5, none⟩ = some (.func (.func f.kr) #[] (f.cap b9)) := fun wx h => ⟨(h.cell (p := ⟨z, 0, none⟩) HZL.out).trans (HN8.out.cell 0), (h.cell (p := ⟨z, 5, none⟩) HZL.out).trans (HN8.out.cell 5)⟩
        have HFV := Lib.hid hfv
        have hent := kr_enters f
        have HPR := Lib.hid (show ∀ wx : World, Below w8.heap.size w8 wx → Calls Tryz.prog f.kr (#[.pointer (some ⟨q, 0, none⟩)] ++ f.cap b9) wx fun e w' => e = .returned (.string (ofL (m.val f))) ∧ Below wx.heap.size wx w' from fun wx h => by
          have hz8 := HB8.out.size
          have hbq := HB8.out.trans (h.mono hz8)
          have hzx := h.size
          have hw7 := HW7.out
          refine fprint_calls f (Blk.below HQ5.out hbq hw7.1) ((HL5.out.below (hbq.mono (Nat.le_of_lt hw7.1))).more (by omega)) (HT5.out.low hbq hw7.2) (by omega) HO.out ?_ HGF.out HZ.out
          exact ⟨fun h' => Blk.below (HC8.out.1 h') h (Blk.lt (HC8.out.1 h')), fun h' h'' => Blk.below (HC8.out.2 h' h'') h (Blk.lt (HC8.out.2 h' h''))⟩)
        clear hws hVs hSs hs0 hs1 hs2 hs3 hQ0 hQ1 hQ2 hQ3 hV hfv
        refine wp_region_held_drew (S := fun wx => Below w8.heap.size w8 wx) (by kernel_rfl) (below_drew w8) (fun hHeld => ?_)
        generalize w8.drew = wd at hHeld ⊢
        refine wpAnyH_takeD 35 (i := 0) (v := .string S) rfl rfl (by kernel_rfl) (by kernel_rfl) (by kernel_rfl) (fun _ _ _ h => h) (Or.inl ⟨by rfl, fun wq hSw => by go_simp⟩) (by assumption) ?_
        simp only [Act.put, List.setIfInBounds_toArray, List.set_cons_zero, List.set_cons_succ]
        refine wpAnyH_takeD 36 (i := 1) (v := .pointer (some ⟨z, 0, none⟩)) rfl rfl (by kernel_rfl) (by kernel_rfl) (by kernel_rfl) (fun _ _ _ h => h) (Or.inl ⟨by rfl, fun wq hSw => by go_simp⟩) (by assumption) ?_
        simp only [Act.put, List.setIfInBounds_toArray, List.set_cons_zero, List.set_cons_succ]
        refine wpAnyH_takeD 37 (i := 2) (v := .string f.wordS) rfl rfl (by kernel_rfl) (by kernel_rfl) (by kernel_rfl) (fun _ _ _ h => h) (Or.inl ⟨by rfl, fun wq hSw => by have k := (HFV.out _ hSw).1; go_simp⟩) (by assumption) ?_
        simp only [Act.put, List.setIfInBounds_toArray, List.set_cons_zero, List.set_cons_succ]
        refine wpAnyH_takeD 38 (i := 3) (v := .string Q0) rfl rfl (by kernel_rfl) (by kernel_rfl) (by kernel_rfl) (fun _ _ _ h => h) (Or.inl ⟨by rfl, fun wq hSw => by go_simp⟩) (by assumption) ?_
        simp only [Act.put, List.setIfInBounds_toArray, List.set_cons_zero, List.set_cons_succ]
        refine wpAnyH_takeD 39 (i := 4) (v := .string Q1) rfl rfl (by kernel_rfl) (by kernel_rfl) (by kernel_rfl) (fun _ _ _ h => h) (Or.inl ⟨by rfl, fun wq hSw => by go_simp⟩) (by assumption) ?_
        simp only [Act.put, List.setIfInBounds_toArray, List.set_cons_zero, List.set_cons_succ]
        refine wpAnyH_takeD 40 (i := 5) (v := .pointer (some ⟨z, 5, none⟩)) rfl rfl (by kernel_rfl) (by kernel_rfl) (by kernel_rfl) (fun _ _ _ h => h) (Or.inl ⟨by rfl, fun wq hSw => by go_simp⟩) (by assumption) ?_
        simp only [Act.put, List.setIfInBounds_toArray, List.set_cons_zero, List.set_cons_succ]
        refine wpAnyH_takeD 41 (i := 6) (v := .func (.func f.kr) #[] (f.cap b9)) rfl rfl (by kernel_rfl) (by kernel_rfl) (by kernel_rfl) (fun _ _ _ h => h) (Or.inl ⟨by rfl, fun wq hSw => by have k := (HFV.out _ hSw).2; go_simp⟩) (by assumption) ?_
        simp only [Act.put, List.setIfInBounds_toArray, List.set_cons_zero, List.set_cons_succ]
        refine wpAnyH_ready (rs := [7]) (by kernel_rfl) (by simp) ?_
        refine AllReadyH.cons rfl (fun K hK => ?_) AllReadyH.nil
        rw [if_pos (by rfl)]
        go_simp
        (with_reducible refine (HPR.out wd hHeld).mono ?_)
        rintro e wy ⟨rfl, hb⟩
        rw [HV.out]
        dsimp only
        have hHeld2 := hHeld.trans (hb.mono hHeld.size)
        clear hb hHeld
        refine hK.out _ _ hHeld2 (fun hHeld => ?_)
        clear hK hHeld2
        refine wpAnyH_takeD 43 (i := 8) (v := .string Q2) rfl rfl (by kernel_rfl) (by kernel_rfl) (by kernel_rfl) (fun _ _ _ h => h) (Or.inl ⟨by rfl, fun wq hSw => by go_simp⟩) (by assumption) ?_
        simp only [Act.put, List.setIfInBounds_toArray, List.set_cons_zero, List.set_cons_succ]
        refine wpAnyH_takeD 44 (i := 9) (v := .string Q3) rfl rfl (by kernel_rfl) (by kernel_rfl) (by kernel_rfl) (fun _ _ _ h => h) (Or.inl ⟨by rfl, fun wq hSw => by go_simp⟩) (by assumption) ?_
        simp only [Act.put, List.setIfInBounds_toArray, List.set_cons_zero, List.set_cons_succ]
        refine wpAnyH_takeD 5 (i := 10) (v := .string Q3) rfl rfl (by kernel_rfl) (by kernel_rfl) (by kernel_rfl) (fun _ _ _ h => h) (Or.inl ⟨by rfl, fun wq hSw => by go_simp⟩) (by assumption) ?_
        simp only [Act.put, List.setIfInBounds_toArray, List.set_cons_zero, List.set_cons_succ]
        refine wpAnyH_done (by kernel_rfl) ?_ _
        have HBF := Lib.hid (HB8.out.trans (hHeld.mono HB8.out.size))
        clear hHeld ha0 ha1 ha2 ha3 hent
        go_wp2_with fail
        go_roundw
        case rel =>
          exact ⟨k + 1, by omega, by go_num, ⟨Q3, rfl, HQ3R.out⟩, HBF.out⟩
        case measure => simp [intOf]; omega
      · have hkl : k = fs.length := by omega
        subst hkl
        rw [List.take_length] at HSS
        have HRES := Lib.hid (show S = ofL (textM m) from by rw [HSS.out.1, HTX.out])
        go_wp2_with fail
        go_ret
        rw [HRES.out]
        exact ⟨rfl, by have hq := HQQ.out; rw [hq]; exact HB5.out.trans (HBR.out.mono (by have := HG5.out; omega))⟩
  · obtain ⟨he, htx⟩ := enc_refused href
    have HTX := Lib.hid htx
    have hl0 : ((enc m).1.length : Int) = 0 := by rw [he]; rfl
    rw [hl0]
    clear he htx href hl0
    go_wp2_with fail
    go_ret
    rw [HTX.out]
    exact ⟨rfl, by have hq := HQQ.out; rw [hq]; exact HB1.out⟩
end Go.Proofs.YtkblmloobkiloaaGreatDoor
namespace Go.Proofs.YtkblmloobkiloaaGreatDoor
open Go.RowKit

/-- The scanner at p: its line, its place. -/
def ScS (w : World) (p : Nat) (s : ByteArray) (at_ : Nat) : Prop := Blk w p 114 #[.string s, .int .i64 (at_ : Int)] ∧ at_ ≤ s.size ∧ s.size ≤ 16777216
theorem ScS.below {w w' : World} {p : Nat} {s : ByteArray} {at_ : Nat} (h : ScS w p s at_) (hb : Below w.heap.size w w') : ScS w' p s at_ := ⟨Blk.below h.1 hb (Blk.lt h.1), h.2⟩
theorem ScS.off {S : Nat → Prop} {w w' : World} {p : Nat} {s : ByteArray} {at_ : Nat} (h : ScS w p s at_) (ho : Off S w w') (hp : ¬ S p) : ScS w' p s at_ := ⟨ho.blk h.1 hp, h.2⟩
/-- What is thrown where a part is wrong. -/
def wrongEnd (n : Int) : Ending := .panicked [{ v := .iface 111 (.int .i64 n), recovered := false }]
/-- What a scanner's function gives: the part and the place behind it, or the place that is thrown. -/
def ScanR {α : Type} (p : Nat) (s : ByteArray) (V : α → Ending → World → Prop) (r : Except Nat (α × List UInt8)) (w : World) (e : Ending) (w' : World) : Prop :=
  Off (fun i => i = p) w w' ∧ match r with
    | .ok (x, l) => V x e w' ∧ ∃ a, ScS w' p s a ∧ s.data.toList.drop a = l
    | .error n => e = wrongEnd ((s.size : Int) - (n : Int))
theorem rest_eq (s : ByteArray) (a : Nat) : s.extract a s.size = ofL (s.data.toList.drop a) := by
  apply ByteArray.ext
  rw [← Array.toList_inj]
  simp only [ofL, ByteArray.data_extract, Array.toList_extract]
  rw [List.extract_eq_take_drop]
  rw [List.take_of_length_le]
  rw [List.length_drop, Array.length_toList]
  exact Nat.le_refl _
theorem rest_calls {w : World} {p : Nat} {s : ByteArray} {at_ : Nat} (h : ScS w p s at_) :
    Calls Tryz.prog 114 #[.pointer (some ⟨p, 0, none⟩)] w fun e w' => e = .returned (.string (ofL (s.data.toList.drop at_))) ∧ Below w.heap.size w w' := by
  obtain ⟨hb, hle, hz⟩ := h
  have k0 : w.cell? ⟨p, 0, none⟩ = some (.string s) := hb.cell 0
  have k1 : w.cell? ⟨p, 1, none⟩ = some (.int .i64 (at_ : Int)) := hb.cell 1
  have j0 : w.drew.cell? ⟨p, 0, none⟩ = some (.string s) := hb.cell 0
  have j1 : w.drew.cell? ⟨p, 1, none⟩ = some (.int .i64 (at_ : Int)) := hb.cell 1
  have HE := Lib.hid (rest_eq s at_)
  clear hb
  go_enter Tryz.func114, Tryz.ntmps114
  go_upto_region 1 with (fail)
  go_region
  go_wp2_with fail
  go_ret
  rw [← HE.out]
  exact ⟨rfl, below_drew w⟩
theorem word_calls {w : World} {p : Nat} {s : ByteArray} {at_ : Nat} (wd : ByteArray) (h : ScS w p s at_) :
    Calls Tryz.prog 112 #[.pointer (some ⟨p, 0, none⟩), .string wd] w (ScanR p s (fun (_ : Unit) e _ => e = .returned (.tuple #[])) ((pWord wd.data.toList (s.data.toList.drop at_)).map fun l => ((), l)) w) := by
  have HR := Lib.hid (rest_calls h)
  have HS := Lib.hid h
  have hz := h.2.2
  have hle := h.2.1
  clear h
  go_enter Tryz.func112, Tryz.ntmps112
  go_wp2_with fail
  refine HR.out.mono ?_
  rintro e w1 ⟨rfl, hb⟩
  have HS1 := Lib.hid (HS.out.below hb)
  have HO1 := Lib.hid (Off.of_below (S := fun i => i = p) hb)
  clear hb HS HR
  have HPX := Lib.hid (show Lib.hasPrefix (ofL (s.data.toList.drop at_)).data.toList wd.data.toList = wd.data.toList.isPrefixOf (s.data.toList.drop at_) from by simp [ofL, Lib.hasPrefix])
  generalize ofL (s.data.toList.drop at_) = R at HPX ⊢
  go_wp2_with fail
  refine (Tryz.strings_HasPrefix R wd w1).mono ?_
  rintro e w2 ⟨rfl, rfl⟩
  rw [HPX.out]
  have k1 : w2.cell? ⟨p, 1, none⟩ = some (.int .i64 (at_ : Int)) := HS1.out.1.cell 1
  have z1 : w2.frozen? ⟨p, 1, none⟩ = false := HS1.out.1.frozen 1
  have hsl : s.data.toList.length = s.size := Array.length_toList ..
  have hwl : wd.data.toList.length = wd.size := Array.length_toList ..
  cases hp : wd.data.toList.isPrefixOf (s.data.toList.drop at_) with
  | true =>
    have HW := Lib.hid (show pWord wd.data.toList (s.data.toList.drop at_) = .ok (s.data.toList.drop (at_ + wd.size)) from by
      unfold pWord
      rw [if_pos hp, List.drop_drop, hwl])
    have hlen : at_ + wd.size ≤ s.size := by
      have h := (List.isPrefixOf_iff_prefix.1 hp).length_le
      rw [List.length_drop, hsl, hwl] at h
      omega
    have HL := Lib.hid hlen
    have HBK := Lib.hid (show Blk (w2.setCell ⟨p, 1, none⟩ (.int .i64 ((at_ : Int) + (wd.size : Int)))) p 114 #[.string s, .int .i64 ((at_ + wd.size : Nat) : Int)] from by
      have h := HS1.out.1.set_ 1 (.int .i64 ((at_ : Int) + (wd.size : Int)))
      rw [show ((at_ + wd.size : Nat) : Int) = (at_ : Int) + (wd.size : Int) from by omega]
      exact h)
    have HOF := Lib.hid ((Off.refl (fun i => i = p) w2).setCell (p := ⟨p, 1, none⟩) rfl (.int .i64 ((at_ : Int) + (wd.size : Int))))
    clear hp hsl hwl HPX
    go_wp2_with fail
    generalize w2.setCell ⟨p, 1, none⟩ (.int .i64 ((at_ : Int) + (wd.size : Int))) = w3 at HBK HOF ⊢
    go_end0
    refine ⟨HO1.out.trans HOF.out, ?_⟩
    rw [HW.out]
    exact ⟨rfl, at_ + wd.size, ⟨HBK.out, HL.out, hz⟩, rfl⟩
  | false =>
    have HW := Lib.hid (show pWord wd.data.toList (s.data.toList.drop at_) = .error (s.size - at_) from by
      unfold pWord
      rw [hp, List.length_drop, hsl]
      rfl)
    clear hp hsl hwl HPX
    go_wp2_with fail
    refine ⟨rfl, HO1.out, ?_⟩
    rw [HW.out]
    show _ = wrongEnd _
    rw [show (s.size : Int) - ((s.size - at_ : Nat) : Int) = (at_ : Int) by omega]
    rfl
theorem isDig_calls (c : UInt8) (w : World) : Calls Tryz.prog 188 #[.int .u8 (c.toNat : Int)] w fun e w' => e = .returned (.bool (isDig c)) ∧ w = w' := by
  have HE := Lib.hid (show isDig c = (decide (48 ≤ c.toNat) && decide (c.toNat ≤ 57)) from rfl)
  generalize c.toNat = n at *
  by_cases h1 : 48 ≤ n
  · by_cases h2 : n ≤ 57
    · have HB := Lib.hid (show isDig c = true from by rw [HE.out, decide_eq_true h1, decide_eq_true h2]; rfl)
      have g1 : (n : Int) ≥ 48 := by omega
      have g2 : (n : Int) ≤ 57 := by omega
      clear h1 h2
      go_enter Tryz.func188, Tryz.ntmps188
      go_wp2_with fail
      go_ret
      exact ⟨ret_bool HB.out.symm, rfl⟩
    · have HB := Lib.hid (show isDig c = false from by rw [HE.out, decide_eq_false h2, Bool.and_false])
      have g1 : (n : Int) ≥ 48 := by omega
      have g2 : ¬ (n : Int) ≤ 57 := by omega
      clear h1 h2
      go_enter Tryz.func188, Tryz.ntmps188
      go_wp2_with fail
      go_ret
      exact ⟨ret_bool HB.out.symm, rfl⟩
  · have HB := Lib.hid (show isDig c = false from by rw [HE.out, decide_eq_false h1, Bool.false_and])
    have g1 : ¬ (48 : Int) ≤ (n : Int) := by omega
    clear h1
    go_enter Tryz.func188, Tryz.ntmps188
    go_wp2_with fail
    go_ret
    exact ⟨ret_bool HB.out.symm, rfl⟩
end Go.Proofs.YtkblmloobkiloaaGreatDoor
