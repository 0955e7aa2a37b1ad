/-
  MPA MPB: what the laws of package msg need of them.
-/
import Derived.Test.YtkblmloobkiloaaGreatDoorQ24
import Derived.Test.YtkblmloobkiloaaGreatDoorQ17
namespace Go.Proofs.YtkblmloobkiloaaGreatDoor
open Go.RowKit

theorem ScS.noT {w : World} {p : Nat} {s : ByteArray} {a : Nat} {e : TypeId} (h : ScS w p s a) (he : 114 ≠ e) : ∀ g cur fr, g = p → w.heap[g]? ≠ some (Obj.cells cur e fr) := h.1.noT he
theorem ScS.ne {w : World} {p q : Nat} {s : ByteArray} {a : Nat} {t : TypeId} {cs : Array Value} (h : ScS w p s a) (hm : Blk w q t cs) (ht : 114 ≠ t) : p ≠ q := fun e => h.noT ht q _ _ e.symm hm
theorem OL.sc {w w' : World} {p base : Nat} {m : Mg} {vn vq vd : Value} {s : ByteArray} {a : Nat} (h : OL w base m vn vq vd) (hr : ScS w p s a) (ho : Off (fun i => i = p) w w') : OL w' base m vn vq vd :=
  h.off ho fun i cur fr e hS he => by
    rcases he with rfl | rfl | rfl <;> exact hr.noT (by decide) i cur fr hS
/-- What a field's scan leaves. -/
def ScanFR (p q base : Nat) (s : ByteArray) (r : Except Nat (Mg × List UInt8)) (w : World) (e : Ending) (w' : World) : Prop :=
  Off (fun i => i = p ∨ i = q) w w' ∧ match r with
    | .ok (m, l) => e = .returned (.tuple #[]) ∧ (∃ vn vq vd, MBlk w' q m vn vq vd ∧ OL w' base m vn vq vd) ∧ ∃ a, ScS w' p s a ∧ s.data.toList.drop a = l
    | .error n => e = .panicked [{ v := .iface 111 (.int .i64 ((s.size : Int) - (n : Int))), recovered := false }]
theorem ScanFR.end_ {w w1 w' : World} {p q base a : Nat} {s : ByteArray} {vn vq vd xn xq xd : Value} {l : List UInt8} {m m' : Mg} {r : Except Nat (Mg × List UInt8)} (hr : r = .ok (m', l)) (h : ScS w1 p s a) (hd : s.data.toList.drop a = l) (hm : MBlk w1 q m vn vq vd) (ho : OL w1 base m' xn xq xd) (h1 : Off (fun i => i = p) w w1) (hb : MBlk w' q m' xn xq xd) (hoff : Off (fun i => i = q) w1 w') : ScanFR p q base s r w (.returned (.tuple #[])) w' := by
  subst hr
  exact ⟨(h1.mono fun _ _ h => .inl h).trans (hoff.mono fun _ _ h => .inr h), rfl, ⟨xn, xq, xd, hb, ho.mblk hm hoff⟩, a, h.off hoff (h.ne hm (by decide)), hd⟩
theorem ScanFR.no {w w1 : World} {p q base n : Nat} {s : ByteArray} {r : Except Nat (Mg × List UInt8)} (hr : r = .error n) (h1 : Off (fun i => i = p) w w1) : ScanFR p q base s r w (.panicked [{ v := .iface 111 (.int .i64 ((s.size : Int) - (n : Int))), recovered := false }]) w1 := by
  subst hr
  exact ⟨h1.mono fun _ _ h => .inl h, rfl⟩
theorem exmap_no {α β : Type} {r : Except Nat α} {n : Nat} (f : α → β) (h : r = .error n) : r.map f = .error n := by rw [h]; rfl
theorem exmap_ok {α β : Type} {r : Except Nat α} {x : α} (f : α → β) (h : r = .ok x) : r.map f = .ok (f x) := by rw [h]; rfl
theorem num325_calls {w : World} {p q b o K at_ : Nat} {s : ByteArray} {old : Value} (hse : SE w) (hrd : Ready w) (h8 : 8 ≤ p) (hent : ∀ args w, Sem.run Tryz.prog (callFunc K args) w = .ok (.enter K args) w) (hat : ∀ w, Calls Tryz.prog K #[.pointer (some ⟨q, 0, none⟩)] w fun e w' => e = .returned (.pointer (some ⟨q, o, none⟩)) ∧ w = w') (hc : Blk w b 135 #[fv K #[]]) (hk : ∀ w', Off (fun i => i = p) w w' → w'.cell? ⟨q, o, none⟩ = some old ∧ w'.frozen? ⟨q, o, none⟩ = false) (h : ScS w p s at_) :
    Calls Tryz.prog 131 #[.pointer (some ⟨p, 0, none⟩), .pointer (some ⟨q, 0, none⟩), .pointer (some ⟨b, 0, none⟩)] w fun e w' => (∃ n, pNum 4294967295 (s.data.toList.drop at_) = .error n ∧ e = .panicked [{ v := .iface 111 (.int .i64 ((s.size : Int) - (n : Int))), recovered := false }] ∧ Off (fun i => i = p) w w') ∨ (∃ x l a w1, pNum 4294967295 (s.data.toList.drop at_) = .ok (x, l) ∧ e = .returned (.tuple #[]) ∧ Off (fun i => i = p) w w1 ∧ ScS w1 p s a ∧ s.data.toList.drop a = l ∧ w' = w1.setCell ⟨q, o, none⟩ (.int .u32 (x : Int))) := by
  have HAT := Lib.hid (hat w)
  have HP := Lib.hid (number_calls 4294967295 (by decide) hse h8 hrd.eight h)
  have HK := Lib.hid hk
  have kb : w.cell? ⟨b, 0, none⟩ = _ := hc.cell 0
  clear hat hc h hk hse hrd h8
  go_enter Tryz.func131, Tryz.ntmps131
  go_wp2_with fail
  refine HAT.out.mono ?_
  rintro e w' ⟨rfl, rfl⟩
  go_wp2_with fail
  refine HP.out.mono ?_
  rintro e w1 hr
  rcases hr.get with ⟨n, hp, rfl, ho⟩ | ⟨x, l, a, hp, rfl, ho, hs, hd⟩
  · have HR := Lib.hid hp
    have HO := Lib.hid ho
    clear hp ho hr
    go_wp2_with fail
    exact ⟨rfl, .inl ⟨n, HR.out, rfl, HO.out⟩⟩
  · have HR := Lib.hid hp
    have HS := Lib.hid (And.intro ho (And.intro hs hd))
    have hx := pNum_le hp
    have hwv : IntKind.u32.wrap (x : Int) = (x : Int) := by rw [IntKind.wrap_u32]; omega
    obtain ⟨k0, z0⟩ := HK.out w1 ho
    clear hp ho hr hs hd
    go_wp2_with fail
    go_end0
    exact .inr ⟨x, l, a, w1, HR.out, rfl, HS.out.1, HS.out.2.1, HS.out.2.2, rfl⟩
theorem text6_calls {w : World} {p q b o K at_ : Nat} {s : ByteArray} {old : Value} (_hse : SE w) (hrd : Ready w) (h8 : 8 ≤ p) (hent : ∀ args w, Sem.run Tryz.prog (callFunc K args) w = .ok (.enter K args) w) (hat : ∀ w, Calls Tryz.prog K #[.pointer (some ⟨q, 0, none⟩)] w fun e w' => e = .returned (.pointer (some ⟨q, o, none⟩)) ∧ w = w') (hc : Blk w b 138 #[fv K #[]]) (hk : ∀ w', Off (fun i => i = p) w w' → w'.cell? ⟨q, o, none⟩ = some old ∧ w'.frozen? ⟨q, o, none⟩ = false) (h : ScS w p s at_) :
    Calls Tryz.prog 141 #[.pointer (some ⟨p, 0, none⟩), .pointer (some ⟨q, 0, none⟩), .pointer (some ⟨b, 0, none⟩)] w fun e w' => (∃ n, pText (s.data.toList.drop at_) = .error n ∧ e = .panicked [{ v := .iface 111 (.int .i64 ((s.size : Int) - (n : Int))), recovered := false }] ∧ Off (fun i => i = p) w w') ∨ (∃ x l a w1, pText (s.data.toList.drop at_) = .ok (x, l) ∧ e = .returned (.tuple #[]) ∧ Off (fun i => i = p) w w1 ∧ ScS w1 p s a ∧ s.data.toList.drop a = l ∧ w' = w1.setCell ⟨q, o, none⟩ (.string x)) := by
  have HAT := Lib.hid (hat w)
  have HP := Lib.hid (scText_calls hrd h8 h)
  have HK := Lib.hid hk
  have kb : w.cell? ⟨b, 0, none⟩ = _ := hc.cell 0
  clear hat hc h hk _hse hrd h8
  go_enter Tryz.func141, Tryz.ntmps141
  go_wp2_with fail
  refine HAT.out.mono ?_
  rintro e w' ⟨rfl, rfl⟩
  go_wp2_with fail
  refine HP.out.mono ?_
  rintro e w1 hr
  rcases hr.get with ⟨n, hp, rfl, ho⟩ | ⟨x, l, a, hp, rfl, ho, hs, hd⟩
  · have HR := Lib.hid hp
    have HO := Lib.hid ho
    clear hp ho hr
    go_wp2_with fail
    exact ⟨rfl, .inl ⟨n, HR.out, rfl, HO.out⟩⟩
  · have HR := Lib.hid hp
    have HS := Lib.hid (And.intro ho (And.intro hs hd))
    obtain ⟨k0, z0⟩ := HK.out w1 ho
    clear hp ho hr hs hd
    go_wp2_with fail
    go_end0
    exact .inr ⟨x, l, a, w1, HR.out, rfl, HS.out.1, HS.out.2.1, HS.out.2.2, rfl⟩
set_option maxRecDepth 100000 in
set_option maxHeartbeats 1600000 in
theorem scan_oldtag {w : World} {p q base at_ : Nat} {m : Mg} {vn vq vd : Value} {s : ByteArray} (hse : SE w) (hrd : Ready w) (h8 : 8 ≤ p) (hm : MBlk w q m vn vq vd) (ho : OL w base m vn vq vd) (hbase : base ≤ w.heap.size) (h : ScS w p s at_) :
    Calls Tryz.prog 147 #[.pointer (some ⟨p, 0, none⟩), .pointer (some ⟨q, 0, none⟩)] w (ScanFR p q base s (pF m (s.data.toList.drop at_) .oldtag) w) := by
  have hmf : ∀ (fn : Fn) (first cap : Array Value) (w : World), (Instr.makeFunc fn first cap).run Tryz.prog w = .ok (.func fn first cap) w := fun _ _ _ _ => rfl
  have HP := Lib.hid (number_calls 65535 (by decide) hse h8 hrd.eight h)
  have HNE := Lib.hid (h.ne hm (by decide))
  have HM := Lib.hid hm
  have HOL := Lib.hid (And.intro ho h)
  have HBA := Lib.hid hbase
  clear hm ho h hbase hse hrd h8
  go_enter Tryz.func147, Tryz.ntmps147
  go_wp2_with fail
  refine HP.out.mono ?_
  rintro e w1 hr
  rcases hr.get with ⟨n, hp, rfl, ho⟩ | ⟨x, l, a, hp, rfl, ho, hs, hd⟩
  · have HR := Lib.hid (exmap_no (fun p : Nat × List UInt8 => (m.setNum p.1 .oldtag, p.2)) hp)
    have HO := Lib.hid ho
    clear hp ho hr
    go_wp2_with fail
    exact ⟨rfl, ScanFR.no HR.out HO.out⟩
  have HR := Lib.hid (exmap_ok (fun p : Nat × List UInt8 => (m.setNum p.1 .oldtag, p.2)) hp)
  have HM1 := Lib.hid (ho.blk HM.out (fun h => HNE.out h.symm))
  have HOL1 := Lib.hid (HOL.out.1.sc HOL.out.2 ho)
  have HS := Lib.hid (And.intro ho (And.intro hs hd))
  have hx := pNum_le hp
  have hwv : IntKind.u16.wrap (x : Int) = (x : Int) := by rw [IntKind.wrap_u16]; omega
  have k0 : w1.cell? ⟨q, 8, none⟩ = some (.int .u16 (m.oldtag : Int)) := Blk.cell HM1.out 8
  have z0 : w1.frozen? ⟨q, 8, none⟩ = false := Blk.frozen HM1.out 8
  clear hp ho hr hs hd
  go_wp2_with fail
  go_end0
  exact ScanFR.end_ HR.out HS.out.2.1 HS.out.2.2 HM1.out ⟨HOL1.out.n, HOL1.out.q, HOL1.out.d⟩ HS.out.1 (MBlk.set_ HM1.out _ _ (set_oldtag ..)) (set_off ..)
set_option maxRecDepth 100000 in
set_option maxHeartbeats 1600000 in
theorem scan_mode {w : World} {p q base at_ : Nat} {m : Mg} {vn vq vd : Value} {s : ByteArray} (hse : SE w) (hrd : Ready w) (h8 : 8 ≤ p) (hm : MBlk w q m vn vq vd) (ho : OL w base m vn vq vd) (hbase : base ≤ w.heap.size) (h : ScS w p s at_) :
    Calls Tryz.prog 152 #[.pointer (some ⟨p, 0, none⟩), .pointer (some ⟨q, 0, none⟩)] w (ScanFR p q base s (pF m (s.data.toList.drop at_) .mode) w) := by
  have hmf : ∀ (fn : Fn) (first cap : Array Value) (w : World), (Instr.makeFunc fn first cap).run Tryz.prog w = .ok (.func fn first cap) w := fun _ _ _ _ => rfl
  have HP := Lib.hid (number_calls 255 (by decide) hse h8 hrd.eight h)
  have HNE := Lib.hid (h.ne hm (by decide))
  have HM := Lib.hid hm
  have HOL := Lib.hid (And.intro ho h)
  have HBA := Lib.hid hbase
  clear hm ho h hbase hse hrd h8
  go_enter Tryz.func152, Tryz.ntmps152
  go_wp2_with fail
  refine HP.out.mono ?_
  rintro e w1 hr
  rcases hr.get with ⟨n, hp, rfl, ho⟩ | ⟨x, l, a, hp, rfl, ho, hs, hd⟩
  · have HR := Lib.hid (exmap_no (fun p : Nat × List UInt8 => (m.setNum p.1 .mode, p.2)) hp)
    have HO := Lib.hid ho
    clear hp ho hr
    go_wp2_with fail
    exact ⟨rfl, ScanFR.no HR.out HO.out⟩
  have HR := Lib.hid (exmap_ok (fun p : Nat × List UInt8 => (m.setNum p.1 .mode, p.2)) hp)
  have HM1 := Lib.hid (ho.blk HM.out (fun h => HNE.out h.symm))
  have HOL1 := Lib.hid (HOL.out.1.sc HOL.out.2 ho)
  have HS := Lib.hid (And.intro ho (And.intro hs hd))
  have hx := pNum_le hp
  have hwv : IntKind.u8.wrap (x : Int) = (x : Int) := by rw [IntKind.wrap_u8]; omega
  have k0 : w1.cell? ⟨q, 16, none⟩ = some (.int .u8 (m.mode : Int)) := Blk.cell HM1.out 16
  have z0 : w1.frozen? ⟨q, 16, none⟩ = false := Blk.frozen HM1.out 16
  clear hp ho hr hs hd
  go_wp2_with fail
  go_end0
  exact ScanFR.end_ HR.out HS.out.2.1 HS.out.2.2 HM1.out ⟨HOL1.out.n, HOL1.out.q, HOL1.out.d⟩ HS.out.1 (MBlk.set_ HM1.out _ _ (set_mode ..)) (set_off ..)
set_option maxRecDepth 100000 in
set_option maxHeartbeats 1600000 in
theorem scan_offset {w : World} {p q base at_ : Nat} {m : Mg} {vn vq vd : Value} {s : ByteArray} (hse : SE w) (hrd : Ready w) (h8 : 8 ≤ p) (hm : MBlk w q m vn vq vd) (ho : OL w base m vn vq vd) (hbase : base ≤ w.heap.size) (h : ScS w p s at_) :
    Calls Tryz.prog 159 #[.pointer (some ⟨p, 0, none⟩), .pointer (some ⟨q, 0, none⟩)] w (ScanFR p q base s (pF m (s.data.toList.drop at_) .offset) w) := by
  have hmf : ∀ (fn : Fn) (first cap : Array Value) (w : World), (Instr.makeFunc fn first cap).run Tryz.prog w = .ok (.func fn first cap) w := fun _ _ _ _ => rfl
  have HP := Lib.hid (number_calls 18446744073709551615 (by decide) hse h8 hrd.eight h)
  have HNE := Lib.hid (h.ne hm (by decide))
  have HM := Lib.hid hm
  have HOL := Lib.hid (And.intro ho h)
  have HBA := Lib.hid hbase
  clear hm ho h hbase hse hrd h8
  go_enter Tryz.func159, Tryz.ntmps159
  go_wp2_with fail
  refine HP.out.mono ?_
  rintro e w1 hr
  rcases hr.get with ⟨n, hp, rfl, ho⟩ | ⟨x, l, a, hp, rfl, ho, hs, hd⟩
  · have HR := Lib.hid (exmap_no (fun p : Nat × List UInt8 => (m.setNum p.1 .offset, p.2)) hp)
    have HO := Lib.hid ho
    clear hp ho hr
    go_wp2_with fail
    exact ⟨rfl, ScanFR.no HR.out HO.out⟩
  have HR := Lib.hid (exmap_ok (fun p : Nat × List UInt8 => (m.setNum p.1 .offset, p.2)) hp)
  have HM1 := Lib.hid (ho.blk HM.out (fun h => HNE.out h.symm))
  have HOL1 := Lib.hid (HOL.out.1.sc HOL.out.2 ho)
  have HS := Lib.hid (And.intro ho (And.intro hs hd))
  have k0 : w1.cell? ⟨q, 20, none⟩ = some (.int .u64 (m.offset : Int)) := Blk.cell HM1.out 20
  have z0 : w1.frozen? ⟨q, 20, none⟩ = false := Blk.frozen HM1.out 20
  clear hp ho hr hs hd
  go_wp2_with fail
  go_end0
  exact ScanFR.end_ HR.out HS.out.2.1 HS.out.2.2 HM1.out ⟨HOL1.out.n, HOL1.out.q, HOL1.out.d⟩ HS.out.1 (MBlk.set_ HM1.out _ _ (set_offset ..)) (set_off ..)
set_option maxRecDepth 100000 in
set_option maxHeartbeats 1600000 in
theorem scan_data {w : World} {p q base at_ : Nat} {m : Mg} {vn vq vd : Value} {s : ByteArray} (_hse : SE w) (_hrd : Ready w) (_h8 : 8 ≤ p) (hm : MBlk w q m vn vq vd) (ho : OL w base m vn vq vd) (hbase : base ≤ w.heap.size) (h : ScS w p s at_) :
    Calls Tryz.prog 168 #[.pointer (some ⟨p, 0, none⟩), .pointer (some ⟨q, 0, none⟩)] w (ScanFR p q base s (pF m (s.data.toList.drop at_) .data) w) := by
  have hmf : ∀ (fn : Fn) (first cap : Array Value) (w : World), (Instr.makeFunc fn first cap).run Tryz.prog w = .ok (.func fn first cap) w := fun _ _ _ _ => rfl
  have HP := Lib.hid (data_calls h)
  have HNE := Lib.hid (h.ne hm (by decide))
  have HM := Lib.hid hm
  have HOL := Lib.hid (And.intro ho h)
  have HBA := Lib.hid hbase
  clear hm ho h hbase _hse _hrd _h8
  go_enter Tryz.func168, Tryz.ntmps168
  go_wp2_with fail
  refine HP.out.mono ?_
  rintro e w1 hr
  rcases hr.get with ⟨n, hp, rfl, ho⟩ | ⟨x, l, a, hp, hv, ho, hs, hd⟩
  · have HR := Lib.hid (exmap_no (fun p : List UInt8 × List UInt8 => ({ m with data := p.1 }, p.2)) hp)
    have HO := Lib.hid ho
    clear hp ho hr
    go_wp2_with fail
    exact ⟨rfl, ScanFR.no HR.out HO.out⟩
  have HR := Lib.hid (exmap_ok (fun p : List UInt8 × List UInt8 => ({ m with data := p.1 }, p.2)) hp)
  have HM1 := Lib.hid (ho.blk HM.out (fun h => HNE.out h.symm))
  have HOL1 := Lib.hid (HOL.out.1.sc HOL.out.2 ho)
  have HS := Lib.hid (And.intro ho (And.intro hs hd))
  obtain ⟨v, rfl, hv⟩ := hv
  have HV := Lib.hid (own_down hv HBA.out)
  obtain ⟨A, cap, rfl, hc, hmx⟩ := own_len hv
  clear hv hc hmx
  have k0 : w1.cell? ⟨q, 22, none⟩ = some vd := Blk.cell HM1.out 22
  have z0 : w1.frozen? ⟨q, 22, none⟩ = false := Blk.frozen HM1.out 22
  clear hp ho hr hs hd
  go_wp2_with fail
  go_end0
  exact ScanFR.end_ HR.out HS.out.2.1 HS.out.2.2 HM1.out ⟨HOL1.out.n, HOL1.out.q, HV.out⟩ HS.out.1 (MBlk.set_ HM1.out _ _ (set_data ..)) (set_off ..)
set_option maxRecDepth 100000 in
set_option maxHeartbeats 1600000 in
theorem scan_names {w : World} {p q base at_ : Nat} {m : Mg} {vn vq vd : Value} {s : ByteArray} (hse : SE w) (hrd : Ready w) (h8 : 8 ≤ p) (hm : MBlk w q m vn vq vd) (ho : OL w base m vn vq vd) (hbase : base ≤ w.heap.size) (h : ScS w p s at_) :
    Calls Tryz.prog 218 #[.pointer (some ⟨p, 0, none⟩), .pointer (some ⟨q, 0, none⟩)] w (ScanFR p q base s (pF m (s.data.toList.drop at_) .names) w) := by
  have hmf : ∀ (fn : Fn) (first cap : Array Value) (w : World), (Instr.makeFunc fn first cap).run Tryz.prog w = .ok (.func fn first cap) w := fun _ _ _ _ => rfl
  have HP := Lib.hid (scListS_calls hse hrd h8 h)
  have HNE := Lib.hid (h.ne hm (by decide))
  have HM := Lib.hid hm
  have HOL := Lib.hid (And.intro ho h)
  have HBA := Lib.hid hbase
  clear hm ho h hbase hse hrd h8
  go_enter Tryz.func218, Tryz.ntmps218
  go_wp2_with fail
  refine HP.out.mono ?_
  rintro e w1 hr
  rcases hr.get with ⟨n, hp, rfl, ho⟩ | ⟨x, l, a, hp, hv, ho, hs, hd⟩
  · have HR := Lib.hid (exmap_no (fun p : List ByteArray × List UInt8 => ({ m with names := p.1 }, p.2)) hp)
    have HO := Lib.hid ho
    clear hp ho hr
    go_wp2_with fail
    exact ⟨rfl, ScanFR.no HR.out HO.out⟩
  have HR := Lib.hid (exmap_ok (fun p : List ByteArray × List UInt8 => ({ m with names := p.1 }, p.2)) hp)
  have HM1 := Lib.hid (ho.blk HM.out (fun h => HNE.out h.symm))
  have HOL1 := Lib.hid (HOL.out.1.sc HOL.out.2 ho)
  have HS := Lib.hid (And.intro ho (And.intro hs hd))
  obtain ⟨v, rfl, hv⟩ := hv
  have HV := Lib.hid (own_down hv HBA.out)
  obtain ⟨A, cap, rfl, hc, hmx⟩ := own_len hv
  clear hv hc hmx
  have k0 : w1.cell? ⟨q, 11, none⟩ = some vn := Blk.cell HM1.out 11
  have z0 : w1.frozen? ⟨q, 11, none⟩ = false := Blk.frozen HM1.out 11
  clear hp ho hr hs hd
  go_wp2_with fail
  go_end0
  exact ScanFR.end_ HR.out HS.out.2.1 HS.out.2.2 HM1.out ⟨HV.out, HOL1.out.q, HOL1.out.d⟩ HS.out.1 (MBlk.set_ HM1.out _ _ (set_names ..)) (set_off ..)
set_option maxRecDepth 100000 in
set_option maxHeartbeats 1600000 in
theorem scan_qids {w : World} {p q base at_ : Nat} {m : Mg} {vn vq vd : Value} {s : ByteArray} (hse : SE w) (hrd : Ready w) (h8 : 8 ≤ p) (hm : MBlk w q m vn vq vd) (ho : OL w base m vn vq vd) (hbase : base ≤ w.heap.size) (h : ScS w p s at_) :
    Calls Tryz.prog 231 #[.pointer (some ⟨p, 0, none⟩), .pointer (some ⟨q, 0, none⟩)] w (ScanFR p q base s (pF m (s.data.toList.drop at_) .qids) w) := by
  have hmf : ∀ (fn : Fn) (first cap : Array Value) (w : World), (Instr.makeFunc fn first cap).run Tryz.prog w = .ok (.func fn first cap) w := fun _ _ _ _ => rfl
  have HP := Lib.hid (scListQ_calls hse hrd h8 h)
  have HNE := Lib.hid (h.ne hm (by decide))
  have HM := Lib.hid hm
  have HOL := Lib.hid (And.intro ho h)
  have HBA := Lib.hid hbase
  clear hm ho h hbase hse hrd h8
  go_enter Tryz.func231, Tryz.ntmps231
  go_wp2_with fail
  refine HP.out.mono ?_
  rintro e w1 hr
  rcases hr.get with ⟨n, hp, rfl, ho⟩ | ⟨x, l, a, hp, hv, ho, hs, hd⟩
  · have HR := Lib.hid (exmap_no (fun p : List Qd × List UInt8 => ({ m with qids := p.1 }, p.2)) hp)
    have HO := Lib.hid ho
    clear hp ho hr
    go_wp2_with fail
    exact ⟨rfl, ScanFR.no HR.out HO.out⟩
  have HR := Lib.hid (exmap_ok (fun p : List Qd × List UInt8 => ({ m with qids := p.1 }, p.2)) hp)
  have HM1 := Lib.hid (ho.blk HM.out (fun h => HNE.out h.symm))
  have HOL1 := Lib.hid (HOL.out.1.sc HOL.out.2 ho)
  have HS := Lib.hid (And.intro ho (And.intro hs hd))
  obtain ⟨v, rfl, hv⟩ := hv
  have HV := Lib.hid (own_down hv HBA.out)
  obtain ⟨A, cap, rfl, hc, hmx⟩ := own_len hv
  clear hv hc hmx
  have k0 : w1.cell? ⟨q, 12, none⟩ = some vq := Blk.cell HM1.out 12
  have z0 : w1.frozen? ⟨q, 12, none⟩ = false := Blk.frozen HM1.out 12
  clear hp ho hr hs hd
  go_wp2_with fail
  go_end0
  exact ScanFR.end_ HR.out HS.out.2.1 HS.out.2.2 HM1.out ⟨HOL1.out.n, HV.out, HOL1.out.d⟩ HS.out.1 (MBlk.set_ HM1.out _ _ (set_qids ..)) (set_off ..)
set_option maxRecDepth 100000 in
set_option maxHeartbeats 1600000 in
theorem scan_qid {w : World} {p q base at_ : Nat} {m : Mg} {vn vq vd : Value} {s : ByteArray} (hse : SE w) (_hrd : Ready w) (h8 : 8 ≤ p) (hm : MBlk w q m vn vq vd) (ho : OL w base m vn vq vd) (hbase : base ≤ w.heap.size) (h : ScS w p s at_) :
    Calls Tryz.prog 177 #[.pointer (some ⟨p, 0, none⟩), .pointer (some ⟨q, 0, none⟩)] w (ScanFR p q base s (pF m (s.data.toList.drop at_) .qid) w) := by
  have hmf : ∀ (fn : Fn) (first cap : Array Value) (w : World), (Instr.makeFunc fn first cap).run Tryz.prog w = .ok (.func fn first cap) w := fun _ _ _ _ => rfl
  have HP := Lib.hid (scQid_calls hse h8 h)
  have HNE := Lib.hid (h.ne hm (by decide))
  have HM := Lib.hid hm
  have HOL := Lib.hid (And.intro ho h)
  have HBA := Lib.hid hbase
  clear hm ho h hbase hse _hrd h8
  go_enter Tryz.func177, Tryz.ntmps177
  go_wp2_with fail
  refine HP.out.mono ?_
  rintro e w1 hr
  rcases hr.get with ⟨n, hp, rfl, ho⟩ | ⟨x, l, a, hp, rfl, ho, hs, hd⟩
  · have HR := Lib.hid (exmap_no (fun p : Qd × List UInt8 => ({ m with qid := p.1 }, p.2)) hp)
    have HO := Lib.hid ho
    clear hp ho hr
    go_wp2_with fail
    exact ⟨rfl, ScanFR.no HR.out HO.out⟩
  have HR := Lib.hid (exmap_ok (fun p : Qd × List UInt8 => ({ m with qid := p.1 }, p.2)) hp)
  have HM1 := Lib.hid (ho.blk HM.out (fun h => HNE.out h.symm))
  have HOL1 := Lib.hid (HOL.out.1.sc HOL.out.2 ho)
  have HS := Lib.hid (And.intro ho (And.intro hs hd))
  have k0 : w1.cell? ⟨q, 13, none⟩ = some (.int .u8 (m.qid.kind : Int)) := Blk.cell HM1.out 13
  have k1 : w1.cell? ⟨q, 14, none⟩ = some (.int .u32 (m.qid.vers : Int)) := Blk.cell HM1.out 14
  have k2 : w1.cell? ⟨q, 15, none⟩ = some (.int .u64 (m.qid.path : Int)) := Blk.cell HM1.out 15
  have z0 : w1.frozen? ⟨q, 13, none⟩ = false := Blk.frozen HM1.out 13
  have z1 : w1.frozen? ⟨q, 14, none⟩ = false := Blk.frozen HM1.out 14
  have z2 : w1.frozen? ⟨q, 15, none⟩ = false := Blk.frozen HM1.out 15
  clear hp ho hr hs hd
  go_wp2_with fail
  go_end0
  refine ScanFR.end_ HR.out HS.out.2.1 HS.out.2.2 HM1.out (m' := { m with qid := x }) ⟨HOL1.out.n, HOL1.out.q, HOL1.out.d⟩ HS.out.1 ?_ (((set_off w1 q 13 _).trans (set_off _ q 14 _)).trans (set_off _ q 15 _))
  have h := ((Blk.set_ HM1.out 13 (.int .u8 (x.kind : Int))).set_ 14 (.int .u32 (x.vers : Int))).set_ 15 (.int .u64 (x.path : Int))
  rw [set_qid] at h
  exact h
set_option maxRecDepth 100000 in
set_option maxHeartbeats 1600000 in
theorem scan_stat {w : World} {p q base at_ : Nat} {m : Mg} {vn vq vd : Value} {s : ByteArray} (hse : SE w) (hrd : Ready w) (h8 : 8 ≤ p) (hm : MBlk w q m vn vq vd) (ho : OL w base m vn vq vd) (hbase : base ≤ w.heap.size) (h : ScS w p s at_) :
    Calls Tryz.prog 241 #[.pointer (some ⟨p, 0, none⟩), .pointer (some ⟨q, 0, none⟩)] w (ScanFR p q base s (pF m (s.data.toList.drop at_) .stat) w) := by
  have hmf : ∀ (fn : Fn) (first cap : Array Value) (w : World), (Instr.makeFunc fn first cap).run Tryz.prog w = .ok (.func fn first cap) w := fun _ _ _ _ => rfl
  have HP := Lib.hid (scRecord_calls hse hrd h8 h)
  have HNE := Lib.hid (h.ne hm (by decide))
  have HM := Lib.hid hm
  have HOL := Lib.hid (And.intro ho h)
  have HBA := Lib.hid hbase
  clear hm ho h hbase hse hrd h8
  go_enter Tryz.func241, Tryz.ntmps241
  go_wp2_with fail
  refine HP.out.mono ?_
  rintro e w1 hr
  rcases hr.get with ⟨n, hp, rfl, ho⟩ | ⟨x, l, a, hp, rfl, ho, hs, hd⟩
  · have HR := Lib.hid (exmap_no (fun p : Sta × List UInt8 => ({ m with stat := p.1 }, p.2)) hp)
    have HO := Lib.hid ho
    clear hp ho hr
    go_wp2_with fail
    exact ⟨rfl, ScanFR.no HR.out HO.out⟩
  have HR := Lib.hid (exmap_ok (fun p : Sta × List UInt8 => ({ m with stat := p.1 }, p.2)) hp)
  have HM1 := Lib.hid (ho.blk HM.out (fun h => HNE.out h.symm))
  have HOL1 := Lib.hid (HOL.out.1.sc HOL.out.2 ho)
  have HS := Lib.hid (And.intro ho (And.intro hs hd))
  clear hp ho hr hs hd
  go_wp2_with (refine wstK HM1.out 23 (stL x) _ (over_stat ..) (Nat.le_refl 36) (stL_one _) rfl _ _ _ rfl rfl rfl stat_size ?_; intro w2 hs hoo; have HMX := Lib.hid hs; have HOX := Lib.hid (hoo (fun i => i = q) rfl w1 (Off.refl _ _)); clear hs hoo)
  go_end0
  exact ScanFR.end_ HR.out HS.out.2.1 HS.out.2.2 HM1.out (m' := { m with stat := x }) ⟨HOL1.out.n, HOL1.out.q, HOL1.out.d⟩ HS.out.1 HMX.out HOX.out
/-- A field is scanned. -/
theorem fscan_calls (f : Fld) {w : World} {p q base at_ : Nat} {m : Mg} {vn vq vd : Value} {s : ByteArray} {b : Nat} (hse : SE w) (hrd : Ready w) (h8 : 8 ≤ p) (hm : MBlk w q m vn vq vd) (ho : OL w base m vn vq vd) (hbase : base ≤ w.heap.size) (hc : FCap w f b) (h : ScS w p s at_) :
    Calls Tryz.prog f.ks (#[.pointer (some ⟨p, 0, none⟩), .pointer (some ⟨q, 0, none⟩)] ++ f.cap b) w (ScanFR p q base s (pF m (s.data.toList.drop at_) f) w) := by
  have hne := h.ne hm (by decide)
  cases f
  case msize =>
    refine (num325_calls hse hrd h8 (at_enters .msize rfl) (at_calls .msize rfl q) (hc.2 rfl rfl) (fun w' hb => ⟨Blk.cell (hb.blk hm (fun h => hne h.symm)) 2, Blk.frozen (hb.blk hm (fun h => hne h.symm)) 2⟩) h).mono ?_
    rintro e w' (⟨n, hp, rfl, hb⟩ | ⟨x, l, a, w1, hp, rfl, hb, hs, hd, rfl⟩)
    · exact ScanFR.no (exmap_no (fun p : Nat × List UInt8 => (m.setNum p.1 .msize, p.2)) hp) hb
    have hm1 : MBlk w1 q m vn vq vd := hb.blk hm (fun h => hne h.symm)
    have ho1 := ho.sc h hb
    exact ScanFR.end_ (exmap_ok (fun p : Nat × List UInt8 => (m.setNum p.1 .msize, p.2)) hp) hs hd hm1 ⟨ho1.n, ho1.q, ho1.d⟩ hb (MBlk.set_ hm1 _ _ (set_msize ..)) (set_off ..)
  case version =>
    refine (text6_calls hse hrd h8 (at_enters .version rfl) (at_calls .version rfl q) (hc.1 rfl) (fun w' hb => ⟨Blk.cell (hb.blk hm (fun h => hne h.symm)) 3, Blk.frozen (hb.blk hm (fun h => hne h.symm)) 3⟩) h).mono ?_
    rintro e w' (⟨n, hp, rfl, hb⟩ | ⟨x, l, a, w1, hp, rfl, hb, hs, hd, rfl⟩)
    · exact ScanFR.no (exmap_no (fun p : ByteArray × List UInt8 => (m.setTxt p.1 .version, p.2)) hp) hb
    have hm1 : MBlk w1 q m vn vq vd := hb.blk hm (fun h => hne h.symm)
    have ho1 := ho.sc h hb
    exact ScanFR.end_ (exmap_ok (fun p : ByteArray × List UInt8 => (m.setTxt p.1 .version, p.2)) hp) hs hd hm1 ⟨ho1.n, ho1.q, ho1.d⟩ hb (MBlk.set_ hm1 _ _ (set_version ..)) (set_off ..)
  case afid =>
    refine (num325_calls hse hrd h8 (at_enters .afid rfl) (at_calls .afid rfl q) (hc.2 rfl rfl) (fun w' hb => ⟨Blk.cell (hb.blk hm (fun h => hne h.symm)) 4, Blk.frozen (hb.blk hm (fun h => hne h.symm)) 4⟩) h).mono ?_
    rintro e w' (⟨n, hp, rfl, hb⟩ | ⟨x, l, a, w1, hp, rfl, hb, hs, hd, rfl⟩)
    · exact ScanFR.no (exmap_no (fun p : Nat × List UInt8 => (m.setNum p.1 .afid, p.2)) hp) hb
    have hm1 : MBlk w1 q m vn vq vd := hb.blk hm (fun h => hne h.symm)
    have ho1 := ho.sc h hb
    exact ScanFR.end_ (exmap_ok (fun p : Nat × List UInt8 => (m.setNum p.1 .afid, p.2)) hp) hs hd hm1 ⟨ho1.n, ho1.q, ho1.d⟩ hb (MBlk.set_ hm1 _ _ (set_afid ..)) (set_off ..)
  case uname =>
    refine (text6_calls hse hrd h8 (at_enters .uname rfl) (at_calls .uname rfl q) (hc.1 rfl) (fun w' hb => ⟨Blk.cell (hb.blk hm (fun h => hne h.symm)) 5, Blk.frozen (hb.blk hm (fun h => hne h.symm)) 5⟩) h).mono ?_
    rintro e w' (⟨n, hp, rfl, hb⟩ | ⟨x, l, a, w1, hp, rfl, hb, hs, hd, rfl⟩)
    · exact ScanFR.no (exmap_no (fun p : ByteArray × List UInt8 => (m.setTxt p.1 .uname, p.2)) hp) hb
    have hm1 : MBlk w1 q m vn vq vd := hb.blk hm (fun h => hne h.symm)
    have ho1 := ho.sc h hb
    exact ScanFR.end_ (exmap_ok (fun p : ByteArray × List UInt8 => (m.setTxt p.1 .uname, p.2)) hp) hs hd hm1 ⟨ho1.n, ho1.q, ho1.d⟩ hb (MBlk.set_ hm1 _ _ (set_uname ..)) (set_off ..)
  case aname =>
    refine (text6_calls hse hrd h8 (at_enters .aname rfl) (at_calls .aname rfl q) (hc.1 rfl) (fun w' hb => ⟨Blk.cell (hb.blk hm (fun h => hne h.symm)) 6, Blk.frozen (hb.blk hm (fun h => hne h.symm)) 6⟩) h).mono ?_
    rintro e w' (⟨n, hp, rfl, hb⟩ | ⟨x, l, a, w1, hp, rfl, hb, hs, hd, rfl⟩)
    · exact ScanFR.no (exmap_no (fun p : ByteArray × List UInt8 => (m.setTxt p.1 .aname, p.2)) hp) hb
    have hm1 : MBlk w1 q m vn vq vd := hb.blk hm (fun h => hne h.symm)
    have ho1 := ho.sc h hb
    exact ScanFR.end_ (exmap_ok (fun p : ByteArray × List UInt8 => (m.setTxt p.1 .aname, p.2)) hp) hs hd hm1 ⟨ho1.n, ho1.q, ho1.d⟩ hb (MBlk.set_ hm1 _ _ (set_aname ..)) (set_off ..)
  case ename =>
    refine (text6_calls hse hrd h8 (at_enters .ename rfl) (at_calls .ename rfl q) (hc.1 rfl) (fun w' hb => ⟨Blk.cell (hb.blk hm (fun h => hne h.symm)) 7, Blk.frozen (hb.blk hm (fun h => hne h.symm)) 7⟩) h).mono ?_
    rintro e w' (⟨n, hp, rfl, hb⟩ | ⟨x, l, a, w1, hp, rfl, hb, hs, hd, rfl⟩)
    · exact ScanFR.no (exmap_no (fun p : ByteArray × List UInt8 => (m.setTxt p.1 .ename, p.2)) hp) hb
    have hm1 : MBlk w1 q m vn vq vd := hb.blk hm (fun h => hne h.symm)
    have ho1 := ho.sc h hb
    exact ScanFR.end_ (exmap_ok (fun p : ByteArray × List UInt8 => (m.setTxt p.1 .ename, p.2)) hp) hs hd hm1 ⟨ho1.n, ho1.q, ho1.d⟩ hb (MBlk.set_ hm1 _ _ (set_ename ..)) (set_off ..)
  case oldtag => exact scan_oldtag hse hrd h8 hm ho hbase h
  case fid =>
    refine (num325_calls hse hrd h8 (at_enters .fid rfl) (at_calls .fid rfl q) (hc.2 rfl rfl) (fun w' hb => ⟨Blk.cell (hb.blk hm (fun h => hne h.symm)) 9, Blk.frozen (hb.blk hm (fun h => hne h.symm)) 9⟩) h).mono ?_
    rintro e w' (⟨n, hp, rfl, hb⟩ | ⟨x, l, a, w1, hp, rfl, hb, hs, hd, rfl⟩)
    · exact ScanFR.no (exmap_no (fun p : Nat × List UInt8 => (m.setNum p.1 .fid, p.2)) hp) hb
    have hm1 : MBlk w1 q m vn vq vd := hb.blk hm (fun h => hne h.symm)
    have ho1 := ho.sc h hb
    exact ScanFR.end_ (exmap_ok (fun p : Nat × List UInt8 => (m.setNum p.1 .fid, p.2)) hp) hs hd hm1 ⟨ho1.n, ho1.q, ho1.d⟩ hb (MBlk.set_ hm1 _ _ (set_fid ..)) (set_off ..)
  case newfid =>
    refine (num325_calls hse hrd h8 (at_enters .newfid rfl) (at_calls .newfid rfl q) (hc.2 rfl rfl) (fun w' hb => ⟨Blk.cell (hb.blk hm (fun h => hne h.symm)) 10, Blk.frozen (hb.blk hm (fun h => hne h.symm)) 10⟩) h).mono ?_
    rintro e w' (⟨n, hp, rfl, hb⟩ | ⟨x, l, a, w1, hp, rfl, hb, hs, hd, rfl⟩)
    · exact ScanFR.no (exmap_no (fun p : Nat × List UInt8 => (m.setNum p.1 .newfid, p.2)) hp) hb
    have hm1 : MBlk w1 q m vn vq vd := hb.blk hm (fun h => hne h.symm)
    have ho1 := ho.sc h hb
    exact ScanFR.end_ (exmap_ok (fun p : Nat × List UInt8 => (m.setNum p.1 .newfid, p.2)) hp) hs hd hm1 ⟨ho1.n, ho1.q, ho1.d⟩ hb (MBlk.set_ hm1 _ _ (set_newfid ..)) (set_off ..)
  case names => exact scan_names hse hrd h8 hm ho hbase h
  case qids => exact scan_qids hse hrd h8 hm ho hbase h
  case qid => exact scan_qid hse hrd h8 hm ho hbase h
  case mode => exact scan_mode hse hrd h8 hm ho hbase h
  case iounit =>
    refine (num325_calls hse hrd h8 (at_enters .iounit rfl) (at_calls .iounit rfl q) (hc.2 rfl rfl) (fun w' hb => ⟨Blk.cell (hb.blk hm (fun h => hne h.symm)) 17, Blk.frozen (hb.blk hm (fun h => hne h.symm)) 17⟩) h).mono ?_
    rintro e w' (⟨n, hp, rfl, hb⟩ | ⟨x, l, a, w1, hp, rfl, hb, hs, hd, rfl⟩)
    · exact ScanFR.no (exmap_no (fun p : Nat × List UInt8 => (m.setNum p.1 .iounit, p.2)) hp) hb
    have hm1 : MBlk w1 q m vn vq vd := hb.blk hm (fun h => hne h.symm)
    have ho1 := ho.sc h hb
    exact ScanFR.end_ (exmap_ok (fun p : Nat × List UInt8 => (m.setNum p.1 .iounit, p.2)) hp) hs hd hm1 ⟨ho1.n, ho1.q, ho1.d⟩ hb (MBlk.set_ hm1 _ _ (set_iounit ..)) (set_off ..)
  case name =>
    refine (text6_calls hse hrd h8 (at_enters .name rfl) (at_calls .name rfl q) (hc.1 rfl) (fun w' hb => ⟨Blk.cell (hb.blk hm (fun h => hne h.symm)) 18, Blk.frozen (hb.blk hm (fun h => hne h.symm)) 18⟩) h).mono ?_
    rintro e w' (⟨n, hp, rfl, hb⟩ | ⟨x, l, a, w1, hp, rfl, hb, hs, hd, rfl⟩)
    · exact ScanFR.no (exmap_no (fun p : ByteArray × List UInt8 => (m.setTxt p.1 .name, p.2)) hp) hb
    have hm1 : MBlk w1 q m vn vq vd := hb.blk hm (fun h => hne h.symm)
    have ho1 := ho.sc h hb
    exact ScanFR.end_ (exmap_ok (fun p : ByteArray × List UInt8 => (m.setTxt p.1 .name, p.2)) hp) hs hd hm1 ⟨ho1.n, ho1.q, ho1.d⟩ hb (MBlk.set_ hm1 _ _ (set_name ..)) (set_off ..)
  case perm =>
    refine (num325_calls hse hrd h8 (at_enters .perm rfl) (at_calls .perm rfl q) (hc.2 rfl rfl) (fun w' hb => ⟨Blk.cell (hb.blk hm (fun h => hne h.symm)) 19, Blk.frozen (hb.blk hm (fun h => hne h.symm)) 19⟩) h).mono ?_
    rintro e w' (⟨n, hp, rfl, hb⟩ | ⟨x, l, a, w1, hp, rfl, hb, hs, hd, rfl⟩)
    · exact ScanFR.no (exmap_no (fun p : Nat × List UInt8 => (m.setNum p.1 .perm, p.2)) hp) hb
    have hm1 : MBlk w1 q m vn vq vd := hb.blk hm (fun h => hne h.symm)
    have ho1 := ho.sc h hb
    exact ScanFR.end_ (exmap_ok (fun p : Nat × List UInt8 => (m.setNum p.1 .perm, p.2)) hp) hs hd hm1 ⟨ho1.n, ho1.q, ho1.d⟩ hb (MBlk.set_ hm1 _ _ (set_perm ..)) (set_off ..)
  case offset => exact scan_offset hse hrd h8 hm ho hbase h
  case count =>
    refine (num325_calls hse hrd h8 (at_enters .count rfl) (at_calls .count rfl q) (hc.2 rfl rfl) (fun w' hb => ⟨Blk.cell (hb.blk hm (fun h => hne h.symm)) 21, Blk.frozen (hb.blk hm (fun h => hne h.symm)) 21⟩) h).mono ?_
    rintro e w' (⟨n, hp, rfl, hb⟩ | ⟨x, l, a, w1, hp, rfl, hb, hs, hd, rfl⟩)
    · exact ScanFR.no (exmap_no (fun p : Nat × List UInt8 => (m.setNum p.1 .count, p.2)) hp) hb
    have hm1 : MBlk w1 q m vn vq vd := hb.blk hm (fun h => hne h.symm)
    have ho1 := ho.sc h hb
    exact ScanFR.end_ (exmap_ok (fun p : Nat × List UInt8 => (m.setNum p.1 .count, p.2)) hp) hs hd hm1 ⟨ho1.n, ho1.q, ho1.d⟩ hb (MBlk.set_ hm1 _ _ (set_count ..)) (set_off ..)
  case data => exact scan_data hse hrd h8 hm ho hbase h
  case stat => exact scan_stat hse hrd h8 hm ho hbase h
end Go.Proofs.YtkblmloobkiloaaGreatDoor
namespace Go.Proofs.YtkblmloobkiloaaGreatDoor
open Go.RowKit

theorem kindAt_pos : ∀ r, r < 27 → 0 ≤ kindAt r := by decide
theorem kindOf_row {r : Nat} {s : ByteArray} (hr : r < 27) (h : nameAt r = s) : ∃ k : Nat, kindOf s.data.toList = some k ∧ kindAt r = (k : Int) := by
  obtain ⟨fs, h1, h2, -⟩ := tab_row r hr
  refine ⟨(kindAt r).toNat, ?_, ?_⟩
  · rw [← h, h2]
    show kindOf (ofL _).data.toList = _
    rw [show (ofL (kindN (kindAt r).toNat)).data.toList = kindN (kindAt r).toNat from by simp [ofL]]
    exact (kindN_of h1).1
  · have := kindAt_pos r hr
    omega
theorem kindOf_no {s : ByteArray} (h : ∀ q, q < 27 → nameAt q ≠ s) : kindOf s.data.toList = none := by
  cases hk : kindOf s.data.toList with
  | none => rfl
  | some k =>
    obtain ⟨h1, -, fs, hf⟩ := kindOf_some hk
    obtain ⟨-, -, h3, h4⟩ := kindF_well hf
    have hi := kindF_ix (k - 100) (by omega) (by rw [show 100 + (k - 100) = k by omega, hf]; simp)
    rw [show 100 + (k - 100) = k by omega] at hi
    have ha := rowIx_at (k : Int) hi
    obtain ⟨fs', h5, h6, -⟩ := tab_row _ hi
    rw [ha] at h6
    refine absurd ?_ (h _ hi)
    rw [h6, show ((k : Int)).toNat = k from rfl, h1]
    apply ByteArray.ext
    simp [ofL]
/-- What Kind gives. -/
def KindR (s : ByteArray) (e : Ending) : Prop := match kindOf s.data.toList with
  | some k => e = .returned (.tuple #[.int .u8 (k : Int), .bool true])
  | none => e = .returned (.tuple #[.int .u8 0, .bool false])
theorem kind_calls (s : ByteArray) (w : World) : Calls Tryz.prog 37 #[.string s] w fun e w' => KindR s e ∧ Below w.heap.size w w' := by
  go_enter Tryz.func37, Tryz.ntmps37
  go_upto_region 2 with (go_at_call 70; refine (kinds_calls _).mono ?_; rintro e w' ⟨rfl, rfl⟩)
  have hk0 := kindsAt_new w
  have hb0 := foldl_alloc_below (kindObjs w.heap.size) w
  have hz0 := foldl_alloc_size (kindObjs w.heap.size) w
  generalize List.foldl World.alloc w (kindObjs w.heap.size) = w0 at hk0 hb0 hz0 ⊢
  have hz1 : (kindObjs w.heap.size).length = 24 := rfl
  rw [hz1] at hz0
  clear hz1
  have HK0 := Lib.hid hk0; clear hk0
  have HB1 := Lib.hid hb0; clear hb0
  have HZ0 := Lib.hid hz0; clear hz0
  generalize hg : w.heap.size + 23 = g
  have HG := Lib.hid hg; clear hg
  go_loopw [5, 8] (fun _ i wr => ∃ r : Nat, r ≤ 27 ∧ i = .int .i64 r ∧ Below w0.heap.size w0 wr ∧ ∀ q, q < r → nameAt q ≠ s) (fun _ i _ => 27 - (intOf i).toNat)
  case atStart => exact ⟨0, by omega, rfl, Below.refl _ _, fun q hq => absurd hq (Nat.not_lt_zero q)⟩
  case round =>
    obtain ⟨r, hr, rfl, hb, hno⟩ := hrel
    have HNO := Lib.hid hno; clear hno
    have HB := Lib.hid hb; clear hb
    by_cases hlt : r < 27
    · have HK := Lib.hid (HK0.out.below HB.out (by rw [HZ0.out]; exact Nat.le_refl _))
      have c0 : wr.cell? ⟨g, r * 3, none⟩ = some (.int .u8 (kindAt r)) := by rw [← HG.out, HK.out.blk.cell, kindCells_kind _ r hlt]; rfl
      have c1 : wr.cell? ⟨g, r * 3 + 1, none⟩ = some (.string (nameAt r)) := by rw [← HG.out, HK.out.blk.cell, kindCells_name _ r hlt]; rfl
      have c2 : wr.cell? ⟨g, r * 3 + 2, none⟩ = some (fieldsV w.heap.size r) := by rw [← HG.out, HK.out.blk.cell, kindCells_fields _ r hlt]
      obtain ⟨fa, fl, fc, hfv⟩ := fieldsV_slice w.heap.size r hlt
      rw [hfv] at c2
      clear hfv
      by_cases he : nameAt r = s
      · obtain ⟨k, hk1, hk2⟩ := kindOf_row hlt he
        have HE := Lib.hid hk1
        have HKA := Lib.hid hk2
        have hbe : ((nameAt r).toList == s.toList) = true := by rw [he]; exact beq_self_eq_true _
        clear he hk1 hk2
        go_wp2_with fail
        go_ret2
        refine ⟨?_, (HB1.out.trans (HB.out.mono (by have := HB1.out.size; omega))).alloc (by have := HB1.out.size; have := HB.out.size; omega) _⟩
        unfold KindR
        rw [HE.out, HKA.out]
        rfl
      · have hne : ((nameAt r).toList == s.toList) = false := by
          rw [beq_eq_false_iff_ne]
          intro h
          exact he (ByteArray.ext (Array.toList_inj.1 (by rw [← ByteArray.toList_eq, ← ByteArray.toList_eq]; exact h)))
        have HE := Lib.hid he; clear he
        go_wp2_with fail
        go_roundw
        case rel => exact ⟨r + 1, by omega, by go_num, HB.out.alloc HB.out.size _, fun q hq => (by rcases Nat.lt_succ_iff_lt_or_eq.1 hq with h | h; exact HNO.out q h; exact h ▸ HE.out)⟩
        case measure => simp [intOf]; omega
    · have hrr : r = 27 := by omega
      have HRR := Lib.hid hrr; clear hrr
      have HE := Lib.hid (kindOf_no (fun q hq => HNO.out q (by rw [HRR.out]; exact hq)))
      go_wp2_with fail
      go_ret2
      refine ⟨?_, HB1.out.trans (HB.out.mono (by have := HB1.out.size; omega))⟩
      unfold KindR
      rw [HE.out]
      rfl
end Go.Proofs.YtkblmloobkiloaaGreatDoor
