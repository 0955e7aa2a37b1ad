/-
  MRA MRB: what the laws of package msg need of them.
-/
import Derived.Test.YtkblmloobkiloaaGreatDoorQ15
import Derived.Test.YtkblmloobkiloaaGreatDoorQ11
namespace Go.Proofs.YtkblmloobkiloaaGreatDoor
open Go.RowKit

/-- The lists of a message are rows of one's own. -/
structure OL (w : World) (base : Nat) (m : Mg) (vn vq vd : Value) : Prop where
  n : w.ownsRow base 9 1 vn m.names.length (strL m.names)
  q : w.ownsRow base 37 3 vq m.qids.length (qidL m.qids)
  d : w.ownsRow base 5 1 vd m.data.length (byteL m.data)
theorem OL.off {S : Nat → Prop} {w w' : World} {base : Nat} {m : Mg} {vn vq vd : Value} (h : OL w base m vn vq vd) (ho : Off S w w') (hs : ∀ i cur fr e, S i → (e = 9 ∨ e = 37 ∨ e = 5) → w.heap[i]? ≠ some (Obj.cells cur e fr)) : OL w' base m vn vq vd :=
  ⟨own_off ho h.n fun i cur fr hS => hs i cur fr _ hS (.inl rfl), own_off ho h.q fun i cur fr hS => hs i cur fr _ hS (.inr (.inl rfl)), own_off ho h.d fun i cur fr hS => hs i cur fr _ hS (.inr (.inr rfl))⟩
theorem RdS.noT {w : World} {p : Nat} {bv : Value} {l : List UInt8} {st : Option (List UInt8)} {e : TypeId} (h : RdS w p bv l st) (he : 129 ≠ e) : ∀ g cur fr, g = p → w.heap[g]? ≠ some (Obj.cells cur e fr) := by
  obtain ⟨_, _, h, _⟩ := h
  obtain ⟨_, _, hb⟩ := h.blk
  exact hb.noT he
theorem OL.rd {w w' : World} {p base : Nat} {m : Mg} {vn vq vd bv : Value} {l : List UInt8} {st : Option (List UInt8)} (h : OL w base m vn vq vd) (hr : RdS w p bv l st) (ho : OffR p w w') : OL w' base m vn vq vd :=
  h.off ho fun i cur fr e hS he => by
    rcases he with rfl | rfl | rfl <;> exact hr.noT (by decide) i cur fr hS
theorem OL.mblk {w w' : World} {q base : Nat} {m m2 : Mg} {vn vq vd xn xq xd : Value} (h : OL w base m vn vq vd) (hm : MBlk w q m2 xn xq xd) (ho : Off (fun i => i = q) w w') : OL w' base m vn vq vd :=
  h.off ho fun i cur fr e hS he => by
    rcases he with rfl | rfl | rfl <;> exact Blk.noT hm (by decide) i cur fr hS
theorem OL.below {w w' : World} {base : Nat} {m : Mg} {vn vq vd : Value} (h : OL w base m vn vq vd) (hb : Below w.heap.size w w') : OL w' base m vn vq vd := ⟨own_new h.n hb, own_new h.q hb, own_new h.d hb⟩
theorem RdS.ne {w : World} {p q : Nat} {bv : Value} {l : List UInt8} {st : Option (List UInt8)} {t : TypeId} {cs : Array Value} (h : RdS w p bv l st) (hm : Blk w q t cs) (ht : 129 ≠ t) : p ≠ q := fun e => h.noT ht q _ _ e.symm hm
/-- What a field's take leaves. -/
def TakeR (p q base : Nat) (bv : Value) (l : List UInt8) (m : Mg) (st : Option (List UInt8)) (w : World) (w' : World) : Prop :=
  RdS w' p bv l st ∧ (∃ vn vq vd, MBlk w' q m vn vq vd ∧ OL w' base m vn vq vd) ∧ Off (fun i => i = p ∨ i = q) w w'
theorem TakeR.end_ {w w1 w' : World} {p q base : Nat} {bv vn vq vd xn xq xd : Value} {l : List UInt8} {m m' : Mg} {st : Option (List UInt8)} (h : RdS w1 p bv l st) (hm : MBlk w1 q m vn vq vd) (ho : OL w1 base m' xn xq xd) (h1 : OffR p w w1) (hb : MBlk w' q m' xn xq xd) (hoff : Off (fun i => i = q) w1 w') : TakeR p q base bv l m' st w w' :=
  ⟨h.off hoff (h.ne hm (by decide)) (blk_noU8 hm (by decide)), ⟨xn, xq, xd, hb, ho.mblk hm hoff⟩, (h1.mono fun _ _ h => .inl h).trans (hoff.mono fun _ _ h => .inr h)⟩
/-- One cell of a message is written. -/
theorem MBlk.set_ {w : World} {q : Nat} {m m' : Mg} {vn vq vd xn xq xd : Value} (hm : MBlk w q m vn vq vd) (i : Nat) (v : Value) (e : (msgL m vn vq vd).toArray.setIfInBounds i v = (msgL m' xn xq xd).toArray) : MBlk (w.setCell ⟨q, i, none⟩ v) q m' xn xq xd := by
  have h := Blk.set_ hm i v
  rw [e] at h
  exact h
theorem set_off (w : World) (q i : Nat) (v : Value) : Off (fun k => k = q) w (w.setCell ⟨q, i, none⟩ v) := (Off.refl (fun k => k = q) w).setCell (p := ⟨q, i, none⟩) (show q = q from rfl) v
theorem set_msize (m : Mg) (n : Nat) (vn vq vd : Value) : (msgL m vn vq vd).toArray.setIfInBounds 2 (.int .u32 (n : Int)) = (msgL (m.setNum n .msize) vn vq vd).toArray := by kernel_rfl
theorem set_version (m : Mg) (s : ByteArray) (vn vq vd : Value) : (msgL m vn vq vd).toArray.setIfInBounds 3 (.string s) = (msgL (m.setTxt s .version) vn vq vd).toArray := by kernel_rfl
theorem set_afid (m : Mg) (n : Nat) (vn vq vd : Value) : (msgL m vn vq vd).toArray.setIfInBounds 4 (.int .u32 (n : Int)) = (msgL (m.setNum n .afid) vn vq vd).toArray := by kernel_rfl
theorem set_uname (m : Mg) (s : ByteArray) (vn vq vd : Value) : (msgL m vn vq vd).toArray.setIfInBounds 5 (.string s) = (msgL (m.setTxt s .uname) vn vq vd).toArray := by kernel_rfl
theorem set_aname (m : Mg) (s : ByteArray) (vn vq vd : Value) : (msgL m vn vq vd).toArray.setIfInBounds 6 (.string s) = (msgL (m.setTxt s .aname) vn vq vd).toArray := by kernel_rfl
theorem set_ename (m : Mg) (s : ByteArray) (vn vq vd : Value) : (msgL m vn vq vd).toArray.setIfInBounds 7 (.string s) = (msgL (m.setTxt s .ename) vn vq vd).toArray := by kernel_rfl
theorem set_oldtag (m : Mg) (n : Nat) (vn vq vd : Value) : (msgL m vn vq vd).toArray.setIfInBounds 8 (.int .u16 (n : Int)) = (msgL (m.setNum n .oldtag) vn vq vd).toArray := by kernel_rfl
theorem set_fid (m : Mg) (n : Nat) (vn vq vd : Value) : (msgL m vn vq vd).toArray.setIfInBounds 9 (.int .u32 (n : Int)) = (msgL (m.setNum n .fid) vn vq vd).toArray := by kernel_rfl
theorem set_newfid (m : Mg) (n : Nat) (vn vq vd : Value) : (msgL m vn vq vd).toArray.setIfInBounds 10 (.int .u32 (n : Int)) = (msgL (m.setNum n .newfid) vn vq vd).toArray := by kernel_rfl
theorem set_mode (m : Mg) (n : Nat) (vn vq vd : Value) : (msgL m vn vq vd).toArray.setIfInBounds 16 (.int .u8 (n : Int)) = (msgL (m.setNum n .mode) vn vq vd).toArray := by kernel_rfl
theorem set_iounit (m : Mg) (n : Nat) (vn vq vd : Value) : (msgL m vn vq vd).toArray.setIfInBounds 17 (.int .u32 (n : Int)) = (msgL (m.setNum n .iounit) vn vq vd).toArray := by kernel_rfl
theorem set_name (m : Mg) (s : ByteArray) (vn vq vd : Value) : (msgL m vn vq vd).toArray.setIfInBounds 18 (.string s) = (msgL (m.setTxt s .name) vn vq vd).toArray := by kernel_rfl
theorem set_perm (m : Mg) (n : Nat) (vn vq vd : Value) : (msgL m vn vq vd).toArray.setIfInBounds 19 (.int .u32 (n : Int)) = (msgL (m.setNum n .perm) vn vq vd).toArray := by kernel_rfl
theorem set_offset (m : Mg) (n : Nat) (vn vq vd : Value) : (msgL m vn vq vd).toArray.setIfInBounds 20 (.int .u64 (n : Int)) = (msgL (m.setNum n .offset) vn vq vd).toArray := by kernel_rfl
theorem set_count (m : Mg) (n : Nat) (vn vq vd : Value) : (msgL m vn vq vd).toArray.setIfInBounds 21 (.int .u32 (n : Int)) = (msgL (m.setNum n .count) vn vq vd).toArray := by kernel_rfl
theorem set_names (m : Mg) (x : List ByteArray) (vn vq vd v : Value) : (msgL m vn vq vd).toArray.setIfInBounds 11 v = (msgL { m with names := x } v vq vd).toArray := by kernel_rfl
theorem set_qids (m : Mg) (x : List Qd) (vn vq vd v : Value) : (msgL m vn vq vd).toArray.setIfInBounds 12 v = (msgL { m with qids := x } vn v vd).toArray := by kernel_rfl
theorem set_data (m : Mg) (x : List UInt8) (vn vq vd v : Value) : (msgL m vn vq vd).toArray.setIfInBounds 22 v = (msgL { m with data := x } vn vq v).toArray := by kernel_rfl
theorem set_qid (m : Mg) (x : Qd) (vn vq vd : Value) : (((msgL m vn vq vd).toArray.setIfInBounds 13 (.int .u8 (x.kind : Int))).setIfInBounds 14 (.int .u32 (x.vers : Int))).setIfInBounds 15 (.int .u64 (x.path : Int)) = (msgL { m with qid := x } vn vq vd).toArray := by kernel_rfl
theorem over_stat (m : Mg) (x : Sta) (vn vq vd : Value) : over (msgL m vn vq vd).toArray 23 (stL x) = (msgL { m with stat := x } vn vq vd).toArray := by kernel_rfl
theorem stL_one (s : Sta) : (stL s).toArray.all (·.oneCell') = true := st_one ..
theorem num322_calls {w : World} {p q b o K : Nat} {bv old : Value} {l : List UInt8} {st : Option (List UInt8)} (hent : ∀ args w, Sem.run Tryz.prog (callFunc K args) w = .ok (.enter K args) w) (hat : ∀ w, Calls Tryz.prog K #[.pointer (some ⟨q, 0, none⟩)] w fun e w' => e = .returned (.pointer (some ⟨q, o, none⟩)) ∧ w = w') (hc : Blk w b 135 #[fv K #[]]) (hk : ∀ w', OffR p w w' → w'.cell? ⟨q, o, none⟩ = some old ∧ w'.frozen? ⟨q, o, none⟩ = false) (h : RdS w p bv l st) :
    Calls Tryz.prog 128 #[.pointer (some ⟨p, 0, none⟩), .pointer (some ⟨q, 0, none⟩), .pointer (some ⟨b, 0, none⟩)] w fun e w' => e = .returned (.tuple #[]) ∧ ∃ w1, RdS w1 p bv l (getO 4 st).2 ∧ OffR p w w1 ∧ w' = w1.setCell ⟨q, o, none⟩ (.int .u32 ((getO 4 st).1 : Int)) := by
  have HAT := Lib.hid (hat w)
  have HP := Lib.hid (rdU32_calls h)
  have HK := Lib.hid hk
  have kb : w.cell? ⟨b, 0, none⟩ = _ := hc.cell 0
  clear hat hc h hk
  go_enter Tryz.func128, Tryz.ntmps128
  go_wp2_with fail
  refine HAT.out.mono ?_
  rintro e w' ⟨rfl, rfl⟩
  go_wp2_with fail
  refine HP.out.mono ?_
  rintro e w1 ⟨rfl, hs, hb⟩
  have HS := Lib.hid (And.intro hs hb)
  obtain ⟨k0, z0⟩ := HK.out w1 hb
  clear hs hb
  go_wp2_with fail
  go_end0
  exact ⟨rfl, w1, HS.out.1, HS.out.2, rfl⟩
theorem text3_calls {w : World} {p q b o K : Nat} {bv old : Value} {l : List UInt8} {st : Option (List UInt8)} (hr : Ready w) (h8 : 8 ≤ p) (hent : ∀ args w, Sem.run Tryz.prog (callFunc K args) w = .ok (.enter K args) w) (hat : ∀ w, Calls Tryz.prog K #[.pointer (some ⟨q, 0, none⟩)] w fun e w' => e = .returned (.pointer (some ⟨q, o, none⟩)) ∧ w = w') (hc : Blk w b 138 #[fv K #[]]) (hk : ∀ w', OffR p w w' → w'.cell? ⟨q, o, none⟩ = some old ∧ w'.frozen? ⟨q, o, none⟩ = false) (h : RdS w p bv l st) :
    Calls Tryz.prog 136 #[.pointer (some ⟨p, 0, none⟩), .pointer (some ⟨q, 0, none⟩), .pointer (some ⟨b, 0, none⟩)] w fun e w' => e = .returned (.tuple #[]) ∧ ∃ w1, RdS w1 p bv l (textO st).2 ∧ OffR p w w1 ∧ w' = w1.setCell ⟨q, o, none⟩ (.string (textO st).1) := by
  have HAT := Lib.hid (hat w)
  have HP := Lib.hid (rdText_calls hr h8 h)
  have HK := Lib.hid hk
  have kb : w.cell? ⟨b, 0, none⟩ = _ := hc.cell 0
  clear hat hc h hr h8 hk
  go_enter Tryz.func136, Tryz.ntmps136
  go_wp2_with fail
  refine HAT.out.mono ?_
  rintro e w' ⟨rfl, rfl⟩
  go_wp2_with fail
  refine HP.out.mono ?_
  rintro e w1 ⟨rfl, hs, hb⟩
  have HS := Lib.hid (And.intro hs hb)
  obtain ⟨k0, z0⟩ := HK.out w1 hb
  clear hs hb
  go_wp2_with fail
  go_end0
  exact ⟨rfl, w1, HS.out.1, HS.out.2, rfl⟩
theorem take_oldtag {w : World} {p q base : Nat} {m : Mg} {bv vn vq vd : Value} {l : List UInt8} {st : Option (List UInt8)} (hm : MBlk w q m vn vq vd) (ho : OL w base m vn vq vd) (h : RdS w p bv l st) :
    Calls Tryz.prog 144 #[.pointer (some ⟨p, 0, none⟩), .pointer (some ⟨q, 0, none⟩)] w fun e w' => e = .returned (.tuple #[]) ∧ TakeR p q base bv l (takeF m st .oldtag).1 (takeF m st .oldtag).2 w w' := by
  have HP := Lib.hid (rdU16_calls h)
  have HNE := Lib.hid (h.ne hm (by decide))
  have HM := Lib.hid hm
  have HOL := Lib.hid (And.intro ho h)
  clear hm ho h
  go_enter Tryz.func144, Tryz.ntmps144
  go_wp2_with fail
  refine HP.out.mono ?_
  rintro e w1 ⟨rfl, hs, hb⟩
  have HM1 := Lib.hid (hb.blk HM.out (fun h => HNE.out h.symm))
  have HOL1 := Lib.hid (HOL.out.1.rd HOL.out.2 hb)
  have HS := Lib.hid (And.intro hs hb)
  have k0 : w1.cell? ⟨q, 8, none⟩ = some (.int .u16 (m.oldtag : Int)) := Blk.cell HM1.out 8
  have z0 : w1.frozen? ⟨q, 8, none⟩ = false := Blk.frozen HM1.out 8
  clear hs hb
  go_wp2_with fail
  go_end0
  exact ⟨rfl, TakeR.end_ HS.out.1 HM1.out ⟨HOL1.out.n, HOL1.out.q, HOL1.out.d⟩ HS.out.2 (MBlk.set_ HM1.out _ _ (set_oldtag ..)) (set_off ..)⟩
theorem take_mode {w : World} {p q base : Nat} {m : Mg} {bv vn vq vd : Value} {l : List UInt8} {st : Option (List UInt8)} (hm : MBlk w q m vn vq vd) (ho : OL w base m vn vq vd) (h : RdS w p bv l st) :
    Calls Tryz.prog 149 #[.pointer (some ⟨p, 0, none⟩), .pointer (some ⟨q, 0, none⟩)] w fun e w' => e = .returned (.tuple #[]) ∧ TakeR p q base bv l (takeF m st .mode).1 (takeF m st .mode).2 w w' := by
  have HP := Lib.hid (rdU8_calls h)
  have HNE := Lib.hid (h.ne hm (by decide))
  have HM := Lib.hid hm
  have HOL := Lib.hid (And.intro ho h)
  clear hm ho h
  go_enter Tryz.func149, Tryz.ntmps149
  go_wp2_with fail
  refine HP.out.mono ?_
  rintro e w1 ⟨rfl, hs, hb⟩
  have HM1 := Lib.hid (hb.blk HM.out (fun h => HNE.out h.symm))
  have HOL1 := Lib.hid (HOL.out.1.rd HOL.out.2 hb)
  have HS := Lib.hid (And.intro hs hb)
  have k0 : w1.cell? ⟨q, 16, none⟩ = some (.int .u8 (m.mode : Int)) := Blk.cell HM1.out 16
  have z0 : w1.frozen? ⟨q, 16, none⟩ = false := Blk.frozen HM1.out 16
  clear hs hb
  go_wp2_with fail
  go_end0
  exact ⟨rfl, TakeR.end_ HS.out.1 HM1.out ⟨HOL1.out.n, HOL1.out.q, HOL1.out.d⟩ HS.out.2 (MBlk.set_ HM1.out _ _ (set_mode ..)) (set_off ..)⟩
theorem take_offset {w : World} {p q base : Nat} {m : Mg} {bv vn vq vd : Value} {l : List UInt8} {st : Option (List UInt8)} (hm : MBlk w q m vn vq vd) (ho : OL w base m vn vq vd) (h : RdS w p bv l st) :
    Calls Tryz.prog 155 #[.pointer (some ⟨p, 0, none⟩), .pointer (some ⟨q, 0, none⟩)] w fun e w' => e = .returned (.tuple #[]) ∧ TakeR p q base bv l (takeF m st .offset).1 (takeF m st .offset).2 w w' := by
  have HP := Lib.hid (rdU64_calls h)
  have HNE := Lib.hid (h.ne hm (by decide))
  have HM := Lib.hid hm
  have HOL := Lib.hid (And.intro ho h)
  clear hm ho h
  go_enter Tryz.func155, Tryz.ntmps155
  go_wp2_with fail
  refine HP.out.mono ?_
  rintro e w1 ⟨rfl, hs, hb⟩
  have HM1 := Lib.hid (hb.blk HM.out (fun h => HNE.out h.symm))
  have HOL1 := Lib.hid (HOL.out.1.rd HOL.out.2 hb)
  have HS := Lib.hid (And.intro hs hb)
  have k0 : w1.cell? ⟨q, 20, none⟩ = some (.int .u64 (m.offset : Int)) := Blk.cell HM1.out 20
  have z0 : w1.frozen? ⟨q, 20, none⟩ = false := Blk.frozen HM1.out 20
  clear hs hb
  go_wp2_with fail
  go_end0
  exact ⟨rfl, TakeR.end_ HS.out.1 HM1.out ⟨HOL1.out.n, HOL1.out.q, HOL1.out.d⟩ HS.out.2 (MBlk.set_ HM1.out _ _ (set_offset ..)) (set_off ..)⟩
set_option maxRecDepth 100000 in
theorem take_data {w : World} {p q base : Nat} {m : Mg} {bv vn vq vd : Value} {l : List UInt8} {st : Option (List UInt8)} (hm : MBlk w q m vn vq vd) (ho : OL w base m vn vq vd) (hbase : base ≤ w.heap.size) (h : RdS w p bv l st) :
    Calls Tryz.prog 162 #[.pointer (some ⟨p, 0, none⟩), .pointer (some ⟨q, 0, none⟩)] w fun e w' => e = .returned (.tuple #[]) ∧ TakeR p q base bv l (takeF m st .data).1 (takeF m st .data).2 w w' := by
  have HP := Lib.hid (rdU32_calls h)
  have HNE := Lib.hid (h.ne hm (by decide))
  have HM := Lib.hid hm
  have HOL := Lib.hid (And.intro ho h)
  have HBA := Lib.hid hbase
  clear hm ho h hbase
  have hAl : (getO 4 st).1 < 4294967296 := getO_lt 4 st
  have hw : wrap64 ((getO 4 st).1 : Int) = ((getO 4 st).1 : Int) := IntWalk.wrap64_in _ (by omega)
  go_enter Tryz.func162, Tryz.ntmps162
  go_wp2_with fail
  refine HP.out.mono ?_
  rintro e w1 ⟨rfl, hs, hb⟩
  have HM1 := Lib.hid (hb.blk HM.out (fun h => HNE.out h.symm))
  have HOL1 := Lib.hid (HOL.out.1.rd HOL.out.2 hb)
  have HS := Lib.hid (And.intro hs hb)
  clear hs hb
  go_wp2_with fail
  refine (rdRaw_calls (getO 4 st).1 HS.out.1).mono ?_
  rintro e w2 ⟨⟨v, rfl, hv⟩, hs, hb⟩
  have HM2 := Lib.hid (hb.blk HM1.out (fun h => HNE.out h.symm))
  have HOL2 := Lib.hid (HOL1.out.rd HS.out.1 hb)
  have HV := Lib.hid (own_down hv (Nat.le_trans HBA.out HS.out.2.size))
  have HS2 := Lib.hid (And.intro hs (HS.out.2.trans hb))
  have k0 : w2.cell? ⟨q, 22, none⟩ = some vd := Blk.cell HM2.out 22
  have z0 : w2.frozen? ⟨q, 22, none⟩ = false := Blk.frozen HM2.out 22
  obtain ⟨A, cap, rfl, hc, hmx⟩ := own_len hv
  clear hs hb hv hc hmx hw hAl
  go_wp2_with fail
  go_end0
  exact ⟨rfl, TakeR.end_ (m' := { m with data := (rawO (getO 4 st).2 (getO 4 st).1).1 }) HS2.out.1 HM2.out ⟨HOL2.out.n, HOL2.out.q, HV.out⟩ HS2.out.2 (MBlk.set_ HM2.out _ _ (set_data ..)) (set_off ..)⟩
theorem take_qid {w : World} {p q base : Nat} {m : Mg} {bv vn vq vd : Value} {l : List UInt8} {st : Option (List UInt8)} (hm : MBlk w q m vn vq vd) (ho : OL w base m vn vq vd) (h : RdS w p bv l st) :
    Calls Tryz.prog 172 #[.pointer (some ⟨p, 0, none⟩), .pointer (some ⟨q, 0, none⟩)] w fun e w' => e = .returned (.tuple #[]) ∧ TakeR p q base bv l (takeF m st .qid).1 (takeF m st .qid).2 w w' := by
  have HP := Lib.hid (takeQid_calls h)
  have HNE := Lib.hid (h.ne hm (by decide))
  have HM := Lib.hid hm
  have HOL := Lib.hid (And.intro ho h)
  clear hm ho h
  go_enter Tryz.func172, Tryz.ntmps172
  go_wp2_with fail
  refine HP.out.mono ?_
  rintro e w1 ⟨rfl, hs, hb⟩
  have HM1 := Lib.hid (hb.blk HM.out (fun h => HNE.out h.symm))
  have HOL1 := Lib.hid (HOL.out.1.rd HOL.out.2 hb)
  have HS := Lib.hid (And.intro hs hb)
  have k0 : w1.cell? ⟨q, 13, none⟩ = some (.int .u8 (m.qid.kind : Int)) := Blk.cell HM1.out 13
  have k1 : w1.cell? ⟨q, 14, none⟩ = some (.int .u32 (m.qid.vers : Int)) := Blk.cell HM1.out 14
  have k2 : w1.cell? ⟨q, 15, none⟩ = some (.int .u64 (m.qid.path : Int)) := Blk.cell HM1.out 15
  have z0 : w1.frozen? ⟨q, 13, none⟩ = false := Blk.frozen HM1.out 13
  have z1 : w1.frozen? ⟨q, 14, none⟩ = false := Blk.frozen HM1.out 14
  have z2 : w1.frozen? ⟨q, 15, none⟩ = false := Blk.frozen HM1.out 15
  clear hs hb
  go_wp2_with fail
  go_end0
  refine ⟨rfl, TakeR.end_ HS.out.1 HM1.out (m' := { m with qid := (qidO st).1 }) ⟨HOL1.out.n, HOL1.out.q, HOL1.out.d⟩ HS.out.2 ?_ (((set_off w1 q 13 _).trans (set_off _ q 14 _)).trans (set_off _ q 15 _))⟩
  have h := ((Blk.set_ HM1.out 13 (.int .u8 ((qidO st).1.kind : Int))).set_ 14 (.int .u32 ((qidO st).1.vers : Int))).set_ 15 (.int .u64 ((qidO st).1.path : Int))
  rw [set_qid] at h
  exact h
set_option maxRecDepth 100000 in
theorem take_names {w : World} {p q base : Nat} {m : Mg} {bv vn vq vd : Value} {l : List UInt8} {st : Option (List UInt8)} (hr : Ready w) (h8 : 8 ≤ p) (hm : MBlk w q m vn vq vd) (ho : OL w base m vn vq vd) (hbase : base ≤ w.heap.size) (h : RdS w p bv l st) :
    Calls Tryz.prog 212 #[.pointer (some ⟨p, 0, none⟩), .pointer (some ⟨q, 0, none⟩)] w fun e w' => e = .returned (.tuple #[]) ∧ TakeR p q base bv l (takeF m st .names).1 (takeF m st .names).2 w w' := by
  have hmf : ∀ (fn : Fn) (first cap : Array Value) (w : World), (Instr.makeFunc fn first cap).run Tryz.prog w = .ok (.func fn first cap) w := fun _ _ _ _ => rfl
  have HP := Lib.hid (takeListS_calls hr h8 h)
  have HNE := Lib.hid (h.ne hm (by decide))
  have HM := Lib.hid hm
  have HOL := Lib.hid (And.intro ho h)
  have HBA := Lib.hid hbase
  clear hm ho h hbase hr h8
  go_enter Tryz.func212, Tryz.ntmps212
  go_wp2_with fail
  refine HP.out.mono ?_
  rintro e w2 ⟨⟨v, rfl, hv⟩, hs, hb⟩
  have HM2 := Lib.hid (hb.blk HM.out (fun h => HNE.out h.symm))
  have HOL2 := Lib.hid (HOL.out.1.rd HOL.out.2 hb)
  have HV := Lib.hid (own_down hv HBA.out)
  have HS2 := Lib.hid (And.intro hs hb)
  have k0 : w2.cell? ⟨q, 11, none⟩ = some vn := Blk.cell HM2.out 11
  have z0 : w2.frozen? ⟨q, 11, none⟩ = false := Blk.frozen HM2.out 11
  obtain ⟨A, cap, rfl, hc, hmx⟩ := own_len hv
  clear hs hb hv hc hmx
  go_wp2_with fail
  go_end0
  exact ⟨rfl, TakeR.end_ (m' := { m with names := (listO textO st).1 }) HS2.out.1 HM2.out ⟨HV.out, HOL2.out.q, HOL2.out.d⟩ HS2.out.2 (MBlk.set_ HM2.out _ _ (set_names ..)) (set_off ..)⟩
set_option maxRecDepth 100000 in
theorem take_qids {w : World} {p q base : Nat} {m : Mg} {bv vn vq vd : Value} {l : List UInt8} {st : Option (List UInt8)} (hm : MBlk w q m vn vq vd) (ho : OL w base m vn vq vd) (hbase : base ≤ w.heap.size) (h : RdS w p bv l st) :
    Calls Tryz.prog 224 #[.pointer (some ⟨p, 0, none⟩), .pointer (some ⟨q, 0, none⟩)] w fun e w' => e = .returned (.tuple #[]) ∧ TakeR p q base bv l (takeF m st .qids).1 (takeF m st .qids).2 w w' := by
  have hmf : ∀ (fn : Fn) (first cap : Array Value) (w : World), (Instr.makeFunc fn first cap).run Tryz.prog w = .ok (.func fn first cap) w := fun _ _ _ _ => rfl
  have HNE := Lib.hid (h.ne hm (by decide))
  have hup : Below w.heap.size w (w.alloc (.cells #[.pointer (some ⟨p, 0, none⟩)] 72)) := (Below.refl _ _).alloc (Nat.le_refl _) _
  have HM := Lib.hid (Blk.below hm hup (Blk.lt hm))
  have HOL := Lib.hid (And.intro (ho.below hup) (h.below hup))
  have HBA := Lib.hid (Nat.le_trans hbase hup.size)
  have HO := Lib.hid (Off.of_below (S := fun i => i = p) hup)
  have HC := Lib.hid (Blk.new w 72 #[.pointer (some ⟨p, 0, none⟩)])
  clear hm ho h hbase hup
  go_enter Tryz.func224, Tryz.ntmps224
  go_upto_region 1 with (fail)
  generalize w.alloc (.cells #[.pointer (some ⟨p, 0, none⟩)] 72) = w0 at HM HOL HBA HO HC ⊢
  generalize w.heap.size = c at HC ⊢
  have kc : w0.cell? ⟨c, 0, none⟩ = _ := HC.out.cell 0
  go_wp2_with fail
  refine (takeListQ_calls HC.out HOL.out.2).mono ?_
  rintro e w2 ⟨⟨v, rfl, hv⟩, hs, hb⟩
  have HM2 := Lib.hid (hb.blk HM.out (fun h => HNE.out h.symm))
  have HOL2 := Lib.hid (HOL.out.1.rd HOL.out.2 hb)
  have HV := Lib.hid (own_down hv HBA.out)
  have HS2 := Lib.hid (And.intro hs (HO.out.trans hb))
  have k0 : w2.cell? ⟨q, 12, none⟩ = some vq := Blk.cell HM2.out 12
  have z0 : w2.frozen? ⟨q, 12, none⟩ = false := Blk.frozen HM2.out 12
  obtain ⟨A, cap, rfl, hc, hmx⟩ := own_len hv
  clear hs hb hv hc hmx kc
  go_wp2_with fail
  go_end0
  exact ⟨rfl, TakeR.end_ (m' := { m with qids := (listO qidO st).1 }) HS2.out.1 HM2.out ⟨HOL2.out.n, HV.out, HOL2.out.d⟩ HS2.out.2 (MBlk.set_ HM2.out _ _ (set_qids ..)) (set_off ..)⟩
set_option maxRecDepth 100000 in
set_option maxHeartbeats 1600000 in
theorem take_stat {w : World} {p q base : Nat} {m : Mg} {bv vn vq vd : Value} {l : List UInt8} {st : Option (List UInt8)} (hr : Ready w) (h8 : 8 ≤ p) (hm : MBlk w q m vn vq vd) (ho : OL w base m vn vq vd) (h : RdS w p bv l st) :
    Calls Tryz.prog 236 #[.pointer (some ⟨p, 0, none⟩), .pointer (some ⟨q, 0, none⟩)] w fun e w' => e = .returned (.tuple #[]) ∧ TakeR p q base bv l (takeF m st .stat).1 (takeF m st .stat).2 w w' := by
  have HP := Lib.hid (takeStat_calls hr h8 h)
  have HNE := Lib.hid (h.ne hm (by decide))
  have HM := Lib.hid hm
  have HOL := Lib.hid (And.intro ho h)
  clear hm ho h hr h8
  go_enter Tryz.func236, Tryz.ntmps236
  go_wp2_with fail
  refine HP.out.mono ?_
  rintro e w1 ⟨rfl, hs, hb⟩
  have HM1 := Lib.hid (hb.blk HM.out (fun h => HNE.out h.symm))
  have HOL1 := Lib.hid (HOL.out.1.rd HOL.out.2 hb)
  have HS := Lib.hid (And.intro hs hb)
  clear hs hb
  go_wp2_with (refine wstK HM1.out 23 (stL (stO st).1) _ (over_stat ..) (Nat.le_refl 36) (stL_one _) rfl _ _ _ rfl rfl rfl stat_size ?_; intro w2 hs hoo; have HMX := Lib.hid hs; have HOX := Lib.hid (hoo (fun i => i = q) rfl w1 (Off.refl _ _)); clear hs hoo)
  go_end0
  exact ⟨rfl, TakeR.end_ HS.out.1 HM1.out (m' := { m with stat := (stO st).1 }) ⟨HOL1.out.n, HOL1.out.q, HOL1.out.d⟩ HS.out.2 HMX.out HOX.out⟩
/-- A field is taken. -/
theorem ftake_calls (f : Fld) {w : World} {p q base : Nat} {m : Mg} {bv vn vq vd : Value} {l : List UInt8} {st : Option (List UInt8)} {b : Nat} (hr : Ready w) (h8 : 8 ≤ p) (hm : MBlk w q m vn vq vd) (ho : OL w base m vn vq vd) (hbase : base ≤ w.heap.size) (hc : FCap w f b) (h : RdS w p bv l st) :
    Calls Tryz.prog f.kt (#[.pointer (some ⟨p, 0, none⟩), .pointer (some ⟨q, 0, none⟩)] ++ f.cap b) w fun e w' => e = .returned (.tuple #[]) ∧ TakeR p q base bv l (takeF m st f).1 (takeF m st f).2 w w' := by
  have hne := h.ne hm (by decide)
  cases f
  case msize =>
    refine (num322_calls (at_enters .msize rfl) (at_calls .msize rfl q) (hc.2 rfl rfl) (fun w' hb => ⟨Blk.cell (hb.blk hm (fun h => hne h.symm)) 2, Blk.frozen (hb.blk hm (fun h => hne h.symm)) 2⟩) h).mono ?_
    rintro e w' ⟨rfl, w1, hs, hb, rfl⟩
    have hm1 : MBlk w1 q m vn vq vd := hb.blk hm (fun h => hne h.symm)
    have ho1 := ho.rd h hb
    exact ⟨rfl, TakeR.end_ hs hm1 ⟨ho1.n, ho1.q, ho1.d⟩ hb (MBlk.set_ hm1 _ _ (set_msize ..)) (set_off ..)⟩
  case version =>
    refine (text3_calls hr h8 (at_enters .version rfl) (at_calls .version rfl q) (hc.1 rfl) (fun w' hb => ⟨Blk.cell (hb.blk hm (fun h => hne h.symm)) 3, Blk.frozen (hb.blk hm (fun h => hne h.symm)) 3⟩) h).mono ?_
    rintro e w' ⟨rfl, w1, hs, hb, rfl⟩
    have hm1 : MBlk w1 q m vn vq vd := hb.blk hm (fun h => hne h.symm)
    have ho1 := ho.rd h hb
    exact ⟨rfl, TakeR.end_ hs hm1 ⟨ho1.n, ho1.q, ho1.d⟩ hb (MBlk.set_ hm1 _ _ (set_version ..)) (set_off ..)⟩
  case afid =>
    refine (num322_calls (at_enters .afid rfl) (at_calls .afid rfl q) (hc.2 rfl rfl) (fun w' hb => ⟨Blk.cell (hb.blk hm (fun h => hne h.symm)) 4, Blk.frozen (hb.blk hm (fun h => hne h.symm)) 4⟩) h).mono ?_
    rintro e w' ⟨rfl, w1, hs, hb, rfl⟩
    have hm1 : MBlk w1 q m vn vq vd := hb.blk hm (fun h => hne h.symm)
    have ho1 := ho.rd h hb
    exact ⟨rfl, TakeR.end_ hs hm1 ⟨ho1.n, ho1.q, ho1.d⟩ hb (MBlk.set_ hm1 _ _ (set_afid ..)) (set_off ..)⟩
  case uname =>
    refine (text3_calls hr h8 (at_enters .uname rfl) (at_calls .uname rfl q) (hc.1 rfl) (fun w' hb => ⟨Blk.cell (hb.blk hm (fun h => hne h.symm)) 5, Blk.frozen (hb.blk hm (fun h => hne h.symm)) 5⟩) h).mono ?_
    rintro e w' ⟨rfl, w1, hs, hb, rfl⟩
    have hm1 : MBlk w1 q m vn vq vd := hb.blk hm (fun h => hne h.symm)
    have ho1 := ho.rd h hb
    exact ⟨rfl, TakeR.end_ hs hm1 ⟨ho1.n, ho1.q, ho1.d⟩ hb (MBlk.set_ hm1 _ _ (set_uname ..)) (set_off ..)⟩
  case aname =>
    refine (text3_calls hr h8 (at_enters .aname rfl) (at_calls .aname rfl q) (hc.1 rfl) (fun w' hb => ⟨Blk.cell (hb.blk hm (fun h => hne h.symm)) 6, Blk.frozen (hb.blk hm (fun h => hne h.symm)) 6⟩) h).mono ?_
    rintro e w' ⟨rfl, w1, hs, hb, rfl⟩
    have hm1 : MBlk w1 q m vn vq vd := hb.blk hm (fun h => hne h.symm)
    have ho1 := ho.rd h hb
    exact ⟨rfl, TakeR.end_ hs hm1 ⟨ho1.n, ho1.q, ho1.d⟩ hb (MBlk.set_ hm1 _ _ (set_aname ..)) (set_off ..)⟩
  case ename =>
    refine (text3_calls hr h8 (at_enters .ename rfl) (at_calls .ename rfl q) (hc.1 rfl) (fun w' hb => ⟨Blk.cell (hb.blk hm (fun h => hne h.symm)) 7, Blk.frozen (hb.blk hm (fun h => hne h.symm)) 7⟩) h).mono ?_
    rintro e w' ⟨rfl, w1, hs, hb, rfl⟩
    have hm1 : MBlk w1 q m vn vq vd := hb.blk hm (fun h => hne h.symm)
    have ho1 := ho.rd h hb
    exact ⟨rfl, TakeR.end_ hs hm1 ⟨ho1.n, ho1.q, ho1.d⟩ hb (MBlk.set_ hm1 _ _ (set_ename ..)) (set_off ..)⟩
  case oldtag => exact take_oldtag hm ho h
  case fid =>
    refine (num322_calls (at_enters .fid rfl) (at_calls .fid rfl q) (hc.2 rfl rfl) (fun w' hb => ⟨Blk.cell (hb.blk hm (fun h => hne h.symm)) 9, Blk.frozen (hb.blk hm (fun h => hne h.symm)) 9⟩) h).mono ?_
    rintro e w' ⟨rfl, w1, hs, hb, rfl⟩
    have hm1 : MBlk w1 q m vn vq vd := hb.blk hm (fun h => hne h.symm)
    have ho1 := ho.rd h hb
    exact ⟨rfl, TakeR.end_ hs hm1 ⟨ho1.n, ho1.q, ho1.d⟩ hb (MBlk.set_ hm1 _ _ (set_fid ..)) (set_off ..)⟩
  case newfid =>
    refine (num322_calls (at_enters .newfid rfl) (at_calls .newfid rfl q) (hc.2 rfl rfl) (fun w' hb => ⟨Blk.cell (hb.blk hm (fun h => hne h.symm)) 10, Blk.frozen (hb.blk hm (fun h => hne h.symm)) 10⟩) h).mono ?_
    rintro e w' ⟨rfl, w1, hs, hb, rfl⟩
    have hm1 : MBlk w1 q m vn vq vd := hb.blk hm (fun h => hne h.symm)
    have ho1 := ho.rd h hb
    exact ⟨rfl, TakeR.end_ hs hm1 ⟨ho1.n, ho1.q, ho1.d⟩ hb (MBlk.set_ hm1 _ _ (set_newfid ..)) (set_off ..)⟩
  case names => exact take_names hr h8 hm ho hbase h
  case qids => exact take_qids hm ho hbase h
  case qid => exact take_qid hm ho h
  case mode => exact take_mode hm ho h
  case iounit =>
    refine (num322_calls (at_enters .iounit rfl) (at_calls .iounit rfl q) (hc.2 rfl rfl) (fun w' hb => ⟨Blk.cell (hb.blk hm (fun h => hne h.symm)) 17, Blk.frozen (hb.blk hm (fun h => hne h.symm)) 17⟩) h).mono ?_
    rintro e w' ⟨rfl, w1, hs, hb, rfl⟩
    have hm1 : MBlk w1 q m vn vq vd := hb.blk hm (fun h => hne h.symm)
    have ho1 := ho.rd h hb
    exact ⟨rfl, TakeR.end_ hs hm1 ⟨ho1.n, ho1.q, ho1.d⟩ hb (MBlk.set_ hm1 _ _ (set_iounit ..)) (set_off ..)⟩
  case name =>
    refine (text3_calls hr h8 (at_enters .name rfl) (at_calls .name rfl q) (hc.1 rfl) (fun w' hb => ⟨Blk.cell (hb.blk hm (fun h => hne h.symm)) 18, Blk.frozen (hb.blk hm (fun h => hne h.symm)) 18⟩) h).mono ?_
    rintro e w' ⟨rfl, w1, hs, hb, rfl⟩
    have hm1 : MBlk w1 q m vn vq vd := hb.blk hm (fun h => hne h.symm)
    have ho1 := ho.rd h hb
    exact ⟨rfl, TakeR.end_ hs hm1 ⟨ho1.n, ho1.q, ho1.d⟩ hb (MBlk.set_ hm1 _ _ (set_name ..)) (set_off ..)⟩
  case perm =>
    refine (num322_calls (at_enters .perm rfl) (at_calls .perm rfl q) (hc.2 rfl rfl) (fun w' hb => ⟨Blk.cell (hb.blk hm (fun h => hne h.symm)) 19, Blk.frozen (hb.blk hm (fun h => hne h.symm)) 19⟩) h).mono ?_
    rintro e w' ⟨rfl, w1, hs, hb, rfl⟩
    have hm1 : MBlk w1 q m vn vq vd := hb.blk hm (fun h => hne h.symm)
    have ho1 := ho.rd h hb
    exact ⟨rfl, TakeR.end_ hs hm1 ⟨ho1.n, ho1.q, ho1.d⟩ hb (MBlk.set_ hm1 _ _ (set_perm ..)) (set_off ..)⟩
  case offset => exact take_offset hm ho h
  case count =>
    refine (num322_calls (at_enters .count rfl) (at_calls .count rfl q) (hc.2 rfl rfl) (fun w' hb => ⟨Blk.cell (hb.blk hm (fun h => hne h.symm)) 21, Blk.frozen (hb.blk hm (fun h => hne h.symm)) 21⟩) h).mono ?_
    rintro e w' ⟨rfl, w1, hs, hb, rfl⟩
    have hm1 : MBlk w1 q m vn vq vd := hb.blk hm (fun h => hne h.symm)
    have ho1 := ho.rd h hb
    exact ⟨rfl, TakeR.end_ hs hm1 ⟨ho1.n, ho1.q, ho1.d⟩ hb (MBlk.set_ hm1 _ _ (set_count ..)) (set_off ..)⟩
  case data => exact take_data hm ho hbase h
  case stat => exact take_stat hr h8 hm ho h
end Go.Proofs.YtkblmloobkiloaaGreatDoor
namespace Go.Proofs.YtkblmloobkiloaaGreatDoor
open Go.RowKit

/-- A slice that holds these fields, in blocks from lo up to hi. -/
def FldsIn (w : World) (lo hi : Nat) (v : Value) (fs : List Fld) : Prop := ∃ A c, v = .slice A fs.length c ∧ fs.length ≤ c ∧ c ≤ maxLen ∧ ∀ k f, fs[k]? = some f → ∃ ad, A = some ad ∧ lo ≤ ad.block ∧ ad.block < hi ∧ w.cell? (ad.add k) = some (.int .u8 (f.ix : Int))
theorem add_blk (a : Addr) (k : Nat) : (a.add k).block = a.block := by
  unfold Addr.add
  split <;> rfl
theorem FldsIn.keep {w w' : World} {lo hi : Nat} {v : Value} {fs : List Fld} (h : FldsIn w lo hi v fs) (hk : ∀ i, lo ≤ i → i < hi → w'.heap[i]? = w.heap[i]?) : FldsIn w' lo hi v fs := by
  obtain ⟨A, c, e, h1, h2, h3⟩ := h
  refine ⟨A, c, e, h1, h2, fun k f hf => ?_⟩
  obtain ⟨ad, rfl, hl, hh, hc⟩ := h3 k f hf
  refine ⟨ad, rfl, hl, hh, ?_⟩
  rw [← hc]
  exact World.cell?_of_block (hk _ (by rw [add_blk]; exact hl) (by rw [add_blk]; exact hh))
theorem FldsIn.at_ {w : World} {lo hi n c : Nat} {A : Option Addr} {fs : List Fld} (h : FldsIn w lo hi (.slice A n c) fs) {k : Nat} {f : Fld} (hf : fs[k]? = some f) : ∃ ad, A = some ad ∧ w.cell? (ad.add k) = some (.int .u8 (f.ix : Int)) := by
  obtain ⟨A', c', e, -, -, h3⟩ := h
  injection e with e1 e2 e3
  subst e1
  obtain ⟨ad, h1, -, -, h4⟩ := h3 k f hf
  exact ⟨ad, h1, h4⟩
theorem fieldsV_in (r n : Nat) (hr : r < 27) : fieldsV n r = .slice none 0 0 ∨ ∃ j c, fieldsV n r = .slice (some ⟨n + j, 0, none⟩) c c := by
  match r, hr with
  | 0, _ => exact .inr ⟨0, _, rfl⟩
  | 1, _ => exact .inr ⟨1, _, rfl⟩
  | 2, _ => exact .inr ⟨2, _, rfl⟩
  | 3, _ => exact .inr ⟨3, _, rfl⟩
  | 4, _ => exact .inr ⟨4, _, rfl⟩
  | 5, _ => exact .inr ⟨5, _, rfl⟩
  | 6, _ => exact .inr ⟨6, _, rfl⟩
  | 7, _ => exact .inr ⟨7, _, rfl⟩
  | 8, _ => exact .inl rfl
  | 9, _ => exact .inr ⟨8, _, rfl⟩
  | 10, _ => exact .inr ⟨9, _, rfl⟩
  | 11, _ => exact .inr ⟨10, _, rfl⟩
  | 12, _ => exact .inr ⟨11, _, rfl⟩
  | 13, _ => exact .inr ⟨12, _, rfl⟩
  | 14, _ => exact .inr ⟨13, _, rfl⟩
  | 15, _ => exact .inr ⟨14, _, rfl⟩
  | 16, _ => exact .inr ⟨15, _, rfl⟩
  | 17, _ => exact .inr ⟨16, _, rfl⟩
  | 18, _ => exact .inr ⟨17, _, rfl⟩
  | 19, _ => exact .inr ⟨18, _, rfl⟩
  | 20, _ => exact .inl rfl
  | 21, _ => exact .inr ⟨19, _, rfl⟩
  | 22, _ => exact .inl rfl
  | 23, _ => exact .inr ⟨20, _, rfl⟩
  | 24, _ => exact .inr ⟨21, _, rfl⟩
  | 25, _ => exact .inr ⟨22, _, rfl⟩
  | 26, _ => exact .inl rfl
  | r + 27, h => exact absurd h (by omega)
theorem FldsIn.of {w : World} {lo B : Nat} {v : Value} {fs : List Fld} (h : FldsAt w B v fs) (hv : v = .slice none 0 0 ∨ ∃ j c, v = .slice (some ⟨lo + j, 0, none⟩) c c) : FldsIn w lo B v fs := by
  have h0 := h
  obtain ⟨A, c, rfl, h1, h2, -⟩ := h
  refine ⟨A, c, rfl, h1, h2, fun k f hf => ?_⟩
  obtain ⟨ad, rfl, hb, hc⟩ := h0.at_ hf
  rcases hv with hv | ⟨j, c', hv⟩
  · cases hv
  · injection hv with hv
    injection hv with hv
    subst hv
    exact ⟨_, rfl, Nat.le_add_right _ _, hb, hc⟩
/-- What rowOf gives, with where the fields lie. -/
def RowS (k : Nat) (w : World) (e : Ending) (w' : World) : Prop := match kindF k with
  | some fs => ∃ v, e = .returned (.tuple #[.agg #[.int .u8 (k : Int), .string (ofL (kindN k)), v], .bool true]) ∧ FldsIn w' w.heap.size w'.heap.size v fs
  | none => e = .returned (.tuple #[.agg #[.int .u8 0, .string ⟨#[]⟩, .slice none 0 0], .bool false])
theorem FldsIn.wide {w : World} {lo lo' hi hi' : Nat} {v : Value} {fs : List Fld} (h : FldsIn w lo hi v fs) (h1 : lo' ≤ lo) (h2 : hi ≤ hi') : FldsIn w lo' hi' v fs := by
  obtain ⟨A, c, e, h3, h4, h5⟩ := h
  refine ⟨A, c, e, h3, h4, fun k f hf => ?_⟩
  obtain ⟨ad, rfl, hl, hh, hc⟩ := h5 k f hf
  exact ⟨ad, rfl, Nat.le_trans h1 hl, Nat.lt_of_lt_of_le hh h2, hc⟩
theorem rowOf_in (k : Nat) (w : World) : Calls Tryz.prog 43 #[.int .u8 (k : Int)] w fun e w' => Below w.heap.size w w' ∧ RowS k w e w' := by
  refine (rowOf_calls (k : Int) w).mono ?_
  rintro e w' ⟨hb, n, hn1, hn2, hk, ⟨hi, rfl⟩ | ⟨hi, rfl⟩⟩
  · refine ⟨hb, ?_⟩
    obtain ⟨fs, h1, h2, h3⟩ := tab_row _ hi
    rw [rowIx_at _ hi] at h1 h2
    unfold RowS
    rw [show ((k : Int)).toNat = k from rfl] at h1 h2
    rw [h1]
    exact ⟨_, by rw [rowIx_at _ hi, h2], (FldsIn.of ((h3 w' n hk).more hn2) (fieldsV_in _ n hi)).wide hn1 (Nat.le_refl _)⟩
  · refine ⟨hb, ?_⟩
    unfold RowS
    cases hf : kindF k with
    | none => rfl
    | some fs =>
      obtain ⟨-, -, h1, h2⟩ := kindF_well hf
      have := kindF_ix (k - 100) (by omega) (by rw [show 100 + (k - 100) = k by omega, hf]; simp)
      rw [show 100 + (k - 100) = k by omega, hi] at this
      exact absurd this (by decide)
/-- The cells of a message whose lists are empty. -/
abbrev mgN (m : Mg) : List Value := msgL m (.slice none 0 0) (.slice none 0 0) (.slice none 0 0)
theorem over_msg (m : Mg) (k t : Nat) (vn vq vd : Value) : over (mgN (head k t)).toArray 0 (msgL m vn vq vd) = (msgL m vn vq vd).toArray := by kernel_rfl
theorem msg_one (m : Mg) {vn vq vd : Value} (h1 : vn.oneCell' = true) (h2 : vq.oneCell' = true) (h3 : vd.oneCell' = true) : (msgL m vn vq vd).toArray.all (·.oneCell') = true := by
  simp only [List.all_toArray, List.all_cons, h1, h2, h3]
  rfl
theorem OL.nil_ (w : World) (base : Nat) (k t : Nat) : OL w base (head k t) (.slice none 0 0) (.slice none 0 0) (.slice none 0 0) := ⟨own_nil _ _ _ _, own_nil _ _ _ _, own_nil _ _ _ _⟩
theorem own_one {w : World} {base n size : Nat} {e : TypeId} {v : Value} {xs : List Value} (h : w.ownsRow base e size v n xs) : v.oneCell' = true := by
  obtain ⟨A, c, rfl, -⟩ := own_len h
  rfl
/-- What Decode gives: the message, its lists its owner's, and the error. -/
def DecR (r : Mg × Nat) (w : World) (e : Ending) (w' : World) : Prop :=
  (∃ vn vq vd, e = .returned (.tuple #[msgV r.1 vn vq vd, .int .i64 (r.2 : Int)]) ∧ OL w' w.heap.size r.1 vn vq vd) ∧ Below w.heap.size w w'
theorem results_msg2 {fn : Func} {tmps : Array Value} {w : World} {q i j : Nat} {m : Mg} {vn vq vd : Value} {er : Int} (hr : fn.results = #[.cell i 41, .tmp j]) (h2 : tmps.getD i undef = .pointer (some ⟨q, 0, none⟩)) (h3 : tmps.getD j undef = .int .i64 er) (hk : MBlk w q m vn vq vd) :
    (results fn tmps).run Tryz.prog w = .ok (.tuple #[msgV m vn vq vd, .int .i64 er]) w := by
  have h2' : tmps[i]?.getD undef = .pointer (some ⟨q, 0, none⟩) := by simpa using h2
  have h3' : tmps[j]?.getD undef = .int .i64 er := by simpa using h3
  have hl7 : (loadVar 41 ⟨q, 0, none⟩).run Tryz.prog w = .ok (msgV m vn vq vd) w :=
    run_loadVar_mid w q 0 41 (msgL m vn vq vd) _ (Blk.range hk 0 _ (by simp)) Tryz.underlying41 rfl msg_size
  simp [results, hr, h2', h3', asAddr, hl7]
theorem take_num (x : List UInt8) (n k : Nat) (h : n + k ≤ x.length) : getO k (some (x.drop n)) = (numL ((x.drop n).take k), some (x.drop (n + k))) := by
  rw [getO_some (by rw [List.length_drop]; omega), List.drop_drop]
set_option maxRecDepth 100000 in
set_option maxHeartbeats 6400000 in
theorem decode_calls (hv : Value) (x : List UInt8) (w : World) (hx : Bys w w.heap.size hv x) (hr : Ready w) (hbig : x.length ≤ 16777216) :
    Calls Tryz.prog 13 #[hv] w (DecR (dec x) w) := by
  have hup : Below w.heap.size w (w.alloc (.cells (mgN (head 0 0)).toArray 41)) := (Below.refl _ _).alloc (Nat.le_refl _) _
  have HZ := Lib.hid (show MBlk (w.alloc (.cells (mgN (head 0 0)).toArray 41)) w.heap.size (head 0 0) (.slice none 0 0) (.slice none 0 0) (.slice none 0 0) from Blk.new w _ _)
  have HB := Lib.hid hup
  have hsz : (w.alloc (.cells (mgN (head 0 0)).toArray 41)).heap.size = w.heap.size + 1 := World.size_alloc _ _
  have HX := Lib.hid ((hx.below hup).more (show w.heap.size ≤ (w.alloc (.cells (mgN (head 0 0)).toArray 41)).heap.size from by omega))
  have HRD := Lib.hid (hr.below hup (Nat.le_refl _))
  have H8 := Lib.hid hr.eight
  have HD := Lib.hid (dec_fin x)
  have HBIG := Lib.hid hbig
  obtain ⟨A, cap, rfl, hc, hm, -⟩ := hx
  clear hr hup hbig
  go_enter Tryz.func13, Tryz.ntmps13
  go_upto_region 1 with (fail)
  change Code.wp _ _ _ _ (w.alloc (.cells (mgN (head 0 0)).toArray 41))
  generalize w.alloc (.cells (mgN (head 0 0)).toArray 41) = w0 at HZ HB hsz HX HRD ⊢
  generalize hz : w.heap.size = z at HZ HB hsz H8 ⊢
  have HZZ := Lib.hid hz; clear hz
  by_cases hlen : x.length < 7 ∨ 65536 < x.length
  · have HE := Lib.hid (show dec x = (head 0 0, 31) from by rw [HD.out, if_pos hlen])
    have HL := Lib.hid hlen
    rcases hlen with hlen | hlen
    all_goals (
      go_wp2_with (refine wstK HZ.out 0 (mgN (head 0 0)) _ (over_msg ..) (Nat.le_refl 36) (msg_one _ rfl rfl rfl) rfl _ _ _ rfl rfl rfl msg_size ?_; intro wz hs ho; have HZF := Lib.hid hs; have HOF := Lib.hid (ho (fun i => z ≤ i) (Nat.le_refl _) w0 (Off.refl _ _)); clear hs ho)
      refine bodyPost_ret (results_msg2 (m := head 0 0) (er := 31) rfl rfl rfl HZF.out) rfl ?_
      rw [HE.out]
      have hz := HZZ.out
      exact ⟨⟨_, _, _, rfl, OL.nil_ ..⟩, by rw [hz]; exact HB.out.trans (HOF.out.below (fun i hi => hi) (by omega))⟩)
  · have h7 : 7 ≤ x.length := by omega
    have h6 : x.length ≤ 65536 := by omega
    go_wp2_with fail
    refine (newReader_calls _ x HX.out HBIG.out).mono ?_
    rintro e w1 ⟨p, bv, rfl, hp, hs, hb⟩
    have HS1 := Lib.hid hs
    have HP := Lib.hid (show z < p from by omega)
    have HZ1 := Lib.hid (Blk.below HZ.out hb (Blk.lt HZ.out))
    have HB1 := Lib.hid (HB.out.trans (hb.mono (by omega)))
    have HRD1 := Lib.hid (HRD.out.below hb (Nat.le_refl _))
    clear hs hb hp HZ HB HRD HX
    go_wp2_with fail
    refine (rdU32_calls HS1.out).mono ?_
    have e4 := take_num x 0 4 (by omega)
    rw [List.drop_zero, Nat.zero_add] at e4
    rw [e4]
    rintro e w2 ⟨rfl, hs, hb⟩
    have HS2 := Lib.hid hs
    have HZ2 := Lib.hid (hb.blk HZ1.out (by have := HP.out; omega))
    have HO2 := Lib.hid (show Off (fun i => z ≤ i) w1 w2 from hb.mono fun k _ hk => by have := HP.out; have hk : k = p := hk; omega)
    clear hs hb e4
    have hn4 : numL (x.take 4) < 4294967296 := Nat.lt_of_lt_of_le (numL_lt _) (show 256 ^ _ ≤ 256 ^ 4 from Nat.pow_le_pow_right (by decide) (by rw [List.length_take]; omega))
    have hw4 : wrap64 (numL (x.take 4) : Int) = (numL (x.take 4) : Int) := IntWalk.wrap64_in _ (by omega)
    by_cases hsame : numL (x.take 4) = x.length
    · have hne : ((numL (x.take 4) : Int) != (x.length : Int)) = false := by rw [hsame]; simp
      have HD2 := Lib.hid (HD.out.trans ((if_neg hlen).trans (if_neg (by omega))))
      clear HD
      go_wp2_with fail
      refine (rdU8_calls HS2.out).mono ?_
      rw [take_num x 4 1 (by omega)]
      rintro e w3 ⟨rfl, hs, hb⟩
      have HS3 := Lib.hid hs
      have HZ3 := Lib.hid (hb.blk HZ2.out (by have := HP.out; omega))
      have HO3 := Lib.hid (HO2.out.trans (hb.mono fun k _ hk => by have := HP.out; have hk : k = p := hk; omega))
      clear hs hb HS2 HZ2 HO2
      go_wp2_with fail
      refine (rdU16_calls HS3.out).mono ?_
      rw [take_num x 5 2 (by omega)]
      rintro e w4 ⟨rfl, hs, hb⟩
      have HS4 := Lib.hid hs
      have HZ4 := Lib.hid (hb.blk HZ3.out (by have := HP.out; omega))
      have HO4 := Lib.hid (HO3.out.trans (hb.mono fun k _ hk => by have := HP.out; have hk : k = p := hk; omega))
      clear hs hb HS3 HZ3 HO3
      have hkl : numL ((x.drop 4).take 1) < 256 := Nat.lt_of_lt_of_le (numL_lt _) (show 256 ^ _ ≤ 256 ^ 1 from Nat.pow_le_pow_right (by decide) (by rw [List.length_take]; omega))
      dsimp only at HS4 ⊢
      generalize numL ((x.drop 4).take 1) = kd at *
      generalize numL ((x.drop 5).take 2) = tg at *
      have H0 := Lib.hid (show z < w4.heap.size from by have := Blk.lt HZ4.out; omega)
      have HPL := Lib.hid (show p < w4.heap.size from HS4.out.lt)
      have HAL := Lib.hid (World.size_alloc w4 (.cells (mgN (head 0 0)).toArray 41))
      go_wp2_with (change wpList _ _ _ _ _ (w4.alloc (.cells (mgN (head 0 0)).toArray 41)); have HH5 := Lib.hid (show MBlk (w4.alloc (.cells (mgN (head 0 0)).toArray 41)) w4.heap.size (head 0 0) (.slice none 0 0) (.slice none 0 0) (.slice none 0 0) from Blk.new w4 _ _); have HS5 := Lib.hid (HS4.out.below ((Below.refl _ _).alloc (Nat.le_refl _) (.cells (mgN (head 0 0)).toArray 41))); have HZ5 := Lib.hid (Blk.alloc HZ4.out (.cells (mgN (head 0 0)).toArray 41)); have HO5 := Lib.hid (HO4.out.alloc (.cells (mgN (head 0 0)).toArray 41)); generalize w4.alloc (.cells (mgN (head 0 0)).toArray 41) = w5 at HH5 HS5 HZ5 HO5 HAL ⊢; generalize w4.heap.size = h at HH5 H0 HPL HAL ⊢; refine wstK HH5.out 0 (mgN (head kd tg)) _ (over_msg ..) (Nat.le_refl 36) (msg_one _ rfl rfl rfl) rfl _ _ _ rfl rfl rfl msg_size ?_; intro w6 hs ho; have HH6 := Lib.hid (show MBlk w6 h (head kd tg) (.slice none 0 0) (.slice none 0 0) (.slice none 0 0) from hs); have kh : w6.cell? ⟨h, 0, none⟩ = some (.int .u8 (kd : Int)) := Blk.cell hs 0; have HS6 := Lib.hid (HS5.out.off (ho (fun i => i = h) rfl w5 (Off.refl _ _)) (by have := HPL.out; omega) (blk_noU8 HH5.out (by decide))); have HZ6 := Lib.hid ((ho (fun i => i = h) rfl w5 (Off.refl _ _)).blk HZ5.out (by have := H0.out; omega)); have HO6 := Lib.hid (ho (fun i => z ≤ i) (by have := H0.out; omega) w1 HO5.out); have HHL := Lib.hid (show h < w6.heap.size from Blk.lt hs); clear hs ho HS4 HZ4 HO4 HH5 HS5 HZ5 HO5)
      refine (rowOf_in kd w6).mono ?_
      rintro e w7 ⟨hb, hrow⟩
      unfold RowS at hrow
      have HH7 := Lib.hid (Blk.below HH6.out hb (Blk.lt HH6.out))
      have HZ7 := Lib.hid (Blk.below HZ6.out hb (Blk.lt HZ6.out))
      have HS7 := Lib.hid (HS6.out.below hb)
      have HO7 := Lib.hid (HO6.out.trans (Off.of_below hb))
      have HSZ7 := Lib.hid hb.size
      clear hb kh HH6 HZ6 HS6 HO6
      cases hk : kindF kd with
      | none =>
        rw [hk] at hrow HD2
        subst hrow
        have HE := Lib.hid HD2.out
        clear HD2 hk
        have HH8 := Lib.hid (show MBlk (w7.alloc (.cells #[.int .u8 0, .string ⟨#[]⟩, .slice none 0 0] 79)) h (head kd tg) (.slice none 0 0) (.slice none 0 0) (.slice none 0 0) from Blk.alloc HH7.out _)
        have HZ8 := Lib.hid (show MBlk (w7.alloc (.cells #[.int .u8 0, .string ⟨#[]⟩, .slice none 0 0] 79)) z (head 0 0) (.slice none 0 0) (.slice none 0 0) (.slice none 0 0) from Blk.alloc HZ7.out _)
        have HO8 := Lib.hid (HO7.out.alloc (.cells #[.int .u8 0, .string ⟨#[]⟩, .slice none 0 0] 79))
        go_upto_region 8 with (fail)
        generalize w7.alloc (.cells #[.int .u8 0, .string ⟨#[]⟩, .slice none 0 0] 79) = w8 at HH8 HZ8 HO8 ⊢
        go_wp2_with (first | (refine wlw HH8.out 0 (mgN (head kd tg)) rfl rfl _ _ rfl rfl _ Tryz.underlying41 rfl msg_size ?_) | (refine wstK HZ8.out 0 (mgN (head kd tg)) _ (over_msg ..) (Nat.le_refl 36) (msg_one _ rfl rfl rfl) rfl _ _ _ rfl rfl rfl msg_size ?_; intro wz hs ho; have HZF := Lib.hid hs; have HOF := Lib.hid (ho (fun i => z ≤ i) (Nat.le_refl _) w1 HO8.out); clear hs ho))
        refine bodyPost_ret (results_msg2 (m := head kd tg) (er := 32) rfl rfl rfl HZF.out) rfl ?_
        rw [HE.out]
        have hz := HZZ.out
        exact ⟨⟨_, _, _, rfl, OL.nil_ ..⟩, by rw [hz]; exact HB1.out.trans (HOF.out.below (fun i hi => hi) (by have := Blk.lt HZ1.out; omega))⟩
      | some fs =>
        rw [hk] at hrow HD2
        obtain ⟨fvl, rfl, hfl⟩ := hrow
        have HK := Lib.hid hk
        have HF7 := Lib.hid hfl
        obtain ⟨fA, fc, rfl, hfc, hfm, -⟩ := hfl
        have hfl20 : fs.length ≤ 20 := by
          have hh := HK.out
          unfold kindF at hh
          split at hh <;> first | (obtain rfl := Option.some.inj hh; decide) | (exact absurd hh (by simp))
        clear hk
        have hup : Below w7.heap.size w7 (w7.alloc (.cells #[.int .u8 (kd : Int), .string (ofL (kindN kd)), .slice fA fs.length fc] 79)) := (Below.refl _ _).alloc (Nat.le_refl _) _
        have HR8 := Lib.hid (Blk.new w7 79 #[.int .u8 (kd : Int), .string (ofL (kindN kd)), .slice fA fs.length fc])
        have HH8 := Lib.hid (Blk.below HH7.out hup (Blk.lt HH7.out))
        have HZ8 := Lib.hid (Blk.below HZ7.out hup (Blk.lt HZ7.out))
        have HS8 := Lib.hid (HS7.out.below hup)
        have HO8 := Lib.hid (HO7.out.trans (Off.of_below hup))
        have HF8 := Lib.hid (HF7.out.keep fun i _ hi => hup.block i hi)
        have HSZ8 := Lib.hid (World.size_alloc w7 (.cells #[.int .u8 (kd : Int), .string (ofL (kindN kd)), .slice fA fs.length fc] 79))
        clear hup HH7 HZ7 HS7 HO7 HF7
        go_upto_region 8 with (fail)
        generalize w7.alloc (.cells #[.int .u8 (kd : Int), .string (ofL (kindN kd)), .slice fA fs.length fc] 79) = w8 at HR8 HH8 HZ8 HS8 HO8 HF8 HSZ8 ⊢
        generalize w7.heap.size = rb at HR8 HF8 HSZ7 HSZ8 ⊢
        have HRBL := Lib.hid (show h < rb ∧ rb < w8.heap.size from by have := HHL.out; have := HSZ7.out; have := HSZ8.out; omega)
        have HPRB := Lib.hid (show z < rb ∧ p < rb ∧ p < w6.heap.size from by have := HHL.out; have := HSZ7.out; have := HPL.out; have := H0.out; omega)
        go_upto_region 11 with (first | (refine wlw HH8.out 0 (mgN (head kd tg)) rfl rfl _ _ rfl rfl _ Tryz.underlying41 rfl msg_size ?_) | (change wpList _ _ _ _ _ (w8.alloc (.cells (mgN (head 0 0)).toArray 41)); have HG9 := Lib.hid (show MBlk (w8.alloc (.cells (mgN (head 0 0)).toArray 41)) w8.heap.size (head 0 0) (.slice none 0 0) (.slice none 0 0) (.slice none 0 0) from Blk.new w8 _ _); have HS9 := Lib.hid (HS8.out.below ((Below.refl _ _).alloc (Nat.le_refl _) (.cells (mgN (head 0 0)).toArray 41))); have HZ9 := Lib.hid (Blk.alloc HZ8.out (.cells (mgN (head 0 0)).toArray 41)); have HH9 := Lib.hid (Blk.alloc HH8.out (.cells (mgN (head 0 0)).toArray 41)); have HR9 := Lib.hid (Blk.alloc HR8.out (.cells (mgN (head 0 0)).toArray 41)); have HF9 := Lib.hid (HF8.out.keep fun i _ hi => Below.heap_alloc w8 (.cells (mgN (head 0 0)).toArray 41) i (by have := HRBL.out; omega)); have HO9 := Lib.hid (HO8.out.alloc (.cells (mgN (head 0 0)).toArray 41)); generalize w8.alloc (.cells (mgN (head 0 0)).toArray 41) = w9 at HG9 HS9 HZ9 HH9 HR9 HF9 HO9 ⊢; generalize w8.heap.size = g at HG9 HRBL ⊢; refine wstK HG9.out 0 (mgN (head kd tg)) _ (over_msg ..) (Nat.le_refl 36) (msg_one _ rfl rfl rfl) rfl _ _ _ rfl rfl rfl msg_size ?_; intro wa hs ho; have HGA := Lib.hid (show MBlk wa g (head kd tg) (.slice none 0 0) (.slice none 0 0) (.slice none 0 0) from hs); have HSA := Lib.hid (HS9.out.off (ho (fun i => i = g) rfl w9 (Off.refl _ _)) (by have := HRBL.out; have := HPRB.out; omega) (blk_noU8 HG9.out (by decide))); have HZA := Lib.hid ((ho (fun i => i = g) rfl w9 (Off.refl _ _)).blk HZ9.out (by have := HRBL.out; have := HPRB.out; omega)); have HHA := Lib.hid ((ho (fun i => i = g) rfl w9 (Off.refl _ _)).blk HH9.out (by have := HRBL.out; omega)); have HRA := Lib.hid ((ho (fun i => i = g) rfl w9 (Off.refl _ _)).blk HR9.out (by have := HRBL.out; omega)); have HFA := Lib.hid (HF9.out.keep fun i _ hi => (ho (fun i => i = g) rfl w9 (Off.refl _ _)).block i (by have := Blk.lt HR9.out; omega) (by have := HRBL.out; omega)); have HOA := Lib.hid (ho (fun i => z ≤ i) (by have := HRBL.out; have := HPRB.out; omega) w1 HO9.out); clear hs ho HS8 HZ8 HH8 HR8 HF8 HO8 HG9 HS9 HZ9 HH9 HR9 HF9 HO9))
        have k2 : wa.cell? ⟨rb, 2, none⟩ = some (.slice fA fs.length fc) := Blk.cell HRA.out 2
        have HZL := Lib.hid (Blk.lt HZA.out)
        go_upto_region 12 with (fail)
        clear k2
        have HNE := Lib.hid (show p ≠ g ∧ z ≠ p ∧ z ≠ g ∧ rb ≠ p ∧ rb ≠ g ∧ h ≠ g ∧ h ≠ p from by have := HRBL.out; have := HPRB.out; have := HP.out; have := HPL.out; have := H0.out; omega)
        go_loopw [10, 49] (fun _ i wr => ∃ k : Nat, k ≤ fs.length ∧ i = .int .i64 k ∧ TakeR p g z bv x (takeAll (fs.take k) (head kd tg) (some (x.drop 7))).1 (takeAll (fs.take k) (head kd tg) (some (x.drop 7))).2 wa wr) (fun _ i _ => fs.length - (intOf i).toNat)
        case atStart =>
          exact ⟨0, by omega, rfl, HSA.out, ⟨_, _, _, HGA.out, OL.nil_ ..⟩, Off.refl _ _⟩
        case round =>
          obtain ⟨k, hk, rfl, hs, ⟨vn, vq, vd, hmb, hol⟩, ho⟩ := hrel
          have HSR := Lib.hid hs
          have HMR := Lib.hid hmb
          have HOL := Lib.hid hol
          have HOR := Lib.hid ho
          clear hs hmb hol ho
          by_cases hlt : k < fs.length
          · obtain ⟨f, hf⟩ : ∃ f, fs[k]? = some f := ⟨fs[k], List.getElem?_eq_getElem _⟩
            obtain ⟨ad, rfl, kx⟩ := (HFA.out.keep fun i hlo hi => HOR.out.block i (by have := Blk.lt HRA.out; omega) (by have := HPRB.out; have := HRBL.out; omega)).at_ hf
            have HFF := Lib.hid (show takeAll (fs.take (k + 1)) (head kd tg) (some (x.drop 7)) = takeF (takeAll (fs.take k) (head kd tg) (some (x.drop 7))).1 (takeAll (fs.take k) (head kd tg) (some (x.drop 7))).2 f from by
              rw [List.take_add_one, hf, Option.toList_some, takeAll_snoc])
            generalize takeAll (fs.take k) (head kd tg) (some (x.drop 7)) = T at HSR HMR HOL HFF ⊢
            clear hf
            go_wp2_with fail
            refine (fieldOf_plain f wr).mono ?_
            rintro e w11 ⟨rfl, hb, hcap⟩
            have hent := kt_enters f
            have hfd := fun a b c d e f' g w => (fld_at a b c d e f' g w).2.2.2.1
            have HTK := Lib.hid (ftake_calls f (HRD1.out.low (show Below 8 w1 w11 from (HOA.out.below (fun i hi => by have := H8.out; omega) (by have := HRD1.out.eight; omega)).trans ((HOR.out.below (fun i hi => by have := HP.out; have := H8.out; have := HRBL.out; have := HPRB.out; omega) (by have := HZL.out; have := H8.out; omega)).trans (hb.mono (by have := HOR.out.size; have := HZL.out; have := H8.out; omega)))) (Nat.le_refl 8)) (by have := HP.out; have := H8.out; omega) (Blk.below HMR.out hb (Blk.lt HMR.out)) (HOL.out.below hb) (by have := HOR.out.size; have := HZL.out; have := hb.size; omega) hcap (HSR.out.below hb))
            have HO11 := Lib.hid (HOR.out.trans (Off.of_below hb))
            clear hb hcap kx HSR HMR HOL
            go_wp2_with fail
            refine HTK.out.mono ?_
            rintro e w12 ⟨rfl, hs, hmm, ho⟩
            have HS12 := Lib.hid hs
            have HM12 := Lib.hid hmm
            have HO12 := Lib.hid (HO11.out.trans ho)
            clear hs hmm ho hent hfd
            go_wp2_with fail
            go_roundw
            case rel =>
              refine ⟨k + 1, by omega, by go_num, ?_, ?_, HO12.out⟩
              · rw [HFF.out]
                exact HS12.out
              · rw [HFF.out]
                exact HM12.out
            case measure => simp [intOf]; omega
          · have hkl : k = fs.length := by omega
            subst hkl
            rw [List.take_length] at HSR HMR HOL
            generalize takeAll fs (head kd tg) (some (x.drop 7)) = T at HSR HMR HOL HD2
            have HHR := Lib.hid (HOR.out.blk HHA.out (by have := HNE.out; omega))
            have HZR := Lib.hid (HOR.out.blk HZA.out (by have := HNE.out; omega))
            have HOZ := Lib.hid (HOA.out.trans (HOR.out.mono fun i _ hi => by have := HP.out; have := HRBL.out; have := HPRB.out; omega))
            clear HHA HZA HRA HFA HOR HOA
            go_wp2_with fail
            refine (end_calls HSR.out).mono ?_
            rintro e w12 ⟨rfl, hs, hb⟩
            have HS12 := Lib.hid hs
            have HM12 := Lib.hid (hb.blk HMR.out (by have := HNE.out; omega))
            have HL12 := Lib.hid (HOL.out.rd HSR.out hb)
            have HH12 := Lib.hid (hb.blk HHR.out (by have := HNE.out; omega))
            have HZ12 := Lib.hid (hb.blk HZR.out (by have := HNE.out; omega))
            have HO12 := Lib.hid (HOZ.out.trans (hb.mono fun i _ hi => by have := HP.out; have hi : i = p := hi; omega))
            clear hs hb HSR HMR HOL HHR HZR HOZ
            go_wp2_with fail
            refine (err_calls HS12.out).mono ?_
            rintro e w13 ⟨⟨er, wh, rfl, he⟩, hs, hb⟩
            have HM13 := Lib.hid (Blk.below HM12.out hb (Blk.lt HM12.out))
            have HL13 := Lib.hid (HL12.out.below hb)
            have HH13 := Lib.hid (Blk.below HH12.out hb (Blk.lt HH12.out))
            have HZ13 := Lib.hid (Blk.below HZ12.out hb (Blk.lt HZ12.out))
            have HO13 := Lib.hid (HO12.out.trans (Off.of_below hb))
            clear hs hb HS12 HM12 HL12 HH12 HZ12 HO12
            unfold finO at HD2
            cases hE : endO T.2 with
            | none =>
              rw [hE] at he HD2
              have hne0 : er ≠ 0 := fun h0 => by have h1 := he.1 h0; cases h1
              have hne : ((er : Int) != 0) = true := by rw [bne_iff_ne]; omega
              clear he hE hne0
              go_wp2_with (first | (refine wlw HH13.out 0 (mgN (head kd tg)) rfl rfl _ _ rfl rfl _ Tryz.underlying41 rfl msg_size ?_) | (refine wstK HZ13.out 0 (mgN (head kd tg)) _ (over_msg ..) (Nat.le_refl 36) (msg_one _ rfl rfl rfl) rfl _ _ _ rfl rfl rfl msg_size ?_; intro wz hs ho; have HZF := Lib.hid hs; have HOF := Lib.hid (ho (fun i => z ≤ i) (Nat.le_refl _) w1 HO13.out); clear hs ho))
              refine bodyPost_ret (results_msg2 (m := head kd tg) (er := 33) rfl rfl rfl HZF.out) rfl ?_
              rw [HD2.out]
              have hz := HZZ.out
              exact ⟨⟨_, _, _, rfl, OL.nil_ ..⟩, by rw [hz]; exact HB1.out.trans (HOF.out.below (fun i hi => hi) (by have := Blk.lt HZ1.out; omega))⟩
            | some y =>
              rw [hE] at he HD2
              have hne : ((er : Int) != 0) = false := by rw [he.2 rfl]; rfl
              have HON := Lib.hid (And.intro (own_one HL13.out.n) (And.intro (own_one HL13.out.q) (own_one HL13.out.d)))
              clear he hE
              go_wp2_with (first | (refine wlw HM13.out 0 (msgL T.1 vn vq vd) rfl rfl _ _ rfl rfl _ Tryz.underlying41 rfl msg_size ?_) | (refine wstK HZ13.out 0 (msgL T.1 vn vq vd) _ (over_msg ..) (Nat.le_refl 36) (msg_one _ HON.out.1 HON.out.2.1 HON.out.2.2) rfl _ _ _ rfl rfl rfl msg_size ?_; intro wz hs ho; have HZF := Lib.hid hs; have HOF := Lib.hid (ho (fun i => z ≤ i) (Nat.le_refl _) w1 HO13.out); have HLF := Lib.hid (HL13.out.mblk HZ13.out (ho (fun i => i = z) rfl w13 (Off.refl _ _))); clear hs ho))
              refine bodyPost_ret (results_msg2 (m := T.1) (er := 0) rfl rfl rfl HZF.out) rfl ?_
              rw [HD2.out]
              have hz := HZZ.out
              exact ⟨⟨_, _, _, rfl, by rw [hz]; exact HLF.out⟩, by rw [hz]; exact HB1.out.trans (HOF.out.below (fun i hi => hi) (by have := Blk.lt HZ1.out; omega))⟩
    · have hne : ((numL (x.take 4) : Int) != (x.length : Int)) = true := by rw [bne_iff_ne]; omega
      have HE := Lib.hid (show dec x = (head 0 0, 31) from by rw [HD.out, if_neg hlen, if_pos hsame])
      clear HD
      go_wp2_with (refine wstK HZ2.out 0 (mgN (head 0 0)) _ (over_msg ..) (Nat.le_refl 36) (msg_one _ rfl rfl rfl) rfl _ _ _ rfl rfl rfl msg_size ?_; intro wz hs ho; have HZF := Lib.hid hs; have HOF := Lib.hid (ho (fun i => z ≤ i) (Nat.le_refl _) w1 HO2.out); clear hs ho)
      refine bodyPost_ret (results_msg2 (m := head 0 0) (er := 31) rfl rfl rfl HZF.out) rfl ?_
      rw [HE.out]
      have hz := HZZ.out
      exact ⟨⟨_, _, _, rfl, OL.nil_ ..⟩, by rw [hz]; exact HB1.out.trans (HOF.out.below (fun i hi => hi) (by have := Blk.lt HZ1.out; omega))⟩
end Go.Proofs.YtkblmloobkiloaaGreatDoor
