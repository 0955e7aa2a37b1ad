/-
  MR6 MRL MR7: what the laws of package msg need of them.
-/
import Derived.Test.YtkblmloobkiloaaGreatDoorQ12
import Derived.Deep.Light
import Derived.Deep.RegionHeld3
import Derived.Test.YtkblmloobkiloaaGreatDoorQ03
import Derived.Test.YtkblmloobkiloaaGreatDoorQ07
import Derived.BigRegion
namespace Go.Proofs.YtkblmloobkiloaaGreatDoor
open Go.RowKit

set_option maxHeartbeats 1600000 in
theorem newReader_calls {w : World} (hv : Value) (x : List UInt8) (hx : Bys w w.heap.size hv x) (hl : x.length ≤ 16777216) :
    Calls Tryz.prog 39 #[hv] w fun e w' => ∃ p bv, e = .returned (.pointer (some ⟨p, 0, none⟩)) ∧ w.heap.size ≤ p ∧ RdS w' p bv x (some x) ∧ Below w.heap.size w w' := by
  obtain ⟨A, cap, rfl, hc, hm, hr⟩ := hx
  have HR := Lib.hid hr; clear hr
  go_enter Tryz.func39, Tryz.ntmps39
  go_wp2_with (at_builtin; refine appU8 (.const (.slice none 0 0)) (.tmp 3) rfl rfl w.heap.size (.slice none 0 0) [] rfl (own_nil _ _ _ _) w.heap.size _ cap x rfl HR.out (by show 0 + x.length ≤ _; omega) (Nat.le_refl _) ?_; intro v2 w2 hown hgr hor; have HO := Lib.hid hown; have HB := Lib.hid ((Below.refl w.heap.size w).grown hgr (Nat.le_refl _) (fun k hk => by cases hk)); clear hown hgr hor; obtain ⟨A2, cap2, rfl, hc2, hm2⟩ := own_len HO.out)
  go_ret
  obtain ⟨W, hW⟩ : ∃ W, W = w2.alloc (Obj.cells #[Value.slice A2 x.length cap2, Value.int IntKind.i64 0, Value.int IntKind.i64 0, Value.int IntKind.i64 0, Value.int IntKind.i64 0] 129) := ⟨_, rfl⟩
  rw [← hW]
  have hb2 : Below w2.heap.size w2 W := by rw [hW]; exact (Below.refl _ _).alloc (Nat.le_refl _) _
  refine ⟨w2.heap.size, .slice A2 x.length cap2, rfl, HB.out.size, ⟨0, 0, ⟨⟨0, 0, by rw [hW]; exact Blk.new _ _ _⟩, ?_, Nat.zero_le _, hl⟩, rfl, rfl⟩, HB.out.trans (hb2.mono HB.out.size)⟩
  exact RBys.keep (w := w2) ⟨A2, cap2, rfl, by simpa using hc2, hm2, Row.of_own HO.out⟩ fun g cur fr hg => hb2.block g (heap_lt hg)
/-- append onto nothing, at a step of a region that draws its order. -/
theorem stepU8 {ops : Array Oper} {o : Oper} {a : Act} {w : World} {K : Act → World → Prop} {Q : Exit → Act → World → Prop} {E : Prop} (x : Operand) (hgd : o.guard = none)
    (ho : o.op = .call { callee := .builtin .append, args := #[.const (.slice none 0 0), x], argTypes := #[22, 22] })
    (B : Nat) (A : Option Addr) (c : Nat) (news : List UInt8) (hx : a.eval x = .slice A news.length c) (hr : Reads w B 1 A news.length (byteL news)) (hlen : news.length ≤ 16777216)
    (h : ∀ v' w', w'.ownsRow w.heap.size 5 1 v' news.length (byteL news) → Below w.heap.size w w' → K (a.put o.dst v') w') :
    if Region.wanted o (yielded ops a.tmps) = true then Oper.wp Tryz.prog o a w K Q else E := by
  obtain ⟨i0, hi0, hz0, hz1, hz2⟩ := info_parts u8_info
  refine step_append_any w hgd _ x _ ho w.heap.size 5 i0 _ 1 1 Tryz.underlying22 hi0 hz0 hz1 hz2 rfl (by omega) (.slice none 0 0) 0 [] rfl (own_nil _ _ _ _) B A news.length c (byteL news) hx hr (byteL_one news) (by unfold maxLen; omega) (by omega) (Nat.le_refl _) ?_
  intro v' w' h1 h2 _
  rw [Nat.zero_add, List.nil_append] at h1
  exact h v' w' h1 ((Below.refl _ _).grown h2 (Nat.le_refl _) (fun k hk => by cases hk))
theorem wpAnyH_takeD {P : Program} {ops : Array Oper} {Q : Exit → Act → World → Prop} {md : Region.Mode} {S : World → Prop} {i : Nat} {oi : Oper} {v : Value} {fuel : Nat} {listed : Array Bool} {a : Act} {w : World} (d : Nat) (hi : ops[i]? = some oi) (hd : oi.dst = some d)
    (hs : Region.noSelect ops = true) (hf : Region.free md ops listed i = true) (hr : (Region.ready md ops listed).contains i = true)
    (hQ : ∀ c a w, Q (.panic c) (a.put (some d) v) w → Q (.panic c) a w) (hy : YieldsIf P ops S oi v a) (hS : S w)
    (h : wpAnyH P md ops Q S fuel (listed.setIfInBounds i true) (a.put (some d) v) w) : wpAnyH P md ops Q S (fuel + 1) listed a w :=
  wpAnyH_take hi hs hf hr (by rw [hd]; exact hQ) hy hS (by rw [hd]; exact h)
theorem own_ge {w : World} {base n size : Nat} {e : TypeId} {v : Value} {xs : List Value} (h : w.ownsRow base e size v n xs) : ∀ k, v.ownBlock = some k → base ≤ k := by
  intro k hk
  rcases h.2 with ⟨rfl, -⟩ | ⟨g, cap, cur, rfl, hb, -⟩
  · cases hk
  · injection hk with hk
    exact hk ▸ hb
theorem own_down {w : World} {base base' n size : Nat} {e : TypeId} {v : Value} {xs : List Value} (h : w.ownsRow base e size v n xs) (hb : base' ≤ base) : w.ownsRow base' e size v n xs := by
  refine ⟨h.1, ?_⟩
  rcases h.2 with h0 | ⟨g, cap, cur, rfl, hg, r⟩
  · exact .inl h0
  · exact .inr ⟨g, cap, cur, rfl, Nat.le_trans hb hg, r⟩
/-- The value of a slice expression on a slice of one-celled elements: from k on, up to m. -/
abbrev subV (A : Option Addr) (k n m : Nat) : Value := .slice (if m = k then A else A.map (·.add k)) n (m - k)
theorem Addr.add_some (g o k : Nat) : (some (Addr.mk g o none)).map (·.add k) = some ⟨g, o + k, none⟩ := by
  show some _ = some _
  unfold Addr.add
  by_cases h0 : k = 0 <;> simp [h0]
theorem RBys.sub {w : World} {A : Option Addr} {c : Nat} {l : List UInt8} (k n m : Nat) (h : RBys w (.slice A l.length c) l) (hk : k + n ≤ l.length) (hm : k + n ≤ m) (hmc : m ≤ c) : RBys w (subV A k n m) ((l.drop k).take n) := by
  obtain ⟨A', c', e, h1, h2, h3⟩ := h
  injection e with e1 e2 e3
  subst e1 e3
  have hl : ((l.drop k).take n).length = n := by rw [List.length_take, List.length_drop]; omega
  refine ⟨if m = k then A else A.map (·.add k), m - k, (by rw [hl]), (by rw [hl]; omega), (by omega), (by rw [byteL_len, Nat.mul_one]), fun hn => ?_⟩
  rw [hl] at hn
  obtain ⟨g, o, cur, fr, rfl, hg, hc⟩ := h3.2 (by omega)
  rw [if_neg (by omega)]
  refine ⟨g, o + k, cur, fr, Addr.add_some g o k, hg, fun j u hj => ?_⟩
  have hj' : j < n := by
    have := (List.getElem?_eq_some_iff.1 hj).1
    rw [List.length_map, hl] at this
    exact this
  rw [Nat.add_assoc]
  refine hc (k + j) u ?_
  rw [List.getElem?_map] at hj ⊢
  rw [List.getElem?_take_of_lt hj', List.getElem?_drop] at hj
  exact hj
theorem RBys.reads {w : World} {A : Option Addr} {n c : Nat} {l : List UInt8} (h : RBys w (.slice A n c) l) : Reads w w.heap.size 1 A n (byteL l) := by
  obtain ⟨A', c', e, -, -, hr⟩ := h
  injection e with e1 e2 e3
  subst e1 e2 e3
  exact hr.reads
/-- Bytes are read. -/
def rawO (st : Option (List UInt8)) (n : Nat) : List UInt8 × Option (List UInt8) := match st with
  | none => ([], none)
  | some r => match getN n r with
    | none => ([], none)
    | some (x, r) => (x, some r)
theorem rawO_yes {r : List UInt8} {n : Nat} (h : n ≤ r.length) : rawO (some r) n = (r.take n, some (r.drop n)) := by
  unfold rawO getN
  dsimp only
  rw [if_pos h]
theorem rawO_no {st : Option (List UInt8)} {n : Nat} (h : ∀ r, st = some r → r.length < n) : rawO st n = ([], none) := by
  cases st with
  | none => rfl
  | some r =>
    unfold rawO getN
    dsimp only
    rw [if_neg (by have := h r rfl; omega)]
set_option maxRecDepth 100000 in
set_option maxHeartbeats 3200000 in
theorem rdRaw_calls {w : World} {p : Nat} {bv : Value} {l : List UInt8} {st : Option (List UInt8)} (n : Nat) (h : RdS w p bv l st) :
    Calls Tryz.prog 163 #[.pointer (some ⟨p, 0, none⟩), .int .i64 (n : Int)] w fun e w' => (∃ v, e = .returned v ∧ w'.ownsRow w.heap.size 5 1 v (rawO st n).1.length (byteL (rawO st n).1)) ∧ RdS w' p bv l (rawO st n).2 ∧ OffR p w w' := by
  have HC := Lib.hid (rhas_calls n h)
  clear h
  have hn0 : ¬ (n : Int) < 0 := by omega
  go_enter Tryz.func163, Tryz.ntmps163
  go_wp2_with fail
  refine HC.out.mono ?_
  rintro e w1 ⟨ho, hr⟩
  have HO := Lib.hid ho; clear ho HC
  rcases hr with ⟨r, rfl, hlen, rfl, hs⟩ | ⟨hlen, rfl, hs⟩
  · obtain ⟨at_, err, h, hs⟩ := hs
    obtain ⟨rfl, hdr⟩ := hs
    subst hdr
    have HA := Lib.hid h
    have hll := h.len
    have hle := h.le
    obtain ⟨⟨b0, wh, hb⟩, ⟨A, c, rfl, hc, hm, hrow⟩, -, -⟩ := h
    rw [List.length_drop] at hlen
    obtain ⟨X, hX⟩ : ∃ X, X = (l.drop at_).take n := ⟨_, rfl⟩
    have hXl : X.length = n := by rw [hX, List.length_take, List.length_drop]; omega
    have k0 : w1.cell? ⟨p, 0, none⟩ = some (.slice A l.length c) := hb.cell 0
    have k1 : w1.cell? ⟨p, 1, none⟩ = some (.int .i64 (at_ : Int)) := hb.cell 1
    clear hb
    have HP := Lib.hid HA.out.lt
    have hkn : at_ + n ≤ l.length := by omega
    have hnc : at_ + n ≤ c := by omega
    go_upto_region 5 with (fail)
    refine wp_region_held_drew (S := fun wx => Below w1.heap.size w1 wx) (by kernel_rfl) (below_drew w1) (fun hHeld => ?_)
    generalize w1.drew = wd at hHeld ⊢
    refine wpAnyH_takeD 14 (i := 0) (v := .pointer (some ⟨p, 0, none⟩)) rfl rfl (by kernel_rfl) (by kernel_rfl) (by kernel_rfl) (fun _ _ _ h => h) (Or.inl ⟨by rfl, fun wq hSw => by go_simp⟩) (by assumption) ?_
    simp only [Act.put, List.setIfInBounds_toArray, List.set_cons_zero, List.set_cons_succ]
    refine wpAnyH_takeD 15 (i := 1) (v := .pointer (some ⟨p, 0, none⟩)) rfl rfl (by kernel_rfl) (by kernel_rfl) (by kernel_rfl) (fun _ _ _ h => h) (Or.inl ⟨by rfl, fun wq hSw => by go_simp⟩) (by assumption) ?_
    simp only [Act.put, List.setIfInBounds_toArray, List.set_cons_zero, List.set_cons_succ]
    refine wpAnyH_takeD 16 (i := 2) (v := .pointer (some ⟨p, 0, none⟩)) rfl rfl (by kernel_rfl) (by kernel_rfl) (by kernel_rfl) (fun _ _ _ h => h) (Or.inl ⟨by rfl, fun wq hSw => by go_simp⟩) (by assumption) ?_
    simp only [Act.put, List.setIfInBounds_toArray, List.set_cons_zero, List.set_cons_succ]
    refine wpAnyH_takeD 17 (i := 3) (v := .slice A l.length c) rfl rfl (by kernel_rfl) (by kernel_rfl) (by kernel_rfl) (fun _ _ _ h => h) (Or.inl ⟨by rfl, fun wq hSw => by have k0 := (hSw.cell (p := ⟨p, 0, none⟩) HP.out).trans k0; go_simp⟩) (by assumption) ?_
    simp only [Act.put, List.setIfInBounds_toArray, List.set_cons_zero, List.set_cons_succ]
    refine wpAnyH_takeD 18 (i := 4) (v := .pointer (some ⟨p, 0, none⟩)) rfl rfl (by kernel_rfl) (by kernel_rfl) (by kernel_rfl) (fun _ _ _ h => h) (Or.inl ⟨by rfl, fun wq hSw => by go_simp⟩) (by assumption) ?_
    simp only [Act.put, List.setIfInBounds_toArray, List.set_cons_zero, List.set_cons_succ]
    refine wpAnyH_takeD 19 (i := 5) (v := .pointer (some ⟨p, 0, none⟩)) rfl rfl (by kernel_rfl) (by kernel_rfl) (by kernel_rfl) (fun _ _ _ h => h) (Or.inl ⟨by rfl, fun wq hSw => by go_simp⟩) (by assumption) ?_
    simp only [Act.put, List.setIfInBounds_toArray, List.set_cons_zero, List.set_cons_succ]
    refine wpAnyH_takeD 20 (i := 6) (v := .pointer (some ⟨p, 1, none⟩)) rfl rfl (by kernel_rfl) (by kernel_rfl) (by kernel_rfl) (fun _ _ _ h => h) (Or.inl ⟨by rfl, fun wq hSw => by go_simp⟩) (by assumption) ?_
    simp only [Act.put, List.setIfInBounds_toArray, List.set_cons_zero, List.set_cons_succ]
    refine wpAnyH_takeD 21 (i := 7) (v := .int .i64 (at_ : Int)) rfl rfl (by kernel_rfl) (by kernel_rfl) (by kernel_rfl) (fun _ _ _ h => h) (Or.inl ⟨by rfl, fun wq hSw => by have k1 := (hSw.cell (p := ⟨p, 1, none⟩) HP.out).trans k1; go_simp⟩) (by assumption) ?_
    simp only [Act.put, List.setIfInBounds_toArray, List.set_cons_zero, List.set_cons_succ]
    refine wpAnyH_takeD 22 (i := 8) (v := .pointer (some ⟨p, 0, none⟩)) rfl rfl (by kernel_rfl) (by kernel_rfl) (by kernel_rfl) (fun _ _ _ h => h) (Or.inl ⟨by rfl, fun wq hSw => by go_simp⟩) (by assumption) ?_
    simp only [Act.put, List.setIfInBounds_toArray, List.set_cons_zero, List.set_cons_succ]
    refine wpAnyH_takeD 23 (i := 9) (v := .pointer (some ⟨p, 0, none⟩)) rfl rfl (by kernel_rfl) (by kernel_rfl) (by kernel_rfl) (fun _ _ _ h => h) (Or.inl ⟨by rfl, fun wq hSw => by go_simp⟩) (by assumption) ?_
    simp only [Act.put, List.setIfInBounds_toArray, List.set_cons_zero, List.set_cons_succ]
    refine wpAnyH_takeD 24 (i := 10) (v := .pointer (some ⟨p, 1, none⟩)) rfl rfl (by kernel_rfl) (by kernel_rfl) (by kernel_rfl) (fun _ _ _ h => h) (Or.inl ⟨by rfl, fun wq hSw => by go_simp⟩) (by assumption) ?_
    simp only [Act.put, List.setIfInBounds_toArray, List.set_cons_zero, List.set_cons_succ]
    refine wpAnyH_takeD 25 (i := 11) (v := .int .i64 (at_ : Int)) rfl rfl (by kernel_rfl) (by kernel_rfl) (by kernel_rfl) (fun _ _ _ h => h) (Or.inl ⟨by rfl, fun wq hSw => by have k1 := (hSw.cell (p := ⟨p, 1, none⟩) HP.out).trans k1; go_simp⟩) (by assumption) ?_
    simp only [Act.put, List.setIfInBounds_toArray, List.set_cons_zero, List.set_cons_succ]
    refine wpAnyH_takeD 26 (i := 12) (v := .int .i64 (n : Int)) rfl rfl (by kernel_rfl) (by kernel_rfl) (by kernel_rfl) (fun _ _ _ h => h) (Or.inl ⟨by rfl, fun wq hSw => by go_simp⟩) (by assumption) ?_
    simp only [Act.put, List.setIfInBounds_toArray, List.set_cons_zero, List.set_cons_succ]
    refine wpAnyH_takeD 27 (i := 13) (v := .int .i64 ((at_ : Int) + (n : Int))) rfl rfl (by kernel_rfl) (by kernel_rfl) (by kernel_rfl) (fun _ _ _ h => h) (Or.inl ⟨by rfl, fun wq hSw => by go_simp <;> exact IntWalk.i64_in _ (by omega)⟩) (by assumption) ?_
    simp only [Act.put, List.setIfInBounds_toArray, List.set_cons_zero, List.set_cons_succ]
    refine wpAnyH_takeD 28 (i := 14) (v := subV A at_ n c) rfl rfl (by kernel_rfl) (by kernel_rfl) (by kernel_rfl) (fun _ _ _ h => h) (Or.inl ⟨by rfl, fun wq hSw => by go_simp; rw [if_pos (by omega), if_pos (by omega), show ((at_ : Int) + (n : Int)).toNat - at_ = n from by omega]⟩) (by assumption) ?_
    simp only [Act.put, List.setIfInBounds_toArray, List.set_cons_zero, List.set_cons_succ]
    refine wpAnyH_ready (rs := [15]) (by kernel_rfl) (by simp) ?_
    refine AllReadyH.cons rfl (fun K hK => ?_) AllReadyH.nil
    have hRD := (RBys.sub at_ n c (HA.out.below hHeld).row hkn hnc (Nat.le_refl _)).reads
    rw [← hX] at hRD
    rw [← hXl] at hRD
    refine stepU8 (.tmp 28) rfl rfl wd.heap.size _ (c - at_) X (by rw [hXl]; rfl) (by rw [hXl] at hRD ⊢; exact hRD) (by omega) ?_
    clear hRD
    intro v2 w2 hown hb
    have HB2 := Lib.hid (hHeld.trans (hb.mono hHeld.size))
    have HOWN := Lib.hid (own_down hown hHeld.size)
    clear hown
    refine hK.out _ _ HB2.out (fun hHeld2 => ?_)
    clear hK hHeld hHeld2 hb
    refine wpAnyH_takeD 5 (i := 16) (v := v2) rfl rfl (by kernel_rfl) (by kernel_rfl) (by kernel_rfl) (fun _ _ _ h => h) (Or.inl ⟨by rfl, fun wq hSw => by go_simp⟩) (by assumption) ?_
    simp only [Act.put, List.setIfInBounds_toArray]
    refine wpAnyH_done (by kernel_rfl) ?_ _
    obtain ⟨b1, wh1, hb1⟩ := (HA.out.below HB2.out).blk
    clear k0 k1
    have k1 : w2.cell? ⟨p, 1, none⟩ = some (.int .i64 (at_ : Int)) := hb1.cell 1
    have z1 : w2.frozen? ⟨p, 1, none⟩ = false := hb1.frozen 1
    have HBK := Lib.hid (show Blk (w2.setCell ⟨p, 1, none⟩ (.int .i64 ((at_ : Int) + (n : Int)))) p 129 #[.slice A l.length c, .int .i64 ((at_ + n : Nat) : Int), .int .i64 b1, .int .i64 ((0 : Nat) : Int), .int .i64 wh1] from by
      have h := hb1.set_ 1 (.int .i64 ((at_ : Int) + (n : Int)))
      rw [show ((at_ + n : Nat) : Int) = (at_ : Int) + (n : Int) from by omega]
      exact h)
    have HOF := Lib.hid ((Off.refl (fun i => i = p) w2).setCell (p := ⟨p, 1, none⟩) rfl (.int .i64 ((at_ : Int) + (n : Int))))
    have HOW := Lib.hid (HOF.out.own HOWN.out (fun k hk => by have h1 := own_ge HOWN.out k hk; have h2 := HP.out; omega))
    have HT := Lib.hid (show rawO (some (l.drop at_)) n = (X, some (l.drop (at_ + n))) from by rw [rawO_yes (by rw [List.length_drop]; exact hlen), hX, List.drop_drop])
    have HRW := Lib.hid ((HA.out.below HB2.out).row.off HOF.out (HA.out.below HB2.out).noU8)
    have HOO := Lib.hid (HO.out.trans ((Off.of_below HB2.out).trans HOF.out))
    have HSZ := Lib.hid HO.out.size
    clear hb1 HOWN
    go_wp2_with fail
    generalize w2.setCell ⟨p, 1, none⟩ (.int .i64 ((at_ : Int) + (n : Int))) = w4 at HBK HOF HOW HRW HOO ⊢
    go_ret
    rw [HT.out]
    exact ⟨⟨v2, rfl, own_down HOW.out HSZ.out⟩, ⟨at_ + n, 0, ⟨⟨b1, wh1, HBK.out⟩, HRW.out, by omega, hll⟩, rfl, rfl⟩, HOO.out⟩
  · have HT := Lib.hid (rawO_no hlen)
    go_wp2_with fail
    go_ret
    rw [HT.out]
    exact ⟨⟨_, rfl, own_nil _ _ _ _⟩, hs, HO.out⟩
end Go.Proofs.YtkblmloobkiloaaGreatDoor
namespace Go.Proofs.YtkblmloobkiloaaGreatDoor
/-- Something is read: where it cannot be, the zero thing, and wrong from there on. -/
def liftO {α : Type} (z : α) (one : List UInt8 → Option (α × List UInt8)) (st : Option (List UInt8)) : α × Option (List UInt8) := match st with
  | none => (z, none)
  | some r => match one r with
    | none => (z, none)
    | some (x, r) => (x, some r)
theorem getO_lift (k : Nat) (st : Option (List UInt8)) : getO k st = liftO 0 (getNum k) st := by
  cases st with
  | none => rfl
  | some r =>
    unfold getO liftO
    dsimp only
    cases getNum k r <;> rfl
theorem textO_lift : textO = liftO e0 getStr := by
  funext st
  cases st with
  | none => rfl
  | some r =>
    unfold textO liftO
    dsimp only
    cases getStr r <;> rfl
theorem getN_none {n : Nat} {r : List UInt8} (h : r.length < n) : getN n r = none := if_neg (by omega)
theorem getN_yes {n : Nat} {r : List UInt8} (h : n ≤ r.length) : getN n r = some (r.take n, r.drop n) := if_pos h
theorem getO_z {k : Nat} {st : Option (List UInt8)} (h : (getO k st).2 = none) : (getO k st).1 = 0 := by
  unfold getO at h ⊢
  cases st with
  | none => rfl
  | some r =>
    dsimp only at h ⊢
    cases hg : getNum k r with
    | none => rfl
    | some p => rw [hg] at h; cases h
theorem getO_none (k : Nat) : getO k none = (0, none) := rfl
theorem getO_some {k : Nat} {r : List UInt8} (h : k ≤ r.length) : getO k (some r) = (numL (r.take k), some (r.drop k)) := by
  unfold getO getNum
  dsimp only
  rw [getN_yes h]
  rfl
theorem getO_short {k : Nat} {r : List UInt8} (h : r.length < k) : getO k (some r) = (0, none) := by
  unfold getO getNum
  dsimp only
  rw [getN_none h]
  rfl
/-- A qid, as it is read: one number behind the other. -/
def qidC3 (st : Option (List UInt8)) : Qd × Option (List UInt8) :=
  match (getO 8 (getO 4 (getO 1 st).2).2).2 with
  | none => (zq, none)
  | some r => (⟨(getO 1 st).1, (getO 4 (getO 1 st).2).1, (getO 8 (getO 4 (getO 1 st).2).2).1⟩, some r)
abbrev qidO (st : Option (List UInt8)) : Qd × Option (List UInt8) := liftO zq getQid st
theorem qidC3_eq (st : Option (List UInt8)) : qidC3 st = qidO st := by
  cases st with
  | none => rfl
  | some r =>
    unfold qidC3 qidO liftO getQid
    dsimp only
    by_cases h1 : 1 ≤ r.length
    · rw [getO_some h1]
      dsimp only
      by_cases h4 : 4 ≤ (r.drop 1).length
      · rw [getO_some h4]
        dsimp only
        by_cases h8 : 8 ≤ ((r.drop 1).drop 4).length
        · rw [getO_some h8]
          simp only [List.length_drop, List.drop_drop] at h4 h8 ⊢
          rw [if_pos (by omega)]
        · rw [getO_short (by omega)]
          simp only [List.length_drop, List.drop_drop] at h4 h8 ⊢
          rw [if_neg (by omega)]
      · rw [getO_short (by omega), getO_none]
        simp only [List.length_drop] at h4 ⊢
        rw [if_neg (by omega)]
    · rw [getO_short (by omega), getO_none, getO_none]
      rw [if_neg (by omega)]
/-- A part that has its count ahead: the part, and what is left behind it. -/
def partO (st : Option (List UInt8)) : Option (List UInt8) × Option (List UInt8) := match st with
  | none => (none, none)
  | some r => if 2 ≤ r.length ∧ 2 + numL (r.take 2) ≤ r.length then (some ((r.drop 2).take (numL (r.take 2))), some (r.drop (2 + numL (r.take 2)))) else (none, none)
/-- A record, as its parts are read: the record, and how its Reader stands behind it. -/
def recC (p : Option (List UInt8)) : Sta × Option (List UInt8) :=
  let a := getO 2 p
  let b := getO 4 a.2
  let q := qidO b.2
  let c := getO 4 q.2
  let d := getO 4 c.2
  let e := getO 4 d.2
  let f := getO 8 e.2
  let s := textO f.2
  let t := textO s.2
  let u := textO t.2
  let v := textO u.2
  (⟨a.1, b.1, q.1, c.1, d.1, e.1, f.1, s.1, t.1, u.1, v.1⟩, endO v.2)
/-- A record is read. -/
def takeO (st : Option (List UInt8)) : Sta × Option (List UInt8) :=
  match (recC (partO st).1).2 with
  | none => (zst, none)
  | some _ => ((recC (partO st).1).1, (partO st).2)
/-- A record with its count; how much is left is asked ahead. -/
def stO (st : Option (List UInt8)) : Sta × Option (List UInt8) :=
  match (getO 2 st).2 with
  | none => (zst, none)
  | some r => if (getO 2 st).1 = r.length then takeO (some r) else (zst, none)
def manyO {α : Type} (one : Option (List UInt8) → α × Option (List UInt8)) : Nat → Option (List UInt8) → List α × Option (List UInt8)
  | 0, st => ([], st)
  | n + 1, st => ((one st).1 :: (manyO one n (one st).2).1, (manyO one n (one st).2).2)
def listO {α : Type} (one : Option (List UInt8) → α × Option (List UInt8)) (st : Option (List UInt8)) : List α × Option (List UInt8) :=
  if 16 < (getO 2 st).1 then ([], none) else manyO one (getO 2 st).1 (getO 2 st).2
theorem manyO_none {α : Type} (z : α) (one : List UInt8 → Option (α × List UInt8)) : ∀ n, (manyO (liftO z one) n none).2 = none
  | 0 => rfl
  | n + 1 => by
    show (manyO (liftO z one) n none).2 = none
    exact manyO_none z one n
theorem manyO_some {α : Type} (z : α) (one : List UInt8 → Option (α × List UInt8)) : ∀ n r, match getMany one n r with
    | some (xs, r') => manyO (liftO z one) n (some r) = (xs, some r')
    | none => (manyO (liftO z one) n (some r)).2 = none
  | 0, r => rfl
  | n + 1, r => by
    unfold getMany manyO
    cases h : one r with
    | none =>
      have e : liftO z one (some r) = (z, none) := by unfold liftO; dsimp only; rw [h]
      dsimp only
      rw [e]
      exact manyO_none z one n
    | some p =>
      obtain ⟨x, r1⟩ := p
      have e : liftO z one (some r) = (x, some r1) := by unfold liftO; dsimp only; rw [h]
      have ih := manyO_some z one n r1
      dsimp only
      rw [e]
      dsimp only
      cases h2 : getMany one n r1 with
      | none =>
        rw [h2] at ih
        exact ih
      | some p2 =>
        obtain ⟨xs, r2⟩ := p2
        rw [h2] at ih
        dsimp only at ih ⊢
        rw [ih]
theorem manyO_len {α : Type} (one : Option (List UInt8) → α × Option (List UInt8)) : ∀ n st, (manyO one n st).1.length = n
  | 0, _ => rfl
  | n + 1, st => by
    show ((one st).1 :: (manyO one n (one st).2).1).length = _
    rw [List.length_cons, manyO_len one n]
/-- The next one of many, at the end. -/
theorem manyO_snoc {α : Type} (one : Option (List UInt8) → α × Option (List UInt8)) : ∀ n st, manyO one (n + 1) st = ((manyO one n st).1 ++ [(one (manyO one n st).2).1], (one (manyO one n st).2).2)
  | 0, st => rfl
  | n + 1, st => by
    have ih := manyO_snoc one n (one st).2
    rw [manyO, ih]
    rfl
theorem listO_some {α : Type} (z : α) (one : List UInt8 → Option (α × List UInt8)) (r : List UInt8) : match getList one r with
    | some (xs, r') => listO (liftO z one) (some r) = (xs, some r')
    | none => (listO (liftO z one) (some r)).2 = none := by
  unfold getList listO
  cases h : getNum 2 r with
  | none =>
    have e : getO 2 (some r) = (0, none) := by unfold getO; dsimp only; rw [h]
    dsimp only
    rw [e]
    exact manyO_none z one 0
  | some p =>
    obtain ⟨n, r1⟩ := p
    have e : getO 2 (some r) = (n, some r1) := by unfold getO; dsimp only; rw [h]
    dsimp only
    rw [e]
    dsimp only
    by_cases h16 : 16 < n
    · rw [if_pos h16, if_pos h16]
    · rw [if_neg h16, if_neg h16]
      exact manyO_some z one n r1
theorem listO_none {α : Type} (z : α) (one : List UInt8 → Option (α × List UInt8)) : listO (liftO z one) none = ([], none) := rfl
/-- A field is read: the message with it, and how the Reader stands. -/
def takeF (m : Mg) (st : Option (List UInt8)) : Fld → Mg × Option (List UInt8)
  | .names => ({ m with names := (listO textO st).1 }, (listO textO st).2)
  | .qids => ({ m with qids := (listO qidO st).1 }, (listO qidO st).2)
  | .qid => ({ m with qid := (qidO st).1 }, (qidO st).2)
  | .data => ({ m with data := (rawO (getO 4 st).2 (getO 4 st).1).1 }, (rawO (getO 4 st).2 (getO 4 st).1).2)
  | .stat => ({ m with stat := (stO st).1 }, (stO st).2)
  | f => if f.isText then (m.setTxt (textO st).1 f, (textO st).2) else (m.setNum (getO f.width st).1 f, (getO f.width st).2)
/-- The fields are read, whatever stands wrong. -/
def takeAll : List Fld → Mg → Option (List UInt8) → Mg × Option (List UInt8)
  | [], m, st => (m, st)
  | f :: fs, m, st => takeAll fs (takeF m st f).1 (takeF m st f).2
theorem takeAll_snoc : ∀ (fs : List Fld) (f : Fld) (m : Mg) (st : Option (List UInt8)), takeAll (fs ++ [f]) m st = takeF (takeAll fs m st).1 (takeAll fs m st).2 f
  | [], _, _, _ => rfl
  | g :: fs, f, m, st => takeAll_snoc fs f (takeF m st g).1 (takeF m st g).2
/-- What is taken: the message, if nothing is wrong and nothing left. -/
def fin (x : Option (Mg × List UInt8)) : Option Mg := match x with
  | some (m, []) => some m
  | _ => none
def finO (x : Mg × Option (List UInt8)) : Option Mg := match endO x.2 with
  | some _ => some x.1
  | none => none
theorem finO_none {x : Mg × Option (List UInt8)} (h : x.2 = none) : finO x = none := by unfold finO; rw [h]; rfl
theorem takeF_lift {m : Mg} {r : List UInt8} {f : Fld} (hf : f ≠ .stat) : match getF m r f with
    | some (m', r') => takeF m (some r) f = (m', some r')
    | none => (takeF m (some r) f).2 = none := by
  have hnum : ∀ k, match getNum k r with
      | some (n, r') => getO k (some r) = (n, some r')
      | none => (getO k (some r)).2 = none := by
    intro k
    unfold getO
    cases h : getNum k r <;> simp [h]
  have htxt : match getStr r with
      | some (s, r') => textO (some r) = (s, some r')
      | none => (textO (some r)).2 = none := by
    unfold textO
    cases h : getStr r <;> simp [h]
  have hN : ∀ g : Fld, g.isText = false → (∀ l, getF m l g = (getNum g.width l).map fun p => (m.setNum p.1 g, p.2)) → (∀ st, takeF m st g = (m.setNum (getO g.width st).1 g, (getO g.width st).2)) → (match getF m r g with
      | some (m', r') => takeF m (some r) g = (m', some r')
      | none => (takeF m (some r) g).2 = none) := by
    intro g _ h1 h2
    rw [h1, h2]
    have := hnum g.width
    cases h : getNum g.width r with
    | none => rw [h] at this; exact this
    | some p => rw [h] at this; simp only [Option.map_some] at this ⊢; rw [this]
  have hT : ∀ g : Fld, (∀ l, getF m l g = (getStr l).map fun p => (m.setTxt p.1 g, p.2)) → (∀ st, takeF m st g = (m.setTxt (textO st).1 g, (textO st).2)) → (match getF m r g with
      | some (m', r') => takeF m (some r) g = (m', some r')
      | none => (takeF m (some r) g).2 = none) := by
    intro g h1 h2
    rw [h1, h2]
    cases h : getStr r with
    | none => rw [h] at htxt; exact htxt
    | some p => rw [h] at htxt; simp only [Option.map_some] at htxt ⊢; rw [htxt]
  cases f with
  | stat => exact absurd rfl hf
  | names =>
    have := listO_some e0 getStr r
    unfold getF takeF
    rw [textO_lift]
    cases h : getList getStr r with
    | none => rw [h] at this; exact this
    | some p => rw [h] at this; simp only [Option.map_some] at this ⊢; rw [this]
  | qids =>
    have := listO_some zq getQid r
    unfold getF takeF
    cases h : getList getQid r with
    | none => rw [h] at this; exact this
    | some p => rw [h] at this; simp only [Option.map_some] at this ⊢; rw [show listO qidO (some r) = _ from this]
  | qid =>
    unfold getF takeF
    cases h : getQid r with
    | none => show (liftO zq getQid (some r)).2 = none; unfold liftO; dsimp only; rw [h]
    | some p => show (_, (liftO zq getQid (some r)).2) = _; unfold qidO liftO; dsimp only; rw [h]
  | data =>
    have h4 := hnum 4
    unfold getF takeF
    cases h : getNum 4 r with
    | none =>
      rw [h] at h4
      dsimp only at h4 ⊢
      rw [h4]
      rfl
    | some p =>
      obtain ⟨n, r1⟩ := p
      rw [h] at h4
      dsimp only at h4 ⊢
      rw [h4]
      unfold rawO
      dsimp only
      cases h2 : getN n r1 with
      | none => rfl
      | some p2 => rfl
  | version => exact hT .version (fun _ => rfl) (fun _ => rfl)
  | uname => exact hT .uname (fun _ => rfl) (fun _ => rfl)
  | aname => exact hT .aname (fun _ => rfl) (fun _ => rfl)
  | ename => exact hT .ename (fun _ => rfl) (fun _ => rfl)
  | name => exact hT .name (fun _ => rfl) (fun _ => rfl)
  | msize => exact hN .msize rfl (fun _ => rfl) (fun _ => rfl)
  | afid => exact hN .afid rfl (fun _ => rfl) (fun _ => rfl)
  | fid => exact hN .fid rfl (fun _ => rfl) (fun _ => rfl)
  | newfid => exact hN .newfid rfl (fun _ => rfl) (fun _ => rfl)
  | iounit => exact hN .iounit rfl (fun _ => rfl) (fun _ => rfl)
  | perm => exact hN .perm rfl (fun _ => rfl) (fun _ => rfl)
  | count => exact hN .count rfl (fun _ => rfl) (fun _ => rfl)
  | oldtag => exact hN .oldtag rfl (fun _ => rfl) (fun _ => rfl)
  | mode => exact hN .mode rfl (fun _ => rfl) (fun _ => rfl)
  | offset => exact hN .offset rfl (fun _ => rfl) (fun _ => rfl)
theorem qidO_none : qidO none = (zq, none) := rfl
theorem textO_none : textO none = (e0, none) := rfl
theorem takeF_none (m : Mg) (f : Fld) : (takeF m none f).2 = none := by cases f <;> rfl
theorem takeAll_none : ∀ (fs : List Fld) (m : Mg), (takeAll fs m none).2 = none
  | [], _ => rfl
  | f :: fs, m => by
    show (takeAll fs (takeF m none f).1 (takeF m none f).2).2 = none
    rw [takeF_none]
    exact takeAll_none fs _
theorem recC_none : (recC none).2 = none := rfl
/-- The four texts, to the end. -/
theorem texts_end (st : Option (List UInt8)) : (match st with | none => none | some l => getTexts l) = match (textO (textO (textO (textO st).2).2).2).2 with
    | none => none
    | some r => some (((textO st).1, (textO (textO st).2).1, (textO (textO (textO st).2).2).1, (textO (textO (textO (textO st).2).2).2).1), r) := by
  cases st with
  | none => rfl
  | some l =>
    unfold getTexts
    dsimp only
    cases h1 : getStr l with
    | none =>
      have e : textO (some l) = (e0, none) := by unfold textO; dsimp only; rw [h1]
      rw [e]; rfl
    | some p1 =>
      obtain ⟨a, r1⟩ := p1
      have e : textO (some l) = (a, some r1) := by unfold textO; dsimp only; rw [h1]
      rw [e]
      dsimp only
      cases h2 : getStr r1 with
      | none =>
        have e : textO (some r1) = (e0, none) := by unfold textO; dsimp only; rw [h2]
        rw [e]; rfl
      | some p2 =>
        obtain ⟨b, r2⟩ := p2
        have e : textO (some r1) = (b, some r2) := by unfold textO; dsimp only; rw [h2]
        rw [e]
        dsimp only
        cases h3 : getStr r2 with
        | none =>
          have e : textO (some r2) = (e0, none) := by unfold textO; dsimp only; rw [h3]
          rw [e]; rfl
        | some p3 =>
          obtain ⟨c, r3⟩ := p3
          have e : textO (some r2) = (c, some r3) := by unfold textO; dsimp only; rw [h3]
          rw [e]
          dsimp only
          cases h4 : getStr r3 with
          | none =>
            have e : textO (some r3) = (e0, none) := by unfold textO; dsimp only; rw [h4]
            rw [e]
          | some p4 =>
            obtain ⟨d, r4⟩ := p4
            have e : textO (some r3) = (d, some r4) := by unfold textO; dsimp only; rw [h4]
            rw [e]
/-- A Reader of l that read n bytes, or wanted to. -/
def Pos (l : List UInt8) (n : Nat) (st : Option (List UInt8)) : Prop := (n ≤ l.length ∧ st = some (l.drop n)) ∨ (l.length < n ∧ st = none)
theorem Pos.num {l : List UInt8} {n : Nat} {st : Option (List UInt8)} (h : Pos l n st) (k : Nat) : Pos l (n + k) (getO k st).2 := by
  rcases h with ⟨h, rfl⟩ | ⟨h, rfl⟩
  · by_cases hk : k ≤ (l.drop n).length
    · rw [getO_some hk]
      rw [List.length_drop] at hk
      exact .inl ⟨by omega, by rw [List.drop_drop]⟩
    · rw [getO_short (by omega)]
      rw [List.length_drop] at hk
      exact .inr ⟨by omega, rfl⟩
  · exact .inr ⟨by omega, rfl⟩
theorem Pos.qid {l : List UInt8} {n : Nat} {st : Option (List UInt8)} (h : Pos l n st) : Pos l (n + 13) (qidO st).2 := by
  rcases h with ⟨h, rfl⟩ | ⟨h, rfl⟩
  · unfold qidO liftO getQid
    dsimp only
    by_cases hk : 13 ≤ (l.drop n).length
    · rw [if_pos hk]
      rw [List.length_drop] at hk
      exact .inl ⟨by omega, by dsimp only; rw [List.drop_drop]⟩
    · rw [if_neg hk]
      rw [List.length_drop] at hk
      exact .inr ⟨by omega, rfl⟩
  · exact .inr ⟨by omega, rfl⟩
theorem textO_stop : (textO none).2 = none := rfl
theorem recC_short {l : List UInt8} (h : l.length < 39) : (recC (some l)).2 = none := by
  have h0 : Pos l 0 (some l) := .inl ⟨Nat.zero_le _, by rw [List.drop_zero]⟩
  have h1 := ((((((h0.num 2).num 4).qid).num 4).num 4).num 4).num 8
  rcases h1 with ⟨h1, -⟩ | ⟨-, h1⟩
  · omega
  · unfold recC
    dsimp only
    rw [h1]
    rfl
theorem qidO_yes {l : List UInt8} (h : 13 ≤ l.length) : qidO (some l) = (⟨numL (l.take 1), numL ((l.drop 1).take 4), numL ((l.drop 5).take 8)⟩, some (l.drop 13)) := by
  unfold qidO liftO getQid
  dsimp only
  rw [if_pos h]
theorem recC_long {r : List UInt8} (h : 41 ≤ r.length) : recC (some (r.drop 2)) =
    (⟨numL ((r.drop 2).take 2), numL ((r.drop 4).take 4), ⟨numL ((r.drop 8).take 1), numL ((r.drop 9).take 4), numL ((r.drop 13).take 8)⟩, numL ((r.drop 21).take 4), numL ((r.drop 25).take 4), numL ((r.drop 29).take 4), numL ((r.drop 33).take 8),
      (textO (some (r.drop 41))).1, (textO (textO (some (r.drop 41))).2).1, (textO (textO (textO (some (r.drop 41))).2).2).1, (textO (textO (textO (textO (some (r.drop 41))).2).2).2).1⟩, endO (textO (textO (textO (textO (some (r.drop 41))).2).2).2).2) := by
  have hs : ∀ n k, n + k ≤ 41 → getO k (some (r.drop n)) = (numL ((r.drop n).take k), some (r.drop (n + k))) := by
    intro n k hk
    rw [getO_some (by rw [List.length_drop]; omega), List.drop_drop]
  unfold recC
  rw [hs 2 2 (by omega)]
  dsimp only
  rw [hs 4 4 (by omega)]
  dsimp only
  rw [qidO_yes (by rw [List.length_drop]; omega)]
  simp only [List.drop_drop]
  rw [hs 21 4 (by omega)]
  dsimp only
  rw [hs 25 4 (by omega)]
  dsimp only
  rw [hs 29 4 (by omega)]
  dsimp only
  rw [hs 33 8 (by omega)]
theorem getTexts_len {l r : List UInt8} {x : ByteArray × ByteArray × ByteArray × ByteArray} (h : getTexts l = some (x, r)) : 8 ≤ l.length := by
  obtain ⟨a, b, c, d⟩ := x
  have e := (getTexts_some h).1
  rw [e]
  simp only [List.length_append, strB_len]
  omega
/-- A record and what is left: right just where getRec is. -/
theorem takeO_rec (m : Mg) (r : List UInt8) : finO ({ m with stat := (takeO (some r)).1 }, (takeO (some r)).2) = fin ((getRec r).map fun s => ({ m with stat := s }, [])) := by
  by_cases hp : 2 ≤ r.length ∧ 2 + numL (r.take 2) ≤ r.length
  · have e : partO (some r) = (some ((r.drop 2).take (numL (r.take 2))), some (r.drop (2 + numL (r.take 2)))) := if_pos hp
    by_cases hk : 2 + numL (r.take 2) = r.length
    · have e2 : (r.drop 2).take (numL (r.take 2)) = r.drop 2 := List.take_of_length_le (by rw [List.length_drop]; omega)
      have e3 : r.drop (2 + numL (r.take 2)) = [] := List.drop_eq_nil_of_le (by omega)
      rw [e2, e3] at e
      unfold takeO
      rw [e]
      dsimp only
      by_cases h41 : r.length < 41
      · rw [recC_short (by rw [List.length_drop]; omega)]
        unfold getRec
        rw [if_pos (by omega)]
        rfl
      · rw [recC_long (by omega)]
        have ht := texts_end (some (r.drop 41))
        dsimp only at ht ⊢
        unfold getRec
        by_cases h49 : r.length < 49
        · rw [if_pos h49]
          have hno : ∀ x, getTexts (r.drop 41) = some x → False := by
            rintro ⟨x, r'⟩ hx
            have := getTexts_len hx
            rw [List.length_drop] at this
            omega
          cases hg : (textO (textO (textO (textO (some (r.drop 41))).2).2).2).2 with
          | none => rfl
          | some y =>
            rw [hg] at ht
            exact absurd ht (fun h => hno _ h)
        · rw [if_neg h49, if_neg (by omega), ht]
          cases hg : (textO (textO (textO (textO (some (r.drop 41))).2).2).2).2 with
          | none => rfl
          | some y =>
            cases y with
            | nil => rfl
            | cons a y => rfl
    · have hne : ∃ a t, r.drop (2 + numL (r.take 2)) = a :: t := by
        cases hd : r.drop (2 + numL (r.take 2)) with
        | nil =>
          have := congrArg List.length hd
          rw [List.length_drop, List.length_nil] at this
          omega
        | cons a t => exact ⟨a, t, rfl⟩
      obtain ⟨a, t, ht⟩ := hne
      have hR : getRec r = none := by
        unfold getRec
        by_cases h49 : r.length < 49
        · rw [if_pos h49]
        · rw [if_neg h49, if_pos (by omega)]
      rw [hR]
      unfold takeO
      rw [e, ht]
      dsimp only
      cases hc : (recC (some ((r.drop 2).take (numL (r.take 2))))).2 <;> rfl
  · have e : partO (some r) = (none, none) := if_neg hp
    have hR : getRec r = none := by
      unfold getRec
      by_cases h49 : r.length < 49
      · rw [if_pos h49]
      · rw [if_neg h49, if_pos (by omega)]
    rw [hR]
    unfold takeO
    rw [e]
    rfl
theorem stO_stat (m : Mg) (r : List UInt8) : finO ({ m with stat := (stO (some r)).1 }, (stO (some r)).2) = fin ((getStat r).map fun p => ({ m with stat := p.1 }, p.2)) := by
  unfold stO getStat
  cases h : getNum 2 r with
  | none =>
    have e : getO 2 (some r) = (0, none) := by unfold getO; dsimp only; rw [h]
    rw [e]
    rfl
  | some p =>
    obtain ⟨n, r1⟩ := p
    have e : getO 2 (some r) = (n, some r1) := by unfold getO; dsimp only; rw [h]
    rw [e]
    dsimp only
    by_cases hn : n = r1.length
    · rw [if_pos hn, if_pos hn, takeO_rec]
      cases getRec r1 <;> rfl
    · rw [if_neg hn, if_neg hn]
      rfl
/-- A record stands at the end only. -/
def statLast : List Fld → Bool
  | [] => true
  | .stat :: fs => fs.isEmpty
  | _ :: fs => statLast fs
theorem statLast_cons {f : Fld} {fs : List Fld} (h : statLast (f :: fs) = true) : (f = .stat ∧ fs = []) ∨ (f ≠ .stat ∧ statLast fs = true) := by
  cases f <;> first | exact .inr ⟨fun e => (by cases e), h⟩ | exact .inl ⟨rfl, List.isEmpty_iff.1 h⟩
theorem kind_last {k : Nat} {fs : List Fld} (h : kindF k = some fs) : statLast fs = true := by
  unfold kindF at h
  split at h <;> first | (injection h with h; subst h; rfl) | cases h
theorem takeAll_fin : ∀ (fs : List Fld), statLast fs = true → ∀ (m : Mg) (r : List UInt8), finO (takeAll fs m (some r)) = fin (getAll fs m r)
  | [], _, m, r => by
    unfold takeAll getAll
    cases r <;> rfl
  | f :: fs, hl, m, r => by
    rcases statLast_cons hl with ⟨rfl, rfl⟩ | ⟨hf, hl⟩
    · have h := stO_stat m r
      have e1 : takeAll [.stat] m (some r) = ({ m with stat := (stO (some r)).1 }, (stO (some r)).2) := rfl
      rw [e1, h]
      have e2 : getF m r .stat = (getStat r).map fun p => ({ m with stat := p.1 }, p.2) := rfl
      unfold getAll
      rw [e2]
      cases getStat r with
      | none => rfl
      | some p => rfl
    · have h := takeF_lift (m := m) (r := r) hf
      unfold takeAll getAll
      cases hg : getF m r f with
      | none =>
        rw [hg] at h
        dsimp only at h ⊢
        rw [h]
        exact finO_none (takeAll_none fs _)
      | some p =>
        obtain ⟨m', r'⟩ := p
        rw [hg] at h
        dsimp only at h ⊢
        rw [h]
        exact takeAll_fin fs hl m' r'
/-- What Decode takes. -/
theorem dec_fin (l : List UInt8) : dec l = if l.length < 7 ∨ 65536 < l.length then (head 0 0, 31) else
    if numL (l.take 4) ≠ l.length then (head 0 0, 31) else
    match kindF (numL ((l.drop 4).take 1)) with
    | none => (head (numL ((l.drop 4).take 1)) (numL ((l.drop 5).take 2)), 32)
    | some fs => match finO (takeAll fs (head (numL ((l.drop 4).take 1)) (numL ((l.drop 5).take 2))) (some (l.drop 7))) with
      | some m => (m, 0)
      | none => (head (numL ((l.drop 4).take 1)) (numL ((l.drop 5).take 2)), 33) := by
  unfold dec
  split
  · rfl
  split
  · rfl
  cases h : kindF (numL ((l.drop 4).take 1)) with
  | none => rfl
  | some fs =>
    dsimp only
    rw [takeAll_fin fs (kind_last h)]
    generalize getAll fs _ _ = x
    unfold fin
    match x with
    | none => rfl
    | some (m, []) => rfl
    | some (m, a :: t) => rfl
end Go.Proofs.YtkblmloobkiloaaGreatDoor
namespace Go.Proofs.YtkblmloobkiloaaGreatDoor
open Go.RowKit

theorem results_row {fn : Func} {tmps : Array Value} {w : World} {q i : Nat} {ty : TypeId} {l : List Value} {d : TypeDesc} (hr : fn.results = #[.cell i ty]) (hu : Tryz.prog.underlying ty = some d) (hd : d.isRow = true) (hs : (Tryz.prog.info? ty).map (·.size) = some l.length) (h2 : tmps.getD i undef = .pointer (some ⟨q, 0, none⟩)) (hk : Blk w q ty l.toArray) :
    (results fn tmps).run Tryz.prog w = .ok (.agg l.toArray) w := by
  have h2' : tmps[i]?.getD undef = .pointer (some ⟨q, 0, none⟩) := by simpa using h2
  have hl7 : (loadVar ty ⟨q, 0, none⟩).run Tryz.prog w = .ok (.agg l.toArray) w :=
    run_loadVar_mid w q 0 ty l _ (Blk.range hk 0 l (by simp)) hu hd hs
  simp [results, hr, h2', asAddr, hl7]
theorem RdS.lt {w : World} {p : Nat} {bv : Value} {l : List UInt8} {st : Option (List UInt8)} (h : RdS w p bv l st) : p < w.heap.size := by
  obtain ⟨_, _, h, _⟩ := h
  exact h.lt
theorem RdS.noU8 {w : World} {p : Nat} {bv : Value} {l : List UInt8} {st : Option (List UInt8)} (h : RdS w p bv l st) : ∀ g cur fr, g = p → w.heap[g]? ≠ some (Obj.cells cur 5 fr) := by
  obtain ⟨_, _, h, _⟩ := h
  exact h.noU8
/-- A Reader stands as it stood, where neither it nor a row of bytes was changed. -/
theorem RdS.off {S : Nat → Prop} {w w' : World} {p : Nat} {bv : Value} {l : List UInt8} {st : Option (List UInt8)} (h : RdS w p bv l st) (ho : Off S w w') (hp : ¬ S p) (hu : ∀ g cur fr, S g → w.heap[g]? ≠ some (Obj.cells cur 5 fr)) : RdS w' p bv l st := by
  obtain ⟨a, e, h, hs⟩ := h
  obtain ⟨b0, wh, hk⟩ := h.blk
  exact ⟨a, e, ⟨⟨b0, wh, ho.blk hk hp⟩, h.row.off ho hu, h.le, h.len⟩, hs⟩
theorem blk_noU8 {w : World} {q : Nat} {t : TypeId} {cs : Array Value} (h : Blk w q t cs) (ht : t ≠ 5) : ∀ g cur fr, g = q → w.heap[g]? ≠ some (Obj.cells cur 5 fr) := by
  rintro g cur fr rfl hg
  unfold Blk at h
  rw [h] at hg
  injection hg with hg
  injection hg with _ hg
  exact ht hg
theorem new_noU8 {w : World} : ∀ g cur fr, w.heap.size ≤ g → w.heap[g]? ≠ some (Obj.cells cur 5 fr) := by
  intro g cur fr hg h
  exact absurd (heap_lt h) (by omega)
theorem left_calls {w : World} {p : Nat} {bv : Value} {l : List UInt8} {st : Option (List UInt8)} (h : RdS w p bv l st) :
    Calls Tryz.prog 261 #[.pointer (some ⟨p, 0, none⟩)] w fun e w' => e = .returned (.int .i64 (((st.getD []).length : Nat) : Int)) ∧ RdS w' p bv l st ∧ Below w.heap.size w w' := by
  have HS := Lib.hid h
  obtain ⟨at_, err, h, hs⟩ := h
  have hll := h.len
  have hle := h.le
  obtain ⟨⟨b0, wh, hb⟩, ⟨A, c, rfl, hc, hm, -⟩, -, -⟩ := h
  have k0 : w.cell? ⟨p, 0, none⟩ = some (.slice A l.length c) := hb.cell 0
  have k1 : w.cell? ⟨p, 1, none⟩ = some (.int .i64 (at_ : Int)) := hb.cell 1
  have k3 : w.cell? ⟨p, 3, none⟩ = some (.int .i64 (err : Int)) := hb.cell 3
  have j0 : w.drew.cell? ⟨p, 0, none⟩ = some (.slice A l.length c) := hb.cell 0
  have j1 : w.drew.cell? ⟨p, 1, none⟩ = some (.int .i64 (at_ : Int)) := hb.cell 1
  clear hb
  cases st with
  | none =>
    have hne : ((err : Int) != 0) = true := by rw [bne_iff_ne]; have h : err ≠ 0 := hs; omega
    clear hs
    go_enter Tryz.func261, Tryz.ntmps261
    go_wp2_with fail
    go_ret
    exact ⟨rfl, HS.out, Below.refl _ _⟩
  | some r =>
    obtain ⟨rfl, rfl⟩ := hs
    go_enter Tryz.func261, Tryz.ntmps261
    go_upto_region 3 with (fail)
    go_region
    go_wp2_with fail
    go_ret
    refine ⟨ret_int ?_, HS.out.below (below_drew w), below_drew w⟩
    rw [Option.getD_some, List.length_drop]
    omega
/-- What Part gives: a Reader of the part, which reads the same row. -/
def PartR (p : Nat) (bv : Value) (l : List UInt8) (st : Option (List UInt8)) (w : World) (e : Ending) (w' : World) : Prop :=
  ∃ q pv x, e = .returned (.pointer (some ⟨q, 0, none⟩)) ∧ w.heap.size ≤ q ∧ RdS w' q pv x (partO st).1 ∧ RdS w' p bv l (partO st).2 ∧ OffR p w w'
set_option maxRecDepth 100000 in
set_option maxHeartbeats 3200000 in
theorem part_calls {w : World} {p : Nat} {bv : Value} {l : List UInt8} {st : Option (List UInt8)} (h : RdS w p bv l st) :
    Calls Tryz.prog 280 #[.pointer (some ⟨p, 0, none⟩)] w (PartR p bv l st w) := by
  have HC := Lib.hid (counted_calls h)
  clear h
  go_enter Tryz.func280, Tryz.ntmps280
  go_wp2_with fail
  refine HC.out.mono ?_
  rintro e w1 ⟨ho, hr⟩
  have HO := Lib.hid ho; clear ho HC
  rcases hr with ⟨r, rfl, hlen, hlen2, rfl, hs⟩ | ⟨hlen, ⟨n, rfl⟩, hs⟩
  · obtain ⟨at_, err, h, hs⟩ := hs
    obtain ⟨rfl, hdr⟩ := hs
    subst hdr
    have HA := Lib.hid h
    have hll := h.len
    have hle := h.le
    obtain ⟨⟨b0, wh, hb⟩, ⟨A, c, rfl, hc, hm, hrow⟩, -, -⟩ := h
    have HL := Lib.hid (And.intro hlen hlen2)
    rw [List.length_drop] at hlen hlen2
    obtain ⟨g, o, rfl, hcell⟩ := hrow.at_ (by omega)
    clear hcell hrow
    generalize hn : numL ((l.drop at_).take 2) = n at hlen2 ⊢
    have HN := Lib.hid hn; clear hn
    have k1 : w1.cell? ⟨p, 1, none⟩ = some (.int .i64 (at_ : Int)) := hb.cell 1
    have z1 : w1.frozen? ⟨p, 1, none⟩ = false := hb.frozen 1
    have HBK := Lib.hid (show Blk (w1.setCell ⟨p, 1, none⟩ (.int .i64 ((at_ : Int) + 2 + (n : Int)))) p 129 #[.slice (some ⟨g, o, none⟩) l.length c, .int .i64 ((at_ + 2 + n : Nat) : Int), .int .i64 b0, .int .i64 ((0 : Nat) : Int), .int .i64 wh] from by
      have h := hb.set_ 1 (.int .i64 ((at_ : Int) + 2 + (n : Int)))
      rw [show ((at_ + 2 + n : Nat) : Int) = (at_ : Int) + 2 + (n : Int) from by omega]
      exact h)
    have HOF := Lib.hid ((Off.refl (fun i => i = p) w1).setCell (p := ⟨p, 1, none⟩) rfl (.int .i64 ((at_ : Int) + 2 + (n : Int))))
    have HRW := Lib.hid (HA.out.row.off HOF.out HA.out.noU8)
    clear hb
    go_upto_region 6 with (fail)
    clear k1 z1
    generalize w1.setCell ⟨p, 1, none⟩ (.int .i64 ((at_ : Int) + 2 + (n : Int))) = w2 at HBK HOF HRW ⊢
    have k0 : w2.cell? ⟨p, 0, none⟩ = some (.slice (some ⟨g, o, none⟩) l.length c) := HBK.out.cell 0
    have k1 : w2.cell? ⟨p, 1, none⟩ = some (.int .i64 ((at_ + 2 + n : Nat) : Int)) := HBK.out.cell 1
    have k2 : w2.cell? ⟨p, 2, none⟩ = some (.int .i64 b0) := HBK.out.cell 2
    have j0 : w2.drew.cell? ⟨p, 0, none⟩ = some (.slice (some ⟨g, o, none⟩) l.length c) := HBK.out.cell 0
    have j1 : w2.drew.cell? ⟨p, 1, none⟩ = some (.int .i64 ((at_ + 2 + n : Nat) : Int)) := HBK.out.cell 1
    have j2 : w2.drew.cell? ⟨p, 2, none⟩ = some (.int .i64 b0) := HBK.out.cell 2
    have hlim : at_ + 2 + n ≤ c := by omega
    have HX := Lib.hid (show RBys w2 (.slice (if n = 0 then some ⟨g, o, none⟩ else some ⟨g, o + (at_ + 2), none⟩) n n) ((l.drop (at_ + 2)).take n) from by
      have h := RBys.sub (at_ + 2) n (at_ + 2 + n) HRW.out (by omega) (Nat.le_refl _) hlim
      have e : subV (some ⟨g, o, none⟩) (at_ + 2) n (at_ + 2 + n) = .slice (if n = 0 then some ⟨g, o, none⟩ else some ⟨g, o + (at_ + 2), none⟩) n n := by
        unfold subV
        rw [show at_ + 2 + n - (at_ + 2) = n by omega, Addr.add_some]
        by_cases h0 : n = 0
        · rw [if_pos h0, if_pos (by omega)]
        · rw [if_neg h0, if_neg (by omega)]
      rw [← e]
      exact h)
    have HXL := Lib.hid (show ((l.drop (at_ + 2)).take n).length ≤ 16777216 from by rw [List.length_take, List.length_drop]; omega)
    have HPT := Lib.hid (show partO (some (l.drop at_)) = (some ((l.drop (at_ + 2)).take n), some (l.drop (at_ + 2 + n))) from by
      unfold partO
      dsimp only
      rw [HN.out, if_pos ⟨HL.out.1, by have := HL.out.2; rw [HN.out] at this; exact this⟩, List.drop_drop, List.drop_drop, Nat.add_assoc])
    have hle2 : at_ + 2 + n ≤ l.length := by omega
    go_region
    all_goals (
      generalize Value.slice (if n = 0 then some (Addr.mk g o none) else some ⟨g, o + (at_ + 2), none⟩) n n = X at HX ⊢
      generalize wrap64 (b0 + ((at_ : Int) + 2)) = E
      obtain ⟨W, hW⟩ : ∃ W, W = (w2.alloc (Obj.cells #[X, .int .i64 0, .int .i64 E, .int .i64 0, .int .i64 0] 129)).drew := ⟨_, rfl⟩
      rw [← hW]
      have hb2 : Below w2.heap.size w2 W := by rw [hW]; exact ((Below.refl _ _).alloc (Nat.le_refl _) _).drew
      have HW := Lib.hid (show Blk W w2.heap.size 129 #[X, .int .i64 0, .int .i64 E, .int .i64 0, .int .i64 0] from by rw [hW]; exact (Blk.new _ _ _).drew)
      have HB2 := Lib.hid hb2
      clear hb2 hW k0 k1 k2 j0 j1 j2
      go_wp2_with fail
      all_goals (
        go_ret
        refine ⟨w2.heap.size, X, (l.drop (at_ + 2)).take n, rfl, Nat.le_trans HO.out.size HOF.out.size, ?_, ?_, (HO.out.trans HOF.out).trans (Off.of_below HB2.out)⟩
        · rw [HPT.out]
          exact ⟨0, 0, ⟨⟨E, 0, HW.out⟩, HX.out.keep fun g cur fr hg => HB2.out.block g (heap_lt hg), Nat.zero_le _, HXL.out⟩, rfl, List.drop_zero⟩
        · rw [HPT.out]
          exact ⟨at_ + 2 + n, 0, ⟨⟨b0, wh, Blk.below HBK.out HB2.out (Blk.lt HBK.out)⟩, HRW.out.keep fun g cur fr hg => HB2.out.block g (heap_lt hg), hle2, hll⟩, rfl, rfl⟩))
  · have HP := Lib.hid (show partO st = (none, none) from by
      cases st with
      | none => rfl
      | some r =>
        refine if_neg ?_
        rintro ⟨h1, h2⟩
        rcases hlen r rfl with h | h <;> omega)
    have HS := Lib.hid hs
    obtain ⟨at_, err, h, hs⟩ := hs
    obtain ⟨b0, wh, hb⟩ := h.blk
    have k3 : w1.cell? ⟨p, 3, none⟩ = some (.int .i64 (err : Int)) := hb.cell 3
    have k4 : w1.cell? ⟨p, 4, none⟩ = some (.int .i64 wh) := hb.cell 4
    have j3 : w1.drew.cell? ⟨p, 3, none⟩ = some (.int .i64 (err : Int)) := hb.cell 3
    have j4 : w1.drew.cell? ⟨p, 4, none⟩ = some (.int .i64 wh) := hb.cell 4
    have HE := Lib.hid (show err ≠ 0 from hs)
    clear hb h hs
    go_upto_region 3 with (fail)
    go_region
    obtain ⟨W, hW⟩ : ∃ W, W = (w1.alloc (Obj.cells #[.slice none 0 0, .int .i64 0, .int .i64 wh, .int .i64 (err : Int), .int .i64 wh] 129)).drew := ⟨_, rfl⟩
    rw [← hW]
    have hb2 : Below w1.heap.size w1 W := by rw [hW]; exact ((Below.refl _ _).alloc (Nat.le_refl _) _).drew
    have HW := Lib.hid (show Blk W w1.heap.size 129 #[.slice none 0 0, .int .i64 0, .int .i64 wh, .int .i64 (err : Int), .int .i64 wh] from by rw [hW]; exact (Blk.new _ _ _).drew)
    have HB2 := Lib.hid hb2
    clear hb2 hW k3 k4 j3 j4
    go_wp2_with fail
    go_ret
    refine ⟨w1.heap.size, .slice none 0 0, [], rfl, HO.out.size, ?_, ?_, HO.out.trans (Off.of_below HB2.out)⟩
    · rw [HP.out]
      exact ⟨0, err, ⟨⟨wh, wh, HW.out⟩, ⟨none, 0, rfl, Nat.le_refl _, Nat.zero_le _, Row.none_⟩, Nat.le_refl _, Nat.zero_le _⟩, HE.out⟩
    · rw [HP.out]
      exact HS.out.below HB2.out
theorem qid_size : (Tryz.prog.info? 37).map (·.size) = some 3 := by kernel_rfl
theorem Off.toR {p z : Nat} {w w' : World} (h : Off (fun i => i = p ∨ z ≤ i) w w') (hz : w.heap.size ≤ z) : OffR p w w' := h.mono fun k hk hs => hs.resolve_right (by omega)
theorem Off.toN {p z : Nat} {w w' : World} (h : OffR p w w') : Off (fun i => i = p ∨ z ≤ i) w w' := h.mono fun _ _ hs => .inl hs
set_option maxRecDepth 100000 in
set_option maxHeartbeats 3200000 in
theorem takeQid_calls {w : World} {p : Nat} {bv : Value} {l : List UInt8} {st : Option (List UInt8)} (h : RdS w p bv l st) :
    Calls Tryz.prog 173 #[.pointer (some ⟨p, 0, none⟩)] w fun e w' => e = .returned (qdV (qidO st).1) ∧ RdS w' p bv l (qidO st).2 ∧ OffR p w w' := by
  have HN := Lib.hid (Blk.new w 37 #[.int .u8 0, .int .u32 0, .int .u64 0])
  have HS := Lib.hid (h.below ((Below.refl _ _).alloc (Nat.le_refl _) (.cells #[.int .u8 0, .int .u32 0, .int .u64 0] 37)))
  have HO := Lib.hid ((Off.refl (fun i => i = p ∨ w.heap.size ≤ i) w).alloc (.cells #[.int .u8 0, .int .u32 0, .int .u64 0] 37))
  have HLT := Lib.hid h.lt
  have HQ := Lib.hid (qidC3_eq st)
  clear h
  go_enter Tryz.func173, Tryz.ntmps173
  go_upto_region 1 with (fail)
  generalize w.alloc (.cells #[.int .u8 0, .int .u32 0, .int .u64 0] 37) = w0 at HS HN HO ⊢
  generalize hz : w.heap.size = z at HN HLT HO ⊢
  have HZ := Lib.hid hz; clear hz
  go_wp2_with fail
  refine (rdU8_calls HS.out).mono ?_
  rintro e w1 ⟨rfl, hs, hb⟩
  have HS1 := Lib.hid hs
  have HN1 := Lib.hid (hb.blk HN.out (by have := HLT.out; omega))
  have HO1 := Lib.hid (HO.out.trans hb.toN)
  clear hs hb HS HN HO
  go_wp2_with fail
  refine (rdU32_calls HS1.out).mono ?_
  rintro e w2 ⟨rfl, hs, hb⟩
  have HS2 := Lib.hid hs
  have HN2 := Lib.hid (hb.blk HN1.out (by have := HLT.out; omega))
  have HO2 := Lib.hid (HO1.out.trans hb.toN)
  clear hs hb HS1 HN1 HO1
  go_wp2_with fail
  refine (rdU64_calls HS2.out).mono ?_
  rintro e w3 ⟨rfl, hs, hb⟩
  have HS3 := Lib.hid hs
  have HN3 := Lib.hid (hb.blk HN2.out (by have := HLT.out; omega))
  have HO3 := Lib.hid (HO2.out.trans hb.toN)
  clear hs hb HS2 HN2 HO2
  go_wp2_with fail
  refine (err_calls HS3.out).mono ?_
  rintro e w4 ⟨⟨er, wh, rfl, he⟩, hs, hb⟩
  have HS4 := Lib.hid hs
  have HN4 := Lib.hid (Blk.below HN3.out hb (Blk.lt HN3.out))
  have HO4 := Lib.hid (HO3.out.trans (Off.of_below hb))
  clear hs hb HS3 HN3 HO3
  unfold qidC3 at HQ
  generalize (getO 1 st).1 = v1 at *
  generalize (getO 4 (getO 1 st).2).1 = v2 at *
  generalize (getO 8 (getO 4 (getO 1 st).2).2).1 = v3 at *
  generalize (getO 8 (getO 4 (getO 1 st).2).2).2 = fst at *
  cases fst with
  | none =>
    have hne : ((er : Int) != 0) = true := by
      rw [bne_iff_ne]
      intro h0
      have h1 := he.1 (by omega)
      cases h1
    have HR := Lib.hid (show (qidO st).1 = zq ∧ (qidO st).2 = none from by rw [← HQ.out]; exact ⟨rfl, rfl⟩)
    clear he HQ
    have k0 : w4.cell? ⟨z, 0, none⟩ = some (.int .u8 0) := HN4.out.cell 0
    have k1 : w4.cell? ⟨z, 1, none⟩ = some (.int .u32 0) := HN4.out.cell 1
    have k2 : w4.cell? ⟨z, 2, none⟩ = some (.int .u64 0) := HN4.out.cell 2
    have f0 : w4.frozen? ⟨z, 0, none⟩ = false := HN4.out.frozen 0
    have f1 : w4.frozen? ⟨z, 1, none⟩ = false := HN4.out.frozen 1
    have f2 : w4.frozen? ⟨z, 2, none⟩ = false := HN4.out.frozen 2
    have hso := fun (S : Nat → Prop) (hS : S z) => (((Off.refl S w4).setCell (p := ⟨z, 0, none⟩) hS (.int .u8 0)).setCell (p := ⟨z, 1, none⟩) hS (.int .u32 0)).setCell (p := ⟨z, 2, none⟩) hS (.int .u64 0)
    have HN5 := Lib.hid (show Blk (((w4.setCell ⟨z, 0, none⟩ (.int .u8 0)).setCell ⟨z, 1, none⟩ (.int .u32 0)).setCell ⟨z, 2, none⟩ (.int .u64 0)) z 37 #[.int .u8 0, .int .u32 0, .int .u64 0] from ((HN4.out.set_ 0 (.int .u8 0)).set_ 1 (.int .u32 0)).set_ 2 (.int .u64 0))
    have HO5 := Lib.hid (HO4.out.trans (hso (fun i => i = p ∨ z ≤ i) (.inr (Nat.le_refl _))))
    have HS5 := Lib.hid (HS4.out.off (hso (fun i => i = z) rfl) (by have := HLT.out; omega) (blk_noU8 HN4.out (by decide)))
    clear hso
    go_wp2_with fail
    clear k0 k1 k2 f0 f1 f2
    generalize ((w4.setCell ⟨z, 0, none⟩ (.int .u8 0)).setCell ⟨z, 1, none⟩ (.int .u32 0)).setCell ⟨z, 2, none⟩ (.int .u64 0) = w5 at HN5 HO5 HS5 ⊢
    refine bodyPost_ret (results_row (l := [.int .u8 0, .int .u32 0, .int .u64 0]) rfl Tryz.underlying37 rfl qid_size rfl HN5.out) rfl ⟨?_, ?_, HO5.out.toR (by have := HZ.out; omega)⟩
    · rw [HR.out.1]; try rfl
    · rw [HR.out.2]
      exact HS5.out
  | some r =>
    have hne : ((er : Int) != 0) = false := by
      rw [he.2 rfl]
      rfl
    have HR := Lib.hid (show (qidO st).1 = ⟨v1, v2, v3⟩ ∧ (qidO st).2 = some r from by rw [← HQ.out]; exact ⟨rfl, rfl⟩)
    clear he HQ
    have k0 : w4.cell? ⟨z, 0, none⟩ = some (.int .u8 0) := HN4.out.cell 0
    have k1 : w4.cell? ⟨z, 1, none⟩ = some (.int .u32 0) := HN4.out.cell 1
    have k2 : w4.cell? ⟨z, 2, none⟩ = some (.int .u64 0) := HN4.out.cell 2
    have f0 : w4.frozen? ⟨z, 0, none⟩ = false := HN4.out.frozen 0
    have f1 : w4.frozen? ⟨z, 1, none⟩ = false := HN4.out.frozen 1
    have f2 : w4.frozen? ⟨z, 2, none⟩ = false := HN4.out.frozen 2
    have hso := fun (S : Nat → Prop) (hS : S z) => (((Off.refl S w4).setCell (p := ⟨z, 0, none⟩) hS (.int .u8 (v1 : Int))).setCell (p := ⟨z, 1, none⟩) hS (.int .u32 (v2 : Int))).setCell (p := ⟨z, 2, none⟩) hS (.int .u64 (v3 : Int))
    have HN5 := Lib.hid (show Blk (((w4.setCell ⟨z, 0, none⟩ (.int .u8 (v1 : Int))).setCell ⟨z, 1, none⟩ (.int .u32 (v2 : Int))).setCell ⟨z, 2, none⟩ (.int .u64 (v3 : Int))) z 37 #[.int .u8 (v1 : Int), .int .u32 (v2 : Int), .int .u64 (v3 : Int)] from ((HN4.out.set_ 0 (.int .u8 (v1 : Int))).set_ 1 (.int .u32 (v2 : Int))).set_ 2 (.int .u64 (v3 : Int)))
    have HO5 := Lib.hid (HO4.out.trans (hso (fun i => i = p ∨ z ≤ i) (.inr (Nat.le_refl _))))
    have HS5 := Lib.hid (HS4.out.off (hso (fun i => i = z) rfl) (by have := HLT.out; omega) (blk_noU8 HN4.out (by decide)))
    clear hso
    go_wp2_with fail
    clear k0 k1 k2 f0 f1 f2
    generalize ((w4.setCell ⟨z, 0, none⟩ (.int .u8 (v1 : Int))).setCell ⟨z, 1, none⟩ (.int .u32 (v2 : Int))).setCell ⟨z, 2, none⟩ (.int .u64 (v3 : Int)) = w5 at HN5 HO5 HS5 ⊢
    refine bodyPost_ret (results_row (l := [.int .u8 (v1 : Int), .int .u32 (v2 : Int), .int .u64 (v3 : Int)]) rfl Tryz.underlying37 rfl qid_size rfl HN5.out) rfl ⟨?_, ?_, HO5.out.toR (by have := HZ.out; omega)⟩
    · rw [HR.out.1]; try rfl
    · rw [HR.out.2]
      exact HS5.out
end Go.Proofs.YtkblmloobkiloaaGreatDoor
