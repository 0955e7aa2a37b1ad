/-
  ADoB ADoC: what AuthDoes needs of them.
-/
import Derived.Test.YtlenlldiimohjaaGreatDoorQ11
import Derived.Test.YtlenlldiimohjaaGreatDoorQ15
import Derived.Lib.MinMax
namespace Go.Proofs.YtlenlldiimohjaaGreatDoor
open Go.RowKit SumLaw

/-- A step of a script. -/
structure OpD where
  kind : Int
  at_ : Int
  n : Int
  key : ByteArray
  user : ByteArray
  tree : ByteArray
  seed : Nat
  l : List Int
  m : List Int
  b : List UInt8
  c : List UInt8
instance : Inhabited OpD := ⟨⟨0, 0, 0, ⟨#[]⟩, ⟨#[]⟩, ⟨#[]⟩, 0, [], [], [], []⟩⟩
/-- Its four lists' values. -/
structure OpV where
  l : Value
  m : Value
  b : Value
  c : Value
abbrev opL (o : OpD) (v : OpV) : List Value := [.int .i64 o.kind, .int .i64 o.at_, .int .i64 o.n, .string o.key, .string o.user, .string o.tree, .int .u64 (o.seed : Int), v.l, v.m, v.b, v.c]
abbrev opV (o : OpD) (v : OpV) : Value := .agg #[.int .i64 o.kind, .int .i64 o.at_, .int .i64 o.n, .string o.key, .string o.user, .string o.tree, .int .u64 (o.seed : Int), v.l, v.m, v.b, v.c]
def OBlk (w : World) (q : Nat) (o : OpD) (v : OpV) : Prop := Blk w q 92 (opL o v).toArray
theorem op_size : (Tryz.prog.info? 92).map (·.size) = some 11 := by kernel_rfl
def OpD.weight (o : OpD) : Nat := 100 + o.key.size + o.user.size + o.tree.size + 8 * o.l.length + 8 * o.m.length + o.b.length + o.c.length
/-- A step's lists are read below B; its numbers are what numbers can be. -/
def OpOk (w : World) (B : Nat) (o : OpD) (v : OpV) : Prop := UInts w B v.l o.l ∧ UInts w B v.m o.m ∧ Bys w B v.b o.b ∧ Bys w B v.c o.c ∧ (-9223372036854775808 ≤ o.at_ ∧ o.at_ ≤ 9223372036854775807) ∧ (-9223372036854775808 ≤ o.n ∧ o.n ≤ 9223372036854775807) ∧ o.seed < 18446744073709551616
/-- What a number of steps may be. -/
def OpSm (o : OpD) : Prop := o.weight ≤ 9007199254740992
theorem OpOk.below {w w' : World} {B : Nat} {o : OpD} {v : OpV} (h : OpOk w B o v) (hb : Below B w w') : OpOk w' B o v := ⟨h.1.below hb, h.2.1.below hb, h.2.2.1.below hb, h.2.2.2.1.below hb, h.2.2.2.2⟩
theorem OpOk.more {w : World} {B B' : Nat} {o : OpD} {v : OpV} (h : OpOk w B o v) (hB : B ≤ B') : OpOk w B' o v := ⟨h.1.more hB, h.2.1.more hB, h.2.2.1.more hB, h.2.2.2.1.more hB, h.2.2.2.2⟩
/-- The script. -/
def Ops (w : World) (B : Nat) (v : Value) (xs : List OpD) : Prop := ∃ A cap, v = .slice A xs.length cap ∧ xs.length ≤ cap ∧ cap ≤ maxLen ∧
  ∀ i o, xs[i]? = some o → ∃ a ov, A = some a ∧ a.block < B ∧ (∀ j u, (opL o ov)[j]? = some u → w.cell? (a.add (i * 11 + j)) = some u) ∧ OpOk w B o ov ∧ OpSm o
theorem Ops.below {w w' : World} {B : Nat} {v : Value} {xs : List OpD} (h : Ops w B v xs) (hb : Below B w w') : Ops w' B v xs := by
  obtain ⟨A, cap, e, h1, h2, h3⟩ := h
  refine ⟨A, cap, e, h1, h2, fun i o ho => ?_⟩
  obtain ⟨a, ov, hA, hlt, hc, hk, hs⟩ := h3 i o ho
  exact ⟨a, ov, hA, hlt, fun j u hu => (hb.cell (by rw [block_of_add]; exact hlt)).trans (hc j u hu), hk.below hb, hs⟩
theorem OpOk.ones {w : World} {B : Nat} {o : OpD} {v : OpV} (h : OpOk w B o v) : (opL o v).toArray.all (·.oneCell') = true := by
  obtain ⟨⟨A1, c1, e1, -⟩, ⟨A2, c2, e2, -⟩, h3, h4, -⟩ := h
  rw [← Array.all_toList]
  show List.all (opL o v) (·.oneCell') = true
  simp only [opL, List.all_cons, List.all_nil, e1, e2, h3.one, h4.one]
  rfl
theorem over_op (o p : OpD) (v u : OpV) : over (opL o v).toArray 0 (opL p u) = (opL p u).toArray := by kernel_rfl
section
variable {ops : Array Oper} {rest : List Oper} {op : Oper} {a : Act} {w w' : World} {Q : Exit → Act → World → Prop} {q : Nat} {o : OpD} {v : OpV}
theorem OBlk.below (h : OBlk w q o v) (hb : Below w.heap.size w w') : OBlk w' q o v := Blk.below h hb (Blk.lt h)
theorem wstO {p : OpD} {u : OpV} (hk : OBlk w q p u) (o : OpD) (v : OpV) (h1 : (opL o v).toArray.all (·.oneCell') = true) (hgd : op.guard = none) (x y : Operand) (ho : op.op = .store 92 x y) (hx : a.eval x = .pointer (some ⟨q, 0, none⟩)) (hy : a.eval y = opV o v)
    (h : ∀ w' : World, OBlk w' q o v → (∀ i, i ≠ q → w'.heap[i]? = w.heap[i]?) → (∀ B (x : World), Below B x w → B ≤ q → Below B x w') → wpList Tryz.prog ops Q rest (a.put op.dst undef) w') : wpList Tryz.prog ops Q (op :: rest) a w :=
  wstK hk 0 (opL o v) _ (over_op p o u v) (Nat.le_refl 11) h1 hgd _ x y ho hx hy op_size h
theorem wOat {ad : Addr} {i : Nat} (hat : ∀ j u, (opL o v)[j]? = some u → w.cell? (ad.add (i * 11 + j)) = some u) (hgd : op.guard = none) (x : Operand) (ho : op.op = .load 92 x) (hx : a.eval x = .pointer (some (ad.add (i * 11))))
    (h : wpList Tryz.prog ops Q rest (a.put op.dst (opV o v)) w) : wpList Tryz.prog ops Q (op :: rest) a w :=
  wpList_plain hgd fun K hK => by
    have hl : (loadCells (ad.add (i * 11)) 11).run Tryz.prog w = .ok (opL o v).toArray w :=
      run_loadCells_list (P := Tryz.prog) w (ad.add (i * 11)) (opL o v) (fun j u hu => by
        rw [add_of_add]
        exact hat j u hu)
    have hv : (loadVar 92 (ad.add (i * 11))).run Tryz.prog w = .ok (.agg (opL o v).toArray) w := by
      have hagg : (isAgg 92).run Tryz.prog w = .ok true w := by
        unfold isAgg
        rw [Sem.run_bind, run_underlying Tryz.underlying92 w]
        simp
      cases hq : Tryz.prog.info? 92 with
      | none =>
        have h3 := op_size
        rw [hq] at h3
        cases h3
      | some i =>
        have hs : i.size = 11 := by
          have h3 := op_size
          rw [hq] at h3
          exact Option.some.inj h3
        simp [loadVar, Sem.run_bind, hagg, sizeOf, typeInfo, hq, hs, hl]
    unfold Oper.wp execOp
    simp only [ho, hx, Instr.loadAt, Instr.sureAddr, Sem.run_bind, Sem.run_pure, Result.andThen_ok, hv]
    exact hK _ _ h
end
def opZ : OpD := default
def opZV : OpV := ⟨.slice none 0 0, .slice none 0 0, .slice none 0 0, .slice none 0 0⟩
/-- How many bytes the steps have. -/
def wsum (xs : List OpD) : Nat := (xs.map OpD.weight).sum
theorem wsum_take (xs : List OpD) (k : Nat) (o : OpD) (h : xs[k]? = some o) : wsum (xs.take (k + 1)) = wsum (xs.take k) + o.weight := by
  unfold wsum
  rw [List.take_add_one, h]
  simp
theorem wsum_mem : ∀ xs : List OpD, ∀ o ∈ xs, o.weight ≤ wsum xs
  | x :: xs, o, ho => by
    have hc : wsum (x :: xs) = x.weight + wsum xs := by
      unfold wsum
      rw [List.map_cons, List.sum_cons]
    rw [hc]
    rcases List.mem_cons.1 ho with rfl | ho
    · exact Nat.le_add_right _ _
    · exact Nat.le_trans (wsum_mem xs o ho) (Nat.le_add_left _ _)
theorem wsum_len : ∀ xs : List OpD, 100 * xs.length ≤ wsum xs
  | [] => Nat.le_refl _
  | o :: xs => by
    have := wsum_len xs
    unfold wsum at this ⊢
    rw [List.map_cons, List.sum_cons, List.length_cons]
    unfold OpD.weight at *
    omega
def BeyondE (n : Nat) (e : Ending) : Prop := ∃ r, e = .returned (.bool r) ∧ (r = false → n ≤ 268435456)
set_option maxRecDepth 100000 in
set_option maxHeartbeats 6400000 in
theorem beyond_calls (text : ByteArray) (v : Value) (xs : List OpD) (w : World) (h : Ops w w.heap.size v xs) (ht : text.size ≤ 9007199254740992) :
    Calls Tryz.prog 24 #[.string text, v] w fun e w' => BeyondE (text.size + wsum xs) e ∧ Below w.heap.size w w' := by
  obtain ⟨A, cap, rfl, hlc, hcm, hx⟩ := h
  unfold maxLen at hcm
  have HX := Lib.hid hx
  clear hx
  go_enter Tryz.func24, Tryz.ntmps24
  go_wp2_with fail
  go_loopw [5, 6] (fun n i wr => ∃ k : Nat, k ≤ xs.length ∧ i = .int .i64 (k : Int) ∧ n = .int .i64 ((text.size + wsum (xs.take k) : Nat) : Int) ∧ text.size + wsum (xs.take k) ≤ 18014398777917440 ∧ Below w.heap.size w wr) (fun _ i _ => xs.length - (intOf i).toNat)
  case atStart => exact ⟨0, Nat.zero_le _, rfl, by simp [wsum], by simp [wsum]; omega, Below.refl _ _⟩
  case round =>
    obtain ⟨k, hk, rfl, rfl, hle, hlo⟩ := hrel
    have HLO := Lib.hid hlo
    clear hlo
    obtain ⟨n, hn⟩ : ∃ n, text.size + wsum (xs.take k) = n := ⟨_, rfl⟩
    rw [hn] at hle ⊢
    have HN := Lib.hid hn
    clear hn
    by_cases hlt : k < xs.length
    · have hlt' : (k : Int) < (xs.length : Int) := by omega
      by_cases hb : n ≤ 268435456
      · have hb' : (n : Int) ≤ 268435456 := by omega
        obtain ⟨o, ho⟩ : ∃ o, xs[k]? = some o := ⟨_, List.getElem?_eq_getElem hlt⟩
        obtain ⟨a, ov, rfl, hblk, hc, hok, hsm⟩ := HX.out k o ho
        have HC := Lib.hid (show ∀ j u, (opL o ov)[j]? = some u → wr.cell? (a.add (k * 11 + j)) = some u from fun j u hu => (HLO.out.cell (by rw [block_of_add]; exact hblk)).trans (hc j u hu))
        have HONE := Lib.hid hok.ones
        obtain ⟨⟨Al, cl, el, -⟩, ⟨Am, cm, em, -⟩, ⟨Ab, cb, eb, -⟩, ⟨Ac, cc, ec, -⟩, -⟩ := hok
        have HWT := Lib.hid (wsum_take xs k o ho)
        have HSM := Lib.hid hsm
        obtain ⟨vl, vm, vb, vc⟩ := ov
        dsimp only at el em eb ec
        subst el em eb ec
        clear hc ho hsm
        go_upto_region 6 with (first
          | (refine wOat HC.out rfl _ rfl rfl ?_)
          | (refine wstO (p := opZ) (u := opZV) (show OBlk _ wr.heap.size opZ opZV from Blk.new wr _ _) o ⟨.slice Al o.l.length cl, .slice Am o.m.length cm, .slice Ab o.b.length cb, .slice Ac o.c.length cc⟩ HONE.out rfl _ _ rfl rfl rfl ?_; intro w4 hs ho hbl; have HO4 := Lib.hid hs; have HB4 := Lib.hid (hbl _ _ (HLO.out.alloc HLO.out.size _) HLO.out.size); clear hs ho hbl))
        have k3 : w4.cell? ⟨wr.heap.size, 3, none⟩ = some (.string o.key) := Blk.cell HO4.out 3
        have k4 : w4.cell? ⟨wr.heap.size, 4, none⟩ = some (.string o.user) := Blk.cell HO4.out 4
        have k5 : w4.cell? ⟨wr.heap.size, 5, none⟩ = some (.string o.tree) := Blk.cell HO4.out 5
        have k7 : w4.cell? ⟨wr.heap.size, 7, none⟩ = some (.slice Al o.l.length cl) := Blk.cell HO4.out 7
        have k8 : w4.cell? ⟨wr.heap.size, 8, none⟩ = some (.slice Am o.m.length cm) := Blk.cell HO4.out 8
        have k9 : w4.cell? ⟨wr.heap.size, 9, none⟩ = some (.slice Ab o.b.length cb) := Blk.cell HO4.out 9
        have k10 : w4.cell? ⟨wr.heap.size, 10, none⟩ = some (.slice Ac o.c.length cc) := Blk.cell HO4.out 10
        have hw : 100 + o.key.size + o.user.size + o.tree.size + 8 * o.l.length + 8 * o.m.length + o.b.length + o.c.length ≤ 9007199254740992 := HSM.out
        have HWN := Lib.hid (show text.size + wsum (xs.take (k + 1)) = n + (100 + o.key.size + o.user.size + o.tree.size + 8 * o.l.length + 8 * o.m.length + o.b.length + o.c.length) from by
          rw [HWT.out, ← Nat.add_assoc, HN.out]
          rfl)
        go_wp2_with fail
        go_roundw
        case rel => exact ⟨k + 1, by omega, by go_num, congrArg (Value.int .i64) (by have := HWN.out; omega), by have := HWN.out; omega, HB4.out⟩
        case measure => simp [intOf]; omega
      · have hb' : ¬ (n : Int) ≤ 268435456 := by omega
        have hb2 : (268435456 : Int) < (n : Int) := by omega
        go_wp2_with fail
        go_ret
        exact ⟨⟨true, rfl, fun hh => by cases hh⟩, HLO.out⟩
    · have hlt' : ¬ (k : Int) < (xs.length : Int) := by omega
      have hke : xs.take k = xs := List.take_of_length_le (by omega)
      rw [hke] at HN
      have HNN := Lib.hid HN.out
      clear hke
      by_cases hb : n ≤ 268435456
      · have hb' : ¬ (268435456 : Int) < (n : Int) := by omega
        have HE := Lib.hid (show text.size + wsum xs ≤ 268435456 from by rw [HNN.out]; exact hb)
        go_wp2_with fail
        go_ret
        exact ⟨⟨false, rfl, fun _ => HE.out⟩, HLO.out⟩
      · have hb' : (268435456 : Int) < (n : Int) := by omega
        go_wp2_with fail
        go_ret
        exact ⟨⟨true, rfl, fun hh => by cases hh⟩, HLO.out⟩
end Go.Proofs.YtlenlldiimohjaaGreatDoor
namespace Go.Proofs.YtlenlldiimohjaaGreatDoor
open Go.RowKit SumLaw

theorem ext_size (S : ByteArray) (f e : Nat) (he : e ≤ S.size) (hf : f ≤ e) : (S.extract f e).size = e - f := (ext_eq S f e he hf).2
def RightE (w : World) (e : Ending) (w' : World) : Prop := ∃ v r, e = .returned v ∧ OwnB w' w.heap.size v r ∧ r.length ≤ 33
set_option maxRecDepth 100000 in
set_option maxHeartbeats 6400000 in
theorem lright_calls (g : Nat) (L : List Acct) (t : Tk) (hv : Value) (l : List UInt8) (seed : Nat) (most : Int) (w : World) (hp : RTab w g L) (h : Bys w w.heap.size hv l) (hl : l.length ≤ 33) (hs : seed < 18446744073709551616)
    (hu : t.user.size ≤ 268435456) (ht : t.tree.size ≤ 268435456) (hk : (keyOfUser L t.user).size ≤ 32) (hm : -9223372036854775808 ≤ most ∧ most ≤ 9223372036854775807) :
    Calls Tryz.prog 90 #[.pointer (some ⟨g, 0, none⟩), talkV t hv, .int .u64 (seed : Int), .int .i64 most] w fun e w' => RightE w e w' ∧ Below w.heap.size w w' := by
  have HH := Lib.hid h
  obtain ⟨A, cap, rfl, hlc, hcm, -⟩ := h
  have HP0 := Lib.hid hp
  have HSD := Lib.hid hs
  have HU := Lib.hid (show t.user.size ≤ maxLen from by unfold maxLen; omega)
  have HTR := Lib.hid (show t.tree.size ≤ maxLen from by unfold maxLen; omega)
  have HKM := Lib.hid (show (keyOfUser L t.user).size ≤ maxLen from by unfold maxLen; omega)
  clear hp hs hu ht hk
  have HB := Lib.hid ((Below.refl w.heap.size w).alloc (Nat.le_refl _) (Obj.cells (talkL t (.slice A l.length cap)).toArray 54))
  have HT := Lib.hid (show TBlk (w.alloc (Obj.cells (talkL t (.slice A l.length cap)).toArray 54)) w.heap.size t (.slice A l.length cap) from Blk.new w _ _)
  obtain ⟨kk, hkk⟩ : ∃ z, keyOfUser L t.user = z := ⟨_, rfl⟩
  rw [hkk] at HKM
  have HKK := Lib.hid hkk
  obtain ⟨X, hX⟩ : ∃ z, lineS kk t.user t.tree t.ours seed = z := ⟨_, rfl⟩
  have hxs : X.size = 33 := by rw [← hX]; exact lineS_size _ _ _ _ _
  have HXX := Lib.hid hX
  have HXS := Lib.hid hxs
  clear hkk hX hxs
  go_enter Tryz.func90, Tryz.ntmps90
  go_upto_region 1 with (fail)
  change Code.wp _ _ _ _ (w.alloc (Obj.cells (talkL t (.slice A l.length cap)).toArray 54))
  generalize w.alloc (Obj.cells (talkL t (.slice A l.length cap)).toArray 54) = w1 at HB HT ⊢
  have k0 : w1.cell? ⟨w.heap.size, 0, none⟩ = some (.string t.user) := Blk.cell HT.out 0
  have k1 : w1.cell? ⟨w.heap.size, 1, none⟩ = some (.string t.tree) := Blk.cell HT.out 1
  have k2 : w1.cell? ⟨w.heap.size, 2, none⟩ = some (.int .u64 t.ours) := Blk.cell HT.out 2
  have HPR := Lib.hid (HP0.out.below HB.out)
  go_upto_region 3 with (first
    | (go_at_call 52; (with_reducible refine (refUserKey_calls g L t.user _ HPR.out).mono ?_); rw [HKK.out]; rintro e w8 ⟨rfl, rfl⟩)
    | (go_at_call 15; (with_reducible refine (authLine_calls kk t.user t.tree t.ours seed HSD.out _ HKM.out HU.out HTR.out).mono ?_); rw [HXX.out]; rintro e w8 ⟨rfl, hb⟩; have HT8 := Lib.hid (HT.out.below hb); have HB8 := Lib.hid (HB.out.trans (hb.mono HB.out.size)); clear hb))
  clear k0 k1 k2 HT HB
  have k6 : w8.cell? ⟨w.heap.size, 6, none⟩ = some (.slice A l.length cap) := Blk.cell HT8.out 6
  unfold maxLen at hcm
  by_cases h16 : 16 < l.length
  · have h16' : (16 : Int) < (l.length : Int) := by omega
    go_upto_region 4 with (fail)
    clear k6
    refine wp_region_held_drew (S := fun wx => Below w8.heap.size w8 wx) (by kernel_rfl) (below_drew w8) (fun hHeld => ?_)
    generalize w8.drew = wd at hHeld ⊢
    have hc16 : 16 ≤ cap := by omega
    have hc16' : (16 : Int) ≤ (cap : Int) := by omega
    have hxs : X.size = 33 := HXS.out
    have h17 : (X.extract 16 33).size = 17 := ext_size X 16 33 (by omega) (by omega)
    have h18 : (ofL (l.take 16)).size = 16 := by
      show (l.take 16).toArray.size = 16
      rw [List.size_toArray, List.length_take]
      omega
    refine wpAnyH_takeD 29 (i := 0) (v := .pointer (some ⟨w.heap.size, 6, none⟩)) rfl rfl (by kernel_rfl) (by kernel_rfl) (by kernel_rfl) (fun _ _ _ h => h) (Or.inl ⟨by rfl, fun wq hSw => by go_simp⟩) (by assumption) ?_
    simp only [Act.put, List.setIfInBounds_toArray, List.set_cons_zero, List.set_cons_succ]
    refine wpAnyH_takeD 30 (i := 1) (v := .slice A l.length cap) rfl rfl (by kernel_rfl) (by kernel_rfl) (by kernel_rfl) (fun _ _ _ h => h) (Or.inl ⟨by rfl, fun wq hSw => by have k := (Blk.cell (HT8.out.below hSw) 6 : wq.cell? ⟨w.heap.size, 6, none⟩ = some (.slice A l.length cap)); go_simp⟩) (by assumption) ?_
    simp only [Act.put, List.setIfInBounds_toArray, List.set_cons_zero, List.set_cons_succ]
    refine wpAnyH_takeD 31 (i := 2) (v := .slice A 16 cap) rfl rfl (by kernel_rfl) (by kernel_rfl) (by kernel_rfl) (fun _ _ _ h => h) (Or.inl ⟨by rfl, fun wq hSw => by go_simp⟩) (by assumption) ?_
    simp only [Act.put, List.setIfInBounds_toArray, List.set_cons_zero, List.set_cons_succ]
    refine wpAnyH_takeD 32 (i := 3) (v := .string (ofL (l.take 16))) rfl rfl (by kernel_rfl) (by kernel_rfl) (by kernel_rfl) (fun _ _ _ h => h) (Or.inl ⟨by rfl, fun wq hSw => by have k := conv_any (Bys.take_ ((HH.out.below HB8.out).below (hSw.mono HB8.out.size)) (show 16 ≤ l.length by omega)); go_simp⟩) (by assumption) ?_
    simp only [Act.put, List.setIfInBounds_toArray, List.set_cons_zero, List.set_cons_succ]
    refine wpAnyH_takeD 33 (i := 4) (v := .string X) rfl rfl (by kernel_rfl) (by kernel_rfl) (by kernel_rfl) (fun _ _ _ h => h) (Or.inl ⟨by rfl, fun wq hSw => by go_simp⟩) (by assumption) ?_
    simp only [Act.put, List.setIfInBounds_toArray, List.set_cons_zero, List.set_cons_succ]
    refine wpAnyH_takeD 34 (i := 5) (v := .string (X.extract 16 33)) rfl rfl (by kernel_rfl) (by kernel_rfl) (by kernel_rfl) (fun _ _ _ h => h) (Or.inl ⟨by rfl, fun wq hSw => by go_simp⟩) (by assumption) ?_
    simp only [Act.put, List.setIfInBounds_toArray, List.set_cons_zero, List.set_cons_succ]
    refine wpAnyH_takeD 35 (i := 6) (v := .string (ofL (l.take 16) ++ X.extract 16 33)) rfl rfl (by kernel_rfl) (by kernel_rfl) (by kernel_rfl) (fun _ _ _ h => h) (Or.inl ⟨by rfl, fun wq hSw => by go_simp⟩) (by assumption) ?_
    simp only [Act.put, List.setIfInBounds_toArray, List.set_cons_zero, List.set_cons_succ]
    refine wpAnyH_takeD 10 (i := 7) (v := .string (ofL (l.take 16) ++ X.extract 16 33)) rfl rfl (by kernel_rfl) (by kernel_rfl) (by kernel_rfl) (fun _ _ _ h => h) (Or.inl ⟨by rfl, fun wq hSw => by go_simp⟩) (by assumption) ?_
    simp only [Act.put, List.setIfInBounds_toArray, List.set_cons_zero, List.set_cons_succ]
    refine wpAnyH_done (by kernel_rfl) ?_ _
    have HYS := Lib.hid (show (ofL (l.take 16) ++ X.extract 16 33).size = 33 from by rw [ByteArray.size_append, h17, h18])
    have HTZ := Lib.hid (HT8.out.below hHeld)
    have HBZ := Lib.hid (HB8.out.trans (hHeld.mono HB8.out.size))
    clear h17 h18 hxs h16 h16' hHeld
    generalize ofL (l.take 16) ++ X.extract 16 33 = Y at HYS ⊢
    obtain ⟨wz, rfl⟩ : ∃ z, z = wd := ⟨_, rfl⟩
    have k6 : wz.cell? ⟨w.heap.size, 6, none⟩ = some (.slice A l.length cap) := Blk.cell HTZ.out 6
    have hys : (Y.size : Int) = 33 := by have := HYS.out; omega
    have hmin : min (l.length : Int) 33 = (l.length : Int) := by omega
    have hl33 : (l.length : Int) ≤ 33 := by omega
    go_upto_region 6 with (fail)
    clear k6 hmin hys
    obtain ⟨R, hR⟩ : ∃ z, Y.extract l.length 33 = z := ⟨_, rfl⟩
    have hrs : R.size = 33 - l.length := by rw [← hR]; exact ext_size Y _ 33 (by rw [HYS.out]; exact Nat.le_refl _) hl
    have HYE := Lib.hid (show Y.extract l.length Y.size = R from by rw [HYS.out]; exact hR)
    rw [HYE.out]
    clear hR
    have hrl : R.size ≤ 33 := by omega
    clear hrs
    by_cases hm0 : 0 ≤ most
    · by_cases hm1 : most < (R.size : Int)
      · have hm2 : most.toNat ≤ R.size := by omega
        have hm3 : most ≤ (R.size : Int) := by omega
        have hx33 : (R.extract 0 most.toNat).size ≤ 33 := by rw [ext_size R 0 most.toNat hm2 (Nat.zero_le _)]; omega
        obtain ⟨bc, w5, hconv, hcb, hbb, hgt⟩ := bytes_own (R.extract 0 most.toNat) wz (by unfold maxLen; omega)
        obtain ⟨xs, hxz⟩ : ∃ n, (R.extract 0 most.toNat).size = n := ⟨_, rfl⟩
        rw [hxz] at hconv hcb
        clear hxz
        have HB5 := Lib.hid (HBZ.out.trans (hbb.mono HBZ.out.size))
        have HLN := Lib.hid (show ((R.extract 0 most.toNat)).data.toList.length ≤ 33 from by rw [Array.length_toList]; exact hx33)
        have HBV := Lib.hid (hcb.more HBZ.out.size)
        clear hcb hbb hgt
        go_wp2_with fail
        go_ret
        exact ⟨⟨_, _, rfl, HBV.out, HLN.out⟩, HB5.out⟩
      · have hx33 : R.size ≤ 33 := by omega
        obtain ⟨bc, w5, hconv, hcb, hbb, hgt⟩ := bytes_own R wz (by unfold maxLen; omega)
        obtain ⟨xs, hxz⟩ : ∃ n, R.size = n := ⟨_, rfl⟩
        rw [hxz] at hconv hcb
        clear hxz
        have HB5 := Lib.hid (HBZ.out.trans (hbb.mono HBZ.out.size))
        have HLN := Lib.hid (show (R).data.toList.length ≤ 33 from by rw [Array.length_toList]; exact hx33)
        have HBV := Lib.hid (hcb.more HBZ.out.size)
        clear hcb hbb hgt
        go_wp2_with fail
        go_ret
        exact ⟨⟨_, _, rfl, HBV.out, HLN.out⟩, HB5.out⟩
    · have hx33 : R.size ≤ 33 := by omega
      obtain ⟨bc, w5, hconv, hcb, hbb, hgt⟩ := bytes_own R wz (by unfold maxLen; omega)
      obtain ⟨xs, hxz⟩ : ∃ n, R.size = n := ⟨_, rfl⟩
      rw [hxz] at hconv hcb
      clear hxz
      have HB5 := Lib.hid (HBZ.out.trans (hbb.mono HBZ.out.size))
      have HLN := Lib.hid (show (R).data.toList.length ≤ 33 from by rw [Array.length_toList]; exact hx33)
      have HBV := Lib.hid (hcb.more HBZ.out.size)
      clear hcb hbb hgt
      go_wp2_with fail
      go_ret
      exact ⟨⟨_, _, rfl, HBV.out, HLN.out⟩, HB5.out⟩
  · have h16' : ¬ (16 : Int) < (l.length : Int) := by omega
    go_upto_region 5 with (fail)
    clear k6
    have HYS := HXS
    have HTZ := HT8
    have HBZ := HB8
    obtain ⟨wz, rfl⟩ : ∃ z, z = w8 := ⟨_, rfl⟩
    obtain ⟨Y, rfl⟩ : ∃ z, z = X := ⟨_, rfl⟩
    have k6 : wz.cell? ⟨w.heap.size, 6, none⟩ = some (.slice A l.length cap) := Blk.cell HTZ.out 6
    have hys : (Y.size : Int) = 33 := by have := HYS.out; omega
    have hmin : min (l.length : Int) 33 = (l.length : Int) := by omega
    have hl33 : (l.length : Int) ≤ 33 := by omega
    go_upto_region 6 with (fail)
    clear k6 hmin hys
    obtain ⟨R, hR⟩ : ∃ z, Y.extract l.length 33 = z := ⟨_, rfl⟩
    have hrs : R.size = 33 - l.length := by rw [← hR]; exact ext_size Y _ 33 (by rw [HYS.out]; exact Nat.le_refl _) hl
    have HYE := Lib.hid (show Y.extract l.length Y.size = R from by rw [HYS.out]; exact hR)
    rw [HYE.out]
    clear hR
    have hrl : R.size ≤ 33 := by omega
    clear hrs
    by_cases hm0 : 0 ≤ most
    · by_cases hm1 : most < (R.size : Int)
      · have hm2 : most.toNat ≤ R.size := by omega
        have hm3 : most ≤ (R.size : Int) := by omega
        have hx33 : (R.extract 0 most.toNat).size ≤ 33 := by rw [ext_size R 0 most.toNat hm2 (Nat.zero_le _)]; omega
        obtain ⟨bc, w5, hconv, hcb, hbb, hgt⟩ := bytes_own (R.extract 0 most.toNat) wz (by unfold maxLen; omega)
        obtain ⟨xs, hxz⟩ : ∃ n, (R.extract 0 most.toNat).size = n := ⟨_, rfl⟩
        rw [hxz] at hconv hcb
        clear hxz
        have HB5 := Lib.hid (HBZ.out.trans (hbb.mono HBZ.out.size))
        have HLN := Lib.hid (show ((R.extract 0 most.toNat)).data.toList.length ≤ 33 from by rw [Array.length_toList]; exact hx33)
        have HBV := Lib.hid (hcb.more HBZ.out.size)
        clear hcb hbb hgt
        go_wp2_with fail
        go_ret
        exact ⟨⟨_, _, rfl, HBV.out, HLN.out⟩, HB5.out⟩
      · have hx33 : R.size ≤ 33 := by omega
        obtain ⟨bc, w5, hconv, hcb, hbb, hgt⟩ := bytes_own R wz (by unfold maxLen; omega)
        obtain ⟨xs, hxz⟩ : ∃ n, R.size = n := ⟨_, rfl⟩
        rw [hxz] at hconv hcb
        clear hxz
        have HB5 := Lib.hid (HBZ.out.trans (hbb.mono HBZ.out.size))
        have HLN := Lib.hid (show (R).data.toList.length ≤ 33 from by rw [Array.length_toList]; exact hx33)
        have HBV := Lib.hid (hcb.more HBZ.out.size)
        clear hcb hbb hgt
        go_wp2_with fail
        go_ret
        exact ⟨⟨_, _, rfl, HBV.out, HLN.out⟩, HB5.out⟩
    · have hx33 : R.size ≤ 33 := by omega
      obtain ⟨bc, w5, hconv, hcb, hbb, hgt⟩ := bytes_own R wz (by unfold maxLen; omega)
      obtain ⟨xs, hxz⟩ : ∃ n, R.size = n := ⟨_, rfl⟩
      rw [hxz] at hconv hcb
      clear hxz
      have HB5 := Lib.hid (HBZ.out.trans (hbb.mono HBZ.out.size))
      have HLN := Lib.hid (show (R).data.toList.length ≤ 33 from by rw [Array.length_toList]; exact hx33)
      have HBV := Lib.hid (hcb.more HBZ.out.size)
      clear hcb hbb hgt
      go_wp2_with fail
      go_ret
      exact ⟨⟨_, _, rfl, HBV.out, HLN.out⟩, HB5.out⟩
end Go.Proofs.YtlenlldiimohjaaGreatDoor
