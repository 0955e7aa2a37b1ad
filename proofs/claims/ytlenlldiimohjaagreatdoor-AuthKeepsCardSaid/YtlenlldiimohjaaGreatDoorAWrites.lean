
/-
  vergerlaw07.writes: bytes are told to a Talk, piece by piece. Conditions: TZ, SV.
-/
import Derived.Test.YtlenlldiimohjaaGreatDoorAReads
namespace Go.Proofs.YtlenlldiimohjaaGreatDoor
open Go.RowKit

/-- What writes answers. -/
structure Ws where
  t : Tk
  h : List UInt8
  ok : Bool
def writesF (L : List Acct) (cuts : List Int) : Nat → Nat → Tk → List UInt8 → List UInt8 → Ws
  | 0, _, t, l, b => ⟨t, l, decide (b = [])⟩
  | f + 1, n, t, l, b => if b = [] then ⟨t, l, true⟩ else
      if (writeS L t l (b.take (min (pieceS cuts n) b.length))).e ≠ 0 ∨ (writeS L t l (b.take (min (pieceS cuts n) b.length))).n ≠ ((min (pieceS cuts n) b.length : Nat) : Int) then ⟨t, l, false⟩
      else writesF L cuts f (n + 1) (writeS L t l (b.take (min (pieceS cuts n) b.length))).t (writeS L t l (b.take (min (pieceS cuts n) b.length))).h (b.drop (min (pieceS cuts n) b.length))
/-- Writing turns a Talk's step and its number alone; the bytes stay few. -/
theorem writeS_keeps (L : List Acct) (t : Tk) (l b : List UInt8) (h : (writeS L t l b).e = 0) : (writeS L t l b).h.length ≤ 33 ∧ (writeS L t l b).t.user = t.user ∧ (writeS L t l b).t.tree = t.tree ∧ (writeS L t l b).t.ours = t.ours := by
  unfold writeS heardS at h ⊢
  split at h
  · cases h
  · rename_i h1
    rw [if_neg h1]
    split at h
    · cases h
    · rename_i h2
      rw [if_neg h2]
      split at h
      · cases h
      · rename_i h3
        rw [if_neg h3]
        split
        · split <;> exact ⟨by simp, rfl, rfl, rfl⟩
        · exact ⟨by show (l ++ b).length ≤ 33; rw [List.length_append]; omega, rfl, rfl, rfl⟩
/-- Where writes stands. -/
def WL7 (w0 : World) (t : Tk) (hv : Value) (l : List UInt8) (w : World) : Prop := TBlk w w0.heap.size t hv ∧ TBlk w (w0.heap.size + 1) Tk.none (.slice none 0 0) ∧ Bys w w.heap.size hv l ∧ Below w0.heap.size w0 w
section
variable {w0 w w' : World} {t : Tk} {hv : Value} {l : List UInt8}
theorem WL7.next (h : WL7 w0 t hv l w) (hb : Below w.heap.size w w') : WL7 w0 t hv l w' := ⟨h.1.below hb, h.2.1.below hb, (h.2.2.1.below hb).more hb.size, h.2.2.2.trans (hb.mono h.2.2.2.size)⟩
theorem WL7.tb (h : WL7 w0 t hv l w) : TBlk w w0.heap.size t hv := h.1
theorem WL7.zb (h : WL7 w0 t hv l w) : TBlk w (w0.heap.size + 1) Tk.none (.slice none 0 0) := h.2.1
theorem WL7.hb (h : WL7 w0 t hv l w) : Bys w w.heap.size hv l := h.2.2.1
theorem WL7.low (h : WL7 w0 t hv l w) : Below w0.heap.size w0 w := h.2.2.2
variable {ops : Array Oper} {op : Oper} {a : Act}
theorem yWT7 (hw : Region.wanted op (yielded ops a.tmps) = true) (x : Operand) (ho : op.op = .load 54 x) (hx : a.eval x = .pointer (some ⟨w0.heap.size, 0, none⟩)) : YieldsIf Tryz.prog ops (WL7 w0 t hv l) op (talkV t hv) a :=
  yieldsIf_load_mid hw _ x ho _ _ hx (talkL t hv) _ (fun _ hS => Blk.range hS.1 0 _ rfl) Tryz.underlying54 rfl talk_size
end
theorem Bys.take_ {w : World} {B n cap k : Nat} {A : Option Addr} {l : List UInt8} (h : Bys w B (.slice A n cap) l) (hk : k ≤ l.length) : Bys w B (.slice A k cap) (l.take k) := by
  obtain ⟨A2, c, e, h1, h2, h3⟩ := h
  injection e with e1 e2 e3
  subst e1
  subst e3
  have hl : (l.take k).length = k := by rw [List.length_take]; omega
  refine ⟨A, cap, by rw [hl], by omega, h2, by simp, fun hn => ?_⟩
  rw [hl] at hn
  obtain ⟨ad, hA, hb, hc⟩ := h3.2 (by omega)
  refine ⟨ad, hA, hb, fun j u hu => hc j u ?_⟩
  rw [List.getElem?_map] at hu ⊢
  have hj : j < k := by
    rcases Nat.lt_or_ge j k with h | h
    · exact h
    · rw [List.getElem?_eq_none (by omega)] at hu
      cases hu
  rw [List.getElem?_take_of_lt hj] at hu
  exact hu
theorem Bys.drop_ {w : World} {B n cap k : Nat} {A : Option Addr} {l : List UInt8} (h : Bys w B (.slice A n cap) l) (hk : k ≤ l.length) : Bys w B (.slice (if cap = k then A else A.map (·.add k)) (n - k) (cap - k)) (l.drop k) := by
  obtain ⟨A2, c, e, h1, h2, h3⟩ := h
  injection e with e1 e2 e3
  subst e1
  subst e2
  subst e3
  have h4 := h3.cut (k := k) (cap := cap) hk h1
  rw [Nat.mul_one] at h4
  have hl : (l.drop k).length = l.length - k := List.length_drop
  refine ⟨_, cap - k, by rw [hl], by omega, by omega, ?_⟩
  rw [hl]
  have : byteL (l.drop k) = (byteL l).drop k := by simp [byteL]
  rw [this]
  exact h4
theorem results_writes {tmps : Array Value} {w : World} {q : Nat} {t : Tk} {hv : Value} {b : Bool} (h8 : tmps.getD 8 undef = .pointer (some ⟨q, 0, none⟩)) (h9 : tmps.getD 9 undef = .bool b) (hk : TBlk w q t hv) :
    (results Tryz.f22 tmps).run Tryz.prog w = .ok (.tuple #[talkV t hv, .bool b]) w := by
  have h8' : tmps[8]?.getD undef = .pointer (some ⟨q, 0, none⟩) := by simpa using h8
  have h9' : tmps[9]?.getD undef = .bool b := by simpa using h9
  simp [results, Tryz.results22, h8', h9', asAddr, loadVar_talk hk]
theorem Bys.lt_ {w : World} {B : Nat} {hv : Value} {l : List UInt8} (h : Bys w B hv l) (hl : l ≠ []) : ∀ k, hv.ownBlock = some k → k < B := by
  obtain ⟨A, cap, e, _, _, hr⟩ := h
  obtain ⟨ad, rfl, hb, _⟩ := hr.2 (List.length_pos_iff.2 hl)
  intro k hk
  rw [e] at hk
  injection hk with hk
  omega
/-- Bytes that lie off two blocks. -/
def Off2 (q : Nat) (hv : Value) (l : List UInt8) : Prop := l ≠ [] → hv.ownBlock ≠ some q ∧ hv.ownBlock ≠ some (q + 1)
theorem Bys.far3 {w w' : World} {B q : Nat} {hv : Value} {l : List UInt8} (h : Bys w B hv l) (hne : l ≠ [] → hv.ownBlock ≠ some q) (ho : ∀ i, i ≠ q → w'.heap[i]? = w.heap[i]?) : Bys w' B hv l := by
  by_cases hl : l = []
  · subst hl
    exact h.empty_
  · exact h.far (hne hl) ho
/-- A slice's length. -/
def slLen : Value → Nat
  | .slice _ n _ => n
  | _ => 0
set_option maxRecDepth 100000 in
set_option maxHeartbeats 6400000 in
theorem writes_calls (g : Nat) (L : List Acct) (t : Tk) (hv bv cv : Value) (cuts : List Int) (l b : List UInt8) (w : World) (hp : PTab w g L) (htz : TZ w) (hsv : SV w) (h : Bys w w.heap.size hv l) (hl : l.length ≤ 33) (hb : Bys w w.heap.size bv b) (hbl : b.length ≤ 1000) (hc : Cuts w w.heap.size cv cuts)
    (hu : t.user.size ≤ 268435456) (ht : t.tree.size ≤ 268435456) (hk : ∀ u, (keyOfUser L u).size ≤ 32) :
    Calls Tryz.prog 22 #[.pointer (some ⟨g, 0, none⟩), talkV t hv, bv, cv] w fun e w' => (∃ hu, e = .returned (.tuple #[talkV (writesF L cuts b.length 0 t l b).t hu, .bool (writesF L cuts b.length 0 t l b).ok]) ∧ Bys w' w'.heap.size hu (writesF L cuts b.length 0 t l b).h) ∧ Below w.heap.size w w' := by
  have HP0 := Lib.hid hp
  have HTZ := Lib.hid htz
  have HSV := Lib.hid hsv
  have HC := Lib.hid hc
  have HKZ := Lib.hid hk
  obtain ⟨R, hR⟩ : ∃ z, writesF L cuts b.length 0 t l b = z := ⟨_, rfl⟩
  rw [hR]
  have HR0 := Lib.hid hR
  have HUS := Lib.hid hu
  have HTS := Lib.hid ht
  have HBV := Lib.hid hb
  have HLL := Lib.hid hl
  have HWL := Lib.hid (show WL7 w t hv l ((w.alloc (Obj.cells (talkL t hv).toArray 54)).alloc (Obj.cells #[.string ⟨#[]⟩, .string ⟨#[]⟩, .int .u64 0, .int .u64 0, .int .u8 0, .int .i64 0, .slice none 0 0] 54)) from by
    have up : ∀ (W : World) (o : Obj), Below W.heap.size W (W.alloc o) := fun W o => (Below.refl _ _).alloc (Nat.le_refl _) o
    have hz := TBlk.zero (w.alloc (Obj.cells (talkL t hv).toArray 54))
    simp only [World.size_alloc] at hz
    exact ⟨Blk.alloc (Blk.new w _ (talkL t hv).toArray) _, hz, (((h.below (up _ _)).more (up _ _).size).below (up _ _)).more (up _ _).size, ((Below.refl _ _).alloc (Nat.le_refl _) _).alloc (by simp) _⟩)
  have HOF0 := Lib.hid (show Off2 w.heap.size hv l from fun hn => ⟨fun he => Nat.lt_irrefl _ (h.lt_ hn _ he), fun he => by have := h.lt_ hn _ he; omega⟩)
  clear hp htz hsv hc hk hR hu ht h hb hl
  go_enter Tryz.func22, Tryz.ntmps22
  go_upto_region 1 with (fail)
  change Code.wp _ _ _ _ ((w.alloc (Obj.cells (talkL t hv).toArray 54)).alloc (Obj.cells #[.string ⟨#[]⟩, .string ⟨#[]⟩, .int .u64 0, .int .u64 0, .int .u8 0, .int .i64 0, .slice none 0 0] 54))
  generalize (w.alloc (Obj.cells (talkL t hv).toArray 54)).alloc (Obj.cells #[.string ⟨#[]⟩, .string ⟨#[]⟩, .int .u64 0, .int .u64 0, .int .u8 0, .int .i64 0, .slice none 0 0] 54) = w1 at HWL ⊢
  go_wp2_with fail
  go_loopw [2, 10] (fun bw i wr => ∃ (n : Nat) (t2 : Tk) (h2 : Value) (l2 b2 : List UInt8) (f : Nat), i = .int .i64 (n : Int) ∧ n + b2.length ≤ 1000 ∧ Bys w w.heap.size bw b2 ∧ WL7 w t2 h2 l2 wr ∧ l2.length ≤ 33 ∧ t2.user = t.user ∧ t2.tree = t.tree ∧ b2.length ≤ f ∧ writesF L cuts f n t2 l2 b2 = R ∧ Off2 w.heap.size h2 l2) (fun bw _ _ => slLen bw)
  case atStart => exact ⟨0, t, hv, l, b, b.length, rfl, by omega, HBV.out, HWL.out, HLL.out, rfl, rfl, Nat.le_refl _, HR0.out, HOF0.out⟩
  case round =>
    obtain ⟨n, t2, h2, l2, b2, f, rfl, hnb, hb2, hwl, hl2, e1, e2, hbf, hww, hof⟩ := hrel
    have HOF := Lib.hid hof
    clear hof
    clear HWL HBV HLL
    have HWL := Lib.hid hwl
    have HWW := Lib.hid hww
    have HE := Lib.hid (And.intro e1 e2)
    have HB2 := Lib.hid hb2
    have HL2 := Lib.hid hl2
    obtain ⟨bA, bc, rfl, hbc, -⟩ := hb2
    clear hwl hww e1 e2 hl2
    by_cases hemp : b2 = []
    · have hlz : b2.length = 0 := by rw [hemp]; rfl
      have HRE := Lib.hid (show (⟨t2, l2, true⟩ : Ws) = R from by
        rw [← HWW.out, hemp]
        cases f <;> rfl)
      have hnz := Blk.lt HWL.out.zb
      rw [hlz] at HB2 ⊢
      clear hemp hlz hbf hnb hbc HWW
      go_wp2_with (first
        | (refine wT HWL.out.tb rfl _ rfl rfl ?_)
        | (refine wstT HWL.out.zb t2 h2 HWL.out.hb.one rfl _ _ rfl rfl rfl ?_; intro w9 hs ho hbl; have HX := Lib.hid hs; have HB9 := Lib.hid (hbl _ _ HWL.out.low (by omega)); have HY9 := Lib.hid ((HWL.out.hb.far3 (fun hn => (HOF.out hn).2) ho).more (hbl 0 _ (Below.refl _ _) (Nat.zero_le _)).size); clear hs ho hbl))
      exact bodyPost_ret (results_writes rfl rfl HX.out) rfl ⟨⟨_, by rw [← HRE.out], by rw [← HRE.out]; exact HY9.out⟩, HB9.out⟩
    · obtain ⟨kk, hkk⟩ : ∃ k, min (pieceS cuts n) b2.length = k := ⟨_, rfl⟩
      have hpc := pieceS_pos cuts n
      have hbpos : 0 < b2.length := List.length_pos_iff.2 hemp
      have hk1 : 1 ≤ kk ∧ kk ≤ b2.length := by omega
      obtain ⟨f, rfl⟩ : ∃ q, f = q + 1 := ⟨f - 1, by omega⟩
      obtain ⟨r, hr⟩ : ∃ z, writeS L t2 l2 (b2.take kk) = z := ⟨_, rfl⟩
      have HRX := Lib.hid hr
      have HF := Lib.hid (show (if r.e ≠ 0 ∨ r.n ≠ (kk : Int) then ⟨t2, l2, false⟩ else writesF L cuts f (n + 1) r.t r.h (b2.drop kk)) = R from by
        have h := HWW.out
        rw [writesF, if_neg hemp, hkk, hr] at h
        exact h)
      have HKE := Lib.hid (show r.e = 0 → r.h.length ≤ 33 ∧ r.t.user = t2.user ∧ r.t.tree = t2.tree from fun h => by
        rw [← hr] at h ⊢
        have h2 := writeS_keeps L t2 l2 _ h
        exact ⟨h2.1, h2.2.1, h2.2.2.1⟩)
      have HBK := Lib.hid (HB2.out.take_ hk1.2)
      have HN := Lib.hid (show n ≤ 1073741824 from by omega)
      have HBL := Lib.hid (show (b2.take kk).length ≤ 268435456 from by rw [List.length_take]; omega)
      have HU2 := Lib.hid (show t2.user.size ≤ 268435456 from by rw [HE.out.1]; exact HUS.out)
      have HT2 := Lib.hid (show t2.tree.size ≤ 268435456 from by rw [HE.out.2]; exact HTS.out)
      have HK2 := Lib.hid (HKZ.out t2.user)
      have HL0 := HL2
      have hmin : min ((pieceS cuts n : Nat) : Int) (b2.length : Int) = (kk : Int) := by omega
      have hbpos' : (0 : Int) < (b2.length : Int) := by omega
      clear hr HWW hemp
      go_upto_region 5 with (go_at_call 62; (with_reducible refine (piece_calls cv cuts n w.heap.size HN.out _ (HC.out.below HWL.out.low)).mono ?_); rintro e wk ⟨rfl, rfl⟩)
      have hkc : (kk : Int) ≤ (bc : Int) := by omega
      clear hmin hbpos' hpc hkk
      go_cut [12, 13, 14] (fun a m e wx => ∃ (z : Nat) (hu : Value), a = .pointer (some ⟨z, 0, none⟩) ∧ m = .int .i64 r.n ∧ e = .int .i64 r.e ∧ TBlk wx z r.t hu ∧ Bys wx wx.heap.size hu r.h ∧ Below wr.heap.size wr wx ∧ wr.heap.size ≤ z ∧ ∀ k, hu.ownBlock = some k → wr.heap.size ≤ k)
      case first =>
        have HSR := Lib.hid HWL.out
        have HB := Lib.hid (below_drew wr)
        refine wp_region_held_drew (S := WL7 w t2 h2 l2) (by kernel_rfl) (HSR.out.next HB.out) (fun hHeld => ?_)
        generalize wr.drew = wd at HB hHeld ⊢
        refine wpAnyH_takeD 27 (i := 0) (v := .pointer (some ⟨g, 0, none⟩)) rfl rfl (by kernel_rfl) (by kernel_rfl) (by kernel_rfl) (fun _ _ _ h => h) (Or.inl ⟨by rfl, fun wq hSw => by go_simp⟩) (by assumption) ?_
        simp only [Act.put, List.setIfInBounds_toArray, List.set_cons_zero, List.set_cons_succ]
        refine wpAnyH_takeD 28 (i := 1) rfl rfl (by kernel_rfl) (by kernel_rfl) (by kernel_rfl) (fun _ _ _ h => h) (yWT7 (by rfl) _ rfl rfl) (by assumption) ?_
        simp only [Act.put, List.setIfInBounds_toArray, List.set_cons_zero, List.set_cons_succ]
        refine wpAnyH_takeD 29 (i := 2) (v := .slice bA b2.length bc) rfl rfl (by kernel_rfl) (by kernel_rfl) (by kernel_rfl) (fun _ _ _ h => h) (Or.inl ⟨by rfl, fun wq hSw => by go_simp⟩) (by assumption) ?_
        simp only [Act.put, List.setIfInBounds_toArray, List.set_cons_zero, List.set_cons_succ]
        refine wpAnyH_takeD 30 (i := 3) (v := .int .i64 (kk : Int)) rfl rfl (by kernel_rfl) (by kernel_rfl) (by kernel_rfl) (fun _ _ _ h => h) (Or.inl ⟨by rfl, fun wq hSw => by go_simp⟩) (by assumption) ?_
        simp only [Act.put, List.setIfInBounds_toArray, List.set_cons_zero, List.set_cons_succ]
        refine wpAnyH_takeD 31 (i := 4) (v := .slice bA kk bc) rfl rfl (by kernel_rfl) (by kernel_rfl) (by kernel_rfl) (fun _ _ _ h => h) (Or.inl ⟨by rfl, fun wq hSw => by go_simp⟩) (by assumption) ?_
        simp only [Act.put, List.setIfInBounds_toArray, List.set_cons_zero, List.set_cons_succ]
        refine wpAnyH_ready (rs := [5, 10]) (by kernel_rfl) (by simp) ?_
        refine AllReadyH.cons rfl (fun K hK => ?_) (AllReadyH.cons rfl (fun K hK => ?_) AllReadyH.nil)
        · as_aux_lemma =>
            rw [if_pos (by rfl)]
            go_simp
            (with_reducible refine (write_calls g L t2 h2 (.slice bA kk bc) l2 (b2.take kk) _ (HP0.out.below hHeld.low) (HTZ.out.below hHeld.low (Nat.le_refl _)) (HSV.out.below hHeld.low (Nat.le_refl _)) hHeld.hb ((HBK.out.below hHeld.low).more hHeld.low.size) HL0.out HBL.out HU2.out HT2.out HK2.out).mono ?_)
            rw [HRX.out]
            rintro e wy ⟨⟨hu, rfl, hy1, hf1⟩, hb⟩
            dsimp only
            have HY1 := Lib.hid hy1
            have HF1 := Lib.hid (show ∀ k, hu.ownBlock = some k → wr.heap.size ≤ k from fun k hk => Nat.le_trans HB.out.size (hf1 k hk))
            replace HB := Lib.hid (HB.out.trans (hb.mono HB.out.size))
            clear hy1 hf1 hb hHeld
            refine hK.out _ _ (HSR.out.next HB.out) (fun hHeld => ?_)
            clear hK
            refine wpAnyH_takeD 26 (i := 6) (v := .tuple #[talkV r.t hu, .int .i64 r.n, .int .i64 r.e]) rfl rfl (by kernel_rfl) (by kernel_rfl) (by kernel_rfl) (fun _ _ _ h => h) (Or.inl ⟨by rfl, fun wq hSw => by go_simp⟩) (by assumption) ?_
            simp only [Act.put, List.setIfInBounds_toArray, List.set_cons_zero, List.set_cons_succ]
            refine wpAnyH_takeD 33 (i := 7) (v := talkV r.t hu) rfl rfl (by kernel_rfl) (by kernel_rfl) (by kernel_rfl) (fun _ _ _ h => h) (Or.inl ⟨by rfl, fun wq hSw => by go_simp⟩) (by assumption) ?_
            simp only [Act.put, List.setIfInBounds_toArray, List.set_cons_zero, List.set_cons_succ]
            refine wpAnyH_takeD 34 (i := 8) (v := .int .i64 r.n) rfl rfl (by kernel_rfl) (by kernel_rfl) (by kernel_rfl) (fun _ _ _ h => h) (Or.inl ⟨by rfl, fun wq hSw => by go_simp⟩) (by assumption) ?_
            simp only [Act.put, List.setIfInBounds_toArray, List.set_cons_zero, List.set_cons_succ]
            refine wpAnyH_takeD 35 (i := 9) (v := .int .i64 r.e) rfl rfl (by kernel_rfl) (by kernel_rfl) (by kernel_rfl) (fun _ _ _ h => h) (Or.inl ⟨by rfl, fun wq hSw => by go_simp⟩) (by assumption) ?_
            simp only [Act.put, List.setIfInBounds_toArray, List.set_cons_zero, List.set_cons_succ]
            refine wpAnyH_ready (rs := [10]) (by kernel_rfl) (by simp) ?_
            refine AllReadyH.cons rfl (fun K hK => ?_) AllReadyH.nil
            rw [if_pos (by rfl)]
            go_simp
            have hzl := HB.out.size
            have HZ := Lib.hid (TBlk.zero wy)
            replace HY1 := Lib.hid (HY1.out.below ((Below.refl wy.heap.size wy).alloc (Nat.le_refl _) (Obj.cells #[.string ⟨#[]⟩, .string ⟨#[]⟩, .int .u64 0, .int .u64 0, .int .u8 0, .int .i64 0, .slice none 0 0] 54)))
            replace HB := Lib.hid (HB.out.alloc HB.out.size (Obj.cells #[.string ⟨#[]⟩, .string ⟨#[]⟩, .int .u64 0, .int .u64 0, .int .u8 0, .int .i64 0, .slice none 0 0] 54))
            generalize wy.alloc _ = wa at HZ HB HY1 ⊢
            generalize wy.heap.size = z at HZ hzl HY1 ⊢
            clear hHeld
            refine hK.out _ _ (HSR.out.next HB.out) (fun hHeld => ?_)
            clear hK
            refine wpAnyH_ready (rs := [11]) (by kernel_rfl) (by simp) ?_
            refine AllReadyH.cons rfl (fun K hK => ?_) AllReadyH.nil
            rw [if_pos (by rfl)]
            refine wp_storeT HZ.out r.t hu HY1.out.one _ _ rfl rfl rfl rfl ?_
            have hzs := Blk.lt HZ.out
            replace HY1 := Lib.hid (HY1.out.far2 (Or.inl (Nat.le_refl _)) (setCells_other _ z (talkL r.t hu) 0))
            replace HB := Lib.hid (below_setCells HB.out hzl (talkL r.t hu) 0)
            have HZ2 := Lib.hid (setTalk (u := r.t) (hu := hu) HZ.out)
            clear HZ
            clear hHeld
            refine hK.out _ _ (HSR.out.next HB.out) (fun hHeld => ?_)
            clear hK
            refine wpAnyH_takeD 13 (i := 12) (v := .int .i64 r.n) rfl rfl (by kernel_rfl) (by kernel_rfl) (by kernel_rfl) (fun _ _ _ h => h) (Or.inl ⟨by rfl, fun wq hSw => by go_simp⟩) (by assumption) ?_
            simp only [Act.put, List.setIfInBounds_toArray, List.set_cons_zero, List.set_cons_succ]
            refine wpAnyH_takeD 14 (i := 13) (v := .int .i64 r.e) rfl rfl (by kernel_rfl) (by kernel_rfl) (by kernel_rfl) (fun _ _ _ h => h) (Or.inl ⟨by rfl, fun wq hSw => by go_simp⟩) (by assumption) ?_
            simp only [Act.put, List.setIfInBounds_toArray, List.set_cons_zero, List.set_cons_succ]
            refine wpAnyH_done (by kernel_rfl) ?_ _
            go_wp2_with fail
            go_meet
            case rel => exact ⟨z, hu, rfl, rfl, rfl, HZ2.out, HY1.out.more (by rw [size_setCells]; exact Nat.le_of_lt hzs), HB.out, hzl, HF1.out⟩
        · as_aux_lemma =>
            rw [if_pos (by rfl)]
            go_simp
            have hzl := HB.out.size
            have HZ := Lib.hid (TBlk.zero wd)
            replace HB := Lib.hid (HB.out.alloc HB.out.size (Obj.cells #[.string ⟨#[]⟩, .string ⟨#[]⟩, .int .u64 0, .int .u64 0, .int .u8 0, .int .i64 0, .slice none 0 0] 54))
            generalize wd.alloc _ = wa at HZ HB ⊢
            generalize wd.heap.size = z at HZ hzl ⊢
            clear hHeld
            refine hK.out _ _ (HSR.out.next HB.out) (fun hHeld => ?_)
            clear hK
            refine wpAnyH_ready (rs := [5]) (by kernel_rfl) (by simp) ?_
            refine AllReadyH.cons rfl (fun K hK => ?_) AllReadyH.nil
            have hzlt := Blk.lt HZ.out
            rw [if_pos (by rfl)]
            go_simp
            (with_reducible refine (write_calls g L t2 h2 (.slice bA kk bc) l2 (b2.take kk) _ (HP0.out.below hHeld.low) (HTZ.out.below hHeld.low (Nat.le_refl _)) (HSV.out.below hHeld.low (Nat.le_refl _)) hHeld.hb ((HBK.out.below hHeld.low).more hHeld.low.size) HL0.out HBL.out HU2.out HT2.out HK2.out).mono ?_)
            rw [HRX.out]
            rintro e wy ⟨⟨hu, rfl, hy1, hf1⟩, hb⟩
            dsimp only
            have HY1 := Lib.hid hy1
            have HF1 := Lib.hid (show ∀ k, hu.ownBlock = some k → wr.heap.size ≤ k from fun k hk => Nat.le_trans HB.out.size (hf1 k hk))
            have HOFF := Lib.hid (show hu.ownBlock ≠ some z from fun he => by have := hf1 _ he; omega)
            replace HZ := Lib.hid (HZ.out.below hb)
            replace HB := Lib.hid (HB.out.trans (hb.mono HB.out.size))
            clear hy1 hf1 hb hHeld
            refine hK.out _ _ (HSR.out.next HB.out) (fun hHeld => ?_)
            clear hK
            refine wpAnyH_takeD 26 (i := 6) (v := .tuple #[talkV r.t hu, .int .i64 r.n, .int .i64 r.e]) rfl rfl (by kernel_rfl) (by kernel_rfl) (by kernel_rfl) (fun _ _ _ h => h) (Or.inl ⟨by rfl, fun wq hSw => by go_simp⟩) (by assumption) ?_
            simp only [Act.put, List.setIfInBounds_toArray, List.set_cons_zero, List.set_cons_succ]
            refine wpAnyH_takeD 33 (i := 7) (v := talkV r.t hu) rfl rfl (by kernel_rfl) (by kernel_rfl) (by kernel_rfl) (fun _ _ _ h => h) (Or.inl ⟨by rfl, fun wq hSw => by go_simp⟩) (by assumption) ?_
            simp only [Act.put, List.setIfInBounds_toArray, List.set_cons_zero, List.set_cons_succ]
            refine wpAnyH_takeD 34 (i := 8) (v := .int .i64 r.n) rfl rfl (by kernel_rfl) (by kernel_rfl) (by kernel_rfl) (fun _ _ _ h => h) (Or.inl ⟨by rfl, fun wq hSw => by go_simp⟩) (by assumption) ?_
            simp only [Act.put, List.setIfInBounds_toArray, List.set_cons_zero, List.set_cons_succ]
            refine wpAnyH_takeD 35 (i := 9) (v := .int .i64 r.e) rfl rfl (by kernel_rfl) (by kernel_rfl) (by kernel_rfl) (fun _ _ _ h => h) (Or.inl ⟨by rfl, fun wq hSw => by go_simp⟩) (by assumption) ?_
            simp only [Act.put, List.setIfInBounds_toArray, List.set_cons_zero, List.set_cons_succ]
            refine wpAnyH_ready (rs := [11]) (by kernel_rfl) (by simp) ?_
            refine AllReadyH.cons rfl (fun K hK => ?_) AllReadyH.nil
            rw [if_pos (by rfl)]
            refine wp_storeT HZ.out r.t hu HY1.out.one _ _ rfl rfl rfl rfl ?_
            have hzs := Blk.lt HZ.out
            replace HY1 := Lib.hid (HY1.out.far2 (Or.inr HOFF.out) (setCells_other _ z (talkL r.t hu) 0))
            replace HB := Lib.hid (below_setCells HB.out hzl (talkL r.t hu) 0)
            have HZ2 := Lib.hid (setTalk (u := r.t) (hu := hu) HZ.out)
            clear HZ
            clear hHeld
            refine hK.out _ _ (HSR.out.next HB.out) (fun hHeld => ?_)
            clear hK
            refine wpAnyH_takeD 13 (i := 12) (v := .int .i64 r.n) rfl rfl (by kernel_rfl) (by kernel_rfl) (by kernel_rfl) (fun _ _ _ h => h) (Or.inl ⟨by rfl, fun wq hSw => by go_simp⟩) (by assumption) ?_
            simp only [Act.put, List.setIfInBounds_toArray, List.set_cons_zero, List.set_cons_succ]
            refine wpAnyH_takeD 14 (i := 13) (v := .int .i64 r.e) rfl rfl (by kernel_rfl) (by kernel_rfl) (by kernel_rfl) (fun _ _ _ h => h) (Or.inl ⟨by rfl, fun wq hSw => by go_simp⟩) (by assumption) ?_
            simp only [Act.put, List.setIfInBounds_toArray, List.set_cons_zero, List.set_cons_succ]
            refine wpAnyH_done (by kernel_rfl) ?_ _
            go_wp2_with fail
            go_meet
            case rel => exact ⟨z, hu, rfl, rfl, rfl, HZ2.out, HY1.out.more (by rw [size_setCells]; exact Nat.le_refl _), HB.out, hzl, HF1.out⟩
      obtain ⟨z, hu, rfl, rfl, rfl, hz, hy1, hb, hzl, hf1⟩ := hcut
      have HWc := Lib.hid (HWL.out.next hb)
      have hq1 := Blk.lt HWL.out.zb
      have HOU := Lib.hid (show Off2 w.heap.size hu r.h from fun _ => ⟨fun he => by have := hf1 _ he; omega, fun he => by have := hf1 _ he; omega⟩)
      have HY1 := Lib.hid hy1
      have HZ := Lib.hid hz
      clear hy1 hz hb hzl hf1 HWL
      cases he : (r.e != 0) with
      | true =>
        have HRE := Lib.hid ((if_pos (show r.e ≠ 0 ∨ r.n ≠ (kk : Int) from .inl (by simpa using he))) ▸ HF.out)
        go_wp2_with (first
          | (refine wT HWc.out.tb rfl _ rfl rfl ?_)
          | (refine wstT HWc.out.zb t2 h2 HWc.out.hb.one rfl _ _ rfl rfl rfl ?_; intro w9 hs ho hbl; have HX := Lib.hid hs; have HB9 := Lib.hid (hbl _ _ HWc.out.low (by omega)); have HY9 := Lib.hid ((HWc.out.hb.far3 (fun hn => (HOF.out hn).2) ho).more (hbl 0 _ (Below.refl _ _) (Nat.zero_le _)).size); clear hs ho hbl))
        exact bodyPost_ret (results_writes rfl rfl HX.out) rfl ⟨⟨_, by rw [← HRE.out], by rw [← HRE.out]; exact HY9.out⟩, HB9.out⟩
      | false =>
        have he0 : r.e = 0 := by simpa using he
        cases hn : (r.n != (kk : Int)) with
        | true =>
          have HRE := Lib.hid ((if_pos (show r.e ≠ 0 ∨ r.n ≠ (kk : Int) from .inr (by simpa using hn))) ▸ HF.out)
          clear he0
          go_wp2_with (first
            | (refine wT HWc.out.tb rfl _ rfl rfl ?_)
            | (refine wstT HWc.out.zb t2 h2 HWc.out.hb.one rfl _ _ rfl rfl rfl ?_; intro w9 hs ho hbl; have HX := Lib.hid hs; have HB9 := Lib.hid (hbl _ _ HWc.out.low (by omega)); have HY9 := Lib.hid ((HWc.out.hb.far3 (fun hn => (HOF.out hn).2) ho).more (hbl 0 _ (Below.refl _ _) (Nat.zero_le _)).size); clear hs ho hbl))
          exact bodyPost_ret (results_writes rfl rfl HX.out) rfl ⟨⟨_, by rw [← HRE.out], by rw [← HRE.out]; exact HY9.out⟩, HB9.out⟩
        | false =>
          have hn0 : r.n = (kk : Int) := by simpa using hn
          have HEE := Lib.hid (HKE.out he0)
          have HRE := Lib.hid ((if_neg (show ¬ (r.e ≠ 0 ∨ r.n ≠ (kk : Int)) from fun h => h.elim (fun h => h he0) (fun h => h hn0))) ▸ HF.out)
          have HBD := Lib.hid (HB2.out.drop_ hk1.2)
          clear he0 hn0 HF
          go_upto_region 9 with (first
            | (refine wT HZ.out rfl _ rfl rfl ?_)
            | (refine wstT HWc.out.tb r.t hu HY1.out.one rfl _ _ rfl rfl rfl ?_; intro w5 hs ho hbl; have HW5 := Lib.hid (show WL7 w r.t hu r.h w5 from ⟨hs, (ho _ (by omega)).trans HWc.out.zb, (HY1.out.far3 (fun hn => (HOU.out hn).1) ho).more (hbl 0 _ (Below.refl _ _) (Nat.zero_le _)).size, hbl _ _ HWc.out.low (Nat.le_refl _)⟩); clear hs ho hbl))
          clear he hn HWc HZ HY1
          by_cases hck : bc = kk
          · rw [if_pos hck] at HBD
            have hck' : (bc : Int) = (kk : Int) := by omega
            go_wp2_with fail
            go_roundw
            case rel => exact ⟨n + 1, r.t, hu, r.h, b2.drop kk, f, by go_num, by rw [List.length_drop]; omega, (by have h := HBD.out; rw [show bc - kk = 0 by omega] at h; exact h), HW5.out, HEE.out.1, HEE.out.2.1.trans HE.out.1, HEE.out.2.2.trans HE.out.2, by rw [List.length_drop]; omega, HRE.out, HOU.out⟩
            case measure =>
              show b2.length - kk < b2.length
              omega
          · rw [if_neg hck] at HBD
            go_wp2_with fail
            go_roundw
            case rel => exact ⟨n + 1, r.t, hu, r.h, b2.drop kk, f, by go_num, by rw [List.length_drop]; omega, HBD.out, HW5.out, HEE.out.1, HEE.out.2.1.trans HE.out.1, HEE.out.2.2.trans HE.out.2, by rw [List.length_drop]; omega, HRE.out, HOU.out⟩
            case measure =>
              show b2.length - kk < b2.length
              omega
end Go.Proofs.YtlenlldiimohjaaGreatDoor
