
/-
  vergerlaw07.reads: all that a Talk has to tell, piece by piece, of Talks that hold no bytes. Conditions: TZ.
-/
import Derived.Test.YtlenlldiimohjaaGreatDoorAConf
import Derived.Laws.EntriesVeiled
namespace Go.Proofs.YtlenlldiimohjaaGreatDoor
open Go.RowKit

/-- What reads answers: the Talk, all that is told, whether it ended well. -/
structure Rs where
  t : Tk
  all : List UInt8
  ok : Bool
def readsF (L : List Acct) (cuts : List Int) : Nat → Nat → Tk → List UInt8 → Rs
  | 0, _, t, all => ⟨t, all, false⟩
  | f + 1, n, t, all => if (readS L t [] (pieceS cuts n)).e ≠ 0 ∨ pieceS cuts n < (readS L t [] (pieceS cuts n)).out.length then ⟨t, all, false⟩
      else if (readS L t [] (pieceS cuts n)).out = [] then ⟨(readS L t [] (pieceS cuts n)).t, all, true⟩ else readsF L cuts f (n + 1) (readS L t [] (pieceS cuts n)).t (all ++ (readS L t [] (pieceS cuts n)).out)
/-- Reading turns a Talk's step and place alone. -/
theorem readS_keeps (L : List Acct) (t : Tk) (c : Int) (h : (readS L t [] c).e = 0) : (readS L t [] c).h = [] ∧ (readS L t [] c).t.user = t.user ∧ (readS L t [] c).t.tree = t.tree ∧ (readS L t [] c).t.ours = t.ours ∧ (readS L t [] c).t.theirs = t.theirs := by
  unfold readS lineRd at h ⊢
  split at h
  · cases h
  · rename_i h5
    rw [if_neg h5]
    split
    · split <;> exact ⟨rfl, rfl, rfl, rfl, rfl⟩
    · split
      · split <;> exact ⟨rfl, rfl, rfl, rfl, rfl⟩
      · exact ⟨rfl, rfl, rfl, rfl, rfl⟩
/-- Where reads stands. -/
def RL (w0 : World) (t : Tk) (hv : Value) (all : List UInt8) (av : Value) (w : World) : Prop := TBlk w w0.heap.size t hv ∧ TBlk w (w0.heap.size + 1) Tk.none (.slice none 0 0) ∧ Bys w w.heap.size hv [] ∧ w.ownsRow w0.heap.size 5 1 av all.length (byteL all) ∧ Below w0.heap.size w0 w
section
variable {w0 w w' : World} {t : Tk} {hv av : Value} {all : List UInt8}
theorem RL.next (h : RL w0 t hv all av w) (hb : Below w.heap.size w w') : RL w0 t hv all av w' := ⟨h.1.below hb, h.2.1.below hb, (h.2.2.1.below hb).more hb.size, own_other_b h.2.2.2.1 hb, h.2.2.2.2.trans (hb.mono h.2.2.2.2.size)⟩
theorem RL.tb (h : RL w0 t hv all av w) : TBlk w w0.heap.size t hv := h.1
theorem RL.zb (h : RL w0 t hv all av w) : TBlk w (w0.heap.size + 1) Tk.none (.slice none 0 0) := h.2.1
theorem RL.hb (h : RL w0 t hv all av w) : Bys w w.heap.size hv [] := h.2.2.1
theorem RL.ow (h : RL w0 t hv all av w) : w.ownsRow w0.heap.size 5 1 av all.length (byteL all) := h.2.2.2.1
theorem RL.low (h : RL w0 t hv all av w) : Below w0.heap.size w0 w := h.2.2.2.2
variable {ops : Array Oper} {op : Oper} {a : Act} {K : Act → World → Prop} {Q : Exit → Act → World → Prop} {q : Nat}
theorem yRT (hw : Region.wanted op (yielded ops a.tmps) = true) (x : Operand) (ho : op.op = .load 54 x) (hx : a.eval x = .pointer (some ⟨w0.heap.size, 0, none⟩)) : YieldsIf Tryz.prog ops (RL w0 t hv all av) op (talkV t hv) a :=
  yieldsIf_load_mid hw _ x ho _ _ hx (talkL t hv) _ (fun _ hS => Blk.range hS.1 0 _ rfl) Tryz.underlying54 rfl talk_size
theorem setTalk {n0 u : Tk} {h0 hu : Value} (h : TBlk w q n0 h0) : TBlk (w.setCells q 0 (talkL u hu)) q u hu := by
  have h2 := Blk.setCells_ (talkL u hu) 0 h
  rw [over_talk] at h2
  exact h2
/-- A Talk is stored whole, at a step of a region. -/
theorem wp_storeT {n0 : Tk} {h0 : Value} (hk : TBlk w q n0 h0) (u : Tk) (hu : Value) (h1 : hu.oneCell' = true) (y z : Operand) (ho : op.op = .store 54 y z) (hx : a.eval y = .pointer (some ⟨q, 0, none⟩)) (hy : a.eval z = talkV u hu)
    (hd : op.dst = none) (h : K a (w.setCells q 0 (talkL u hu))) : op.wp Tryz.prog a w K Q :=
  wp_store_mid _ y z ho q 0 (talkL u hu).toArray hx hy (fun j hj => by
    have hj' : j < 7 := by simpa using hj
    rw [Nat.zero_add]
    refine ⟨?_, Blk.frozen hk j⟩
    rw [Blk.cell hk j, Array.getElem?_eq_getElem (by simpa using hj')]
    rfl) talk_size (talk_cells u hu h1) (by rw [hd]; exact h)
end
/-- A value whose bytes are not at q. -/
def Off (q : Nat) (v : Value) : Prop := v.ownBlock ≠ some q
theorem Bys.far2 {w w' : World} {B q : Nat} {hv : Value} {l : List UInt8} (h : Bys w B hv l) (hne : B ≤ q ∨ hv.ownBlock ≠ some q) (ho : ∀ i, i ≠ q → w'.heap[i]? = w.heap[i]?) : Bys w' B hv l := by
  rcases hne with hq | hq
  · exact h.keep fun p hp => World.cell?_of_block (ho _ (by omega))
  · exact h.far hq ho
theorem Bys.empty_ {w w' : World} {B B' : Nat} {hv : Value} (h : Bys w B hv []) : Bys w' B' hv [] := by
  obtain ⟨A, cap, e, h1, h2, h3⟩ := h
  exact ⟨A, cap, e, h1, h2, h3.1, fun hn => absurd hn (by simp)⟩
theorem readS_empty (L : List Acct) (t : Tk) (c : Int) : (readS L t [] c).h = [] := by
  unfold readS lineRd
  split
  · rfl
  · split
    · split <;> rfl
    · split
      · split <;> rfl
      · rfl
theorem results_reads {tmps : Array Value} {w : World} {q : Nat} {t : Tk} {hv v : Value} {b : Bool} (h6 : tmps.getD 6 undef = .pointer (some ⟨q, 0, none⟩)) (h7 : tmps.getD 7 undef = v) (h8 : tmps.getD 8 undef = .bool b) (hk : TBlk w q t hv) :
    (results Tryz.f20 tmps).run Tryz.prog w = .ok (.tuple #[talkV t hv, v, .bool b]) w := by
  have h6' : tmps[6]?.getD undef = .pointer (some ⟨q, 0, none⟩) := by simpa using h6
  have h7' : tmps[7]?.getD undef = v := by simpa using h7
  have h8' : tmps[8]?.getD undef = .bool b := by simpa using h8
  simp [results, Tryz.results20, h6', h7', h8', asAddr, loadVar_talk hk]
set_option maxRecDepth 100000 in
set_option maxHeartbeats 6400000 in
theorem reads_calls (g : Nat) (L : List Acct) (t : Tk) (hv cv : Value) (cuts : List Int) (w : World) (hp : PTab w g L) (htz : TZ w) (h : Bys w w.heap.size hv []) (hc : Cuts w w.heap.size cv cuts)
    (hu : t.user.size ≤ 268435456) (ht : t.tree.size ≤ 268435456) (hk : ∀ u, (keyOfUser L u).size ≤ 32) (ho : 0 ≤ t.ours ∧ t.ours < 18446744073709551616) :
    Calls Tryz.prog 20 #[.pointer (some ⟨g, 0, none⟩), talkV t hv, cv] w fun e w' => (∃ hu av, e = .returned (.tuple #[talkV (readsF L cuts 60 0 t []).t hu, av, .bool (readsF L cuts 60 0 t []).ok]) ∧ Bys w' w'.heap.size hu [] ∧ Bys w' w'.heap.size av (readsF L cuts 60 0 t []).all ∧ ∀ k, av.ownBlock = some k → w.heap.size ≤ k) ∧ Below w.heap.size w w' := by
  obtain ⟨i0, hi0, hz0, hz1, hz2⟩ := info_parts u8_info
  have JI := Lib.hid hi0; clear hi0
  have J0 := Lib.hid hz0; clear hz0
  have J1 := Lib.hid hz1; clear hz1
  have J2 := Lib.hid hz2; clear hz2
  have HP0 := Lib.hid hp
  have HTZ := Lib.hid htz
  have HC := Lib.hid hc
  have HKZ := Lib.hid hk
  obtain ⟨R, hR⟩ : ∃ z, readsF L cuts 60 0 t [] = z := ⟨_, rfl⟩
  rw [hR]
  have HR0 := Lib.hid hR
  have HUS := Lib.hid hu
  have HTS := Lib.hid ht
  have HOS := Lib.hid ho
  have HRL := Lib.hid (show RL w t hv [] (.slice none 0 0) ((w.alloc (Obj.cells (talkL t hv).toArray 54)).alloc (Obj.cells #[.string ⟨#[]⟩, .string ⟨#[]⟩, .int .u64 0, .int .u64 0, .int .u8 0, .int .i64 0, .slice none 0 0] 54)) from by
    have up : ∀ (W : World) (o : Obj), Below W.heap.size W (W.alloc o) := fun W o => (Below.refl _ _).alloc (Nat.le_refl _) o
    have hz := TBlk.zero (w.alloc (Obj.cells (talkL t hv).toArray 54))
    simp only [World.size_alloc] at hz
    exact ⟨Blk.alloc (Blk.new w _ (talkL t hv).toArray) _, hz, (((h.below (up _ _)).more (up _ _).size).below (up _ _)).more (up _ _).size, ⟨rfl, .inl ⟨rfl, rfl⟩⟩, ((Below.refl _ _).alloc (Nat.le_refl _) _).alloc (by simp) _⟩)
  clear hp htz hc hk hR hu ht ho h
  go_enter Tryz.func20, Tryz.ntmps20
  go_upto_region 2 with (fail)
  change Code.wp _ _ _ _ ((w.alloc (Obj.cells (talkL t hv).toArray 54)).alloc (Obj.cells #[.string ⟨#[]⟩, .string ⟨#[]⟩, .int .u64 0, .int .u64 0, .int .u8 0, .int .i64 0, .slice none 0 0] 54))
  generalize (w.alloc (Obj.cells (talkL t hv).toArray 54)).alloc (Obj.cells #[.string ⟨#[]⟩, .string ⟨#[]⟩, .int .u64 0, .int .u64 0, .int .u8 0, .int .i64 0, .slice none 0 0] 54) = w1 at HRL ⊢
  go_wp2_with fail
  go_loopw [9, 10] (fun av i wr => ∃ (n : Nat) (t2 : Tk) (h2 : Value) (all : List UInt8), n ≤ 60 ∧ i = .int .i64 (n : Int) ∧ RL w t2 h2 all av wr ∧ t2.user = t.user ∧ t2.tree = t.tree ∧ t2.ours = t.ours ∧ readsF L cuts (60 - n) n t2 all = R ∧ all.length ≤ 40 * n) (fun _ i _ => 60 - (intOf i).toNat)
  case atStart => exact ⟨0, t, hv, [], by omega, rfl, HRL.out, rfl, rfl, rfl, HR0.out, Nat.zero_le _⟩
  case round =>
    obtain ⟨n, t2, h2, all, hn, rfl, hrl, e1, e2, e3, hrr, hal⟩ := hrel
    clear HRL
    have HRL := Lib.hid hrl
    have HRR := Lib.hid hrr
    have HE := Lib.hid (And.intro e1 (And.intro e2 e3))
    clear hrl hrr e1 e2 e3
    by_cases hlt : n < 60
    · obtain ⟨r, hr⟩ : ∃ z, readS L t2 [] ((pieceS cuts n : Nat) : Int) = z := ⟨_, rfl⟩
      have HRX := Lib.hid hr
      have HRH := Lib.hid (show r.h = [] from by rw [← hr]; exact readS_empty _ _ _)
      have HKE := Lib.hid (show r.e = 0 → r.t.user = t2.user ∧ r.t.tree = t2.tree ∧ r.t.ours = t2.ours from fun h => by
        rw [← hr] at h ⊢
        have h2 := readS_keeps L t2 _ h
        exact ⟨h2.2.1, h2.2.2.1, h2.2.2.2.1⟩)
      have hpc := pieceS_pos cuts n
      have HCN := Lib.hid (show -9223372036854775808 ≤ ((pieceS cuts n : Nat) : Int) ∧ ((pieceS cuts n : Nat) : Int) ≤ 9223372036854775807 from by omega)
      have HN := Lib.hid (show n ≤ 1073741824 from by omega)
      have HL0 := Lib.hid (show ([] : List UInt8).length ≤ 33 from by decide)
      have HU2 := Lib.hid (show t2.user.size ≤ 268435456 from by rw [HE.out.1]; exact HUS.out)
      have HT2 := Lib.hid (show t2.tree.size ≤ 268435456 from by rw [HE.out.2.1]; exact HTS.out)
      have HO2 := Lib.hid (show 0 ≤ t2.ours ∧ t2.ours < 18446744073709551616 from by rw [HE.out.2.2]; exact HOS.out)
      have HK2 := Lib.hid (HKZ.out t2.user)
      have HF := Lib.hid (show (if r.e ≠ 0 ∨ pieceS cuts n < r.out.length then ⟨t2, all, false⟩ else if r.out = [] then ⟨r.t, all, true⟩ else readsF L cuts (59 - n) (n + 1) r.t (all ++ r.out)) = R from by
        have h := HRR.out
        rw [show 60 - n = (59 - n) + 1 by omega, readsF, hr] at h
        exact h)
      clear hr hpc
      have hlt' : (n : Int) < 60 := by omega
      go_upto_region 5 with (fail)
      clear hlt'
      go_cut [11, 12, 13] (fun a b e wx => ∃ (z : Nat) (hu : Value), a = .pointer (some ⟨z, 0, none⟩) ∧ e = .int .i64 r.e ∧ Bys wx wx.heap.size b r.out ∧ TBlk wx z r.t hu ∧ Bys wx wx.heap.size hu [] ∧ Below wr.heap.size wr wx ∧ wr.heap.size ≤ z ∧ ∀ k, b.ownBlock = some k → wr.heap.size ≤ k)
      case first =>
        have HSR := Lib.hid HRL.out
        have HB := Lib.hid (below_drew wr)
        refine wp_region_held_drew (S := RL w t2 h2 all u9) (by kernel_rfl) (HSR.out.next HB.out) (fun hHeld => ?_)
        generalize wr.drew = wd at HB hHeld ⊢
        refine wpAnyH_takeD 19 (i := 0) (v := .pointer (some ⟨g, 0, none⟩)) rfl rfl (by kernel_rfl) (by kernel_rfl) (by kernel_rfl) (fun _ _ _ h => h) (Or.inl ⟨by rfl, fun wq hSw => by go_simp⟩) (by assumption) ?_
        simp only [Act.put, List.setIfInBounds_toArray, List.set_cons_zero, List.set_cons_succ]
        refine wpAnyH_takeD 20 (i := 1) rfl rfl (by kernel_rfl) (by kernel_rfl) (by kernel_rfl) (fun _ _ _ h => h) (yRT (by rfl) _ rfl rfl) (by assumption) ?_
        simp only [Act.put, List.setIfInBounds_toArray, List.set_cons_zero, List.set_cons_succ]
        refine wpAnyH_takeD 21 (i := 2) (v := cv) rfl rfl (by kernel_rfl) (by kernel_rfl) (by kernel_rfl) (fun _ _ _ h => h) (Or.inl ⟨by rfl, fun wq hSw => by go_simp⟩) (by assumption) ?_
        simp only [Act.put, List.setIfInBounds_toArray, List.set_cons_zero, List.set_cons_succ]
        refine wpAnyH_takeD 22 (i := 3) (v := .int .i64 (n : Int)) rfl rfl (by kernel_rfl) (by kernel_rfl) (by kernel_rfl) (fun _ _ _ h => h) (Or.inl ⟨by rfl, fun wq hSw => by go_simp⟩) (by assumption) ?_
        simp only [Act.put, List.setIfInBounds_toArray, List.set_cons_zero, List.set_cons_succ]
        refine wpAnyH_ready (rs := [4, 10]) (by kernel_rfl) (by simp) ?_
        refine AllReadyH.cons rfl (fun K hK => ?_) (AllReadyH.cons rfl (fun K hK => ?_) AllReadyH.nil)
        · as_aux_lemma =>
            rw [if_pos (by rfl)]
            go_simp
            (with_reducible refine (piece_calls cv cuts n w.heap.size HN.out _ (HC.out.below hHeld.low)).mono ?_)
            rintro e wk ⟨rfl, rfl⟩
            dsimp only
            refine hK.out _ _ hHeld (fun hHeld => ?_)
            clear hK
            refine wpAnyH_ready (rs := [5, 10]) (by kernel_rfl) (by simp) ?_
            refine AllReadyH.cons rfl (fun K hK => ?_) (AllReadyH.cons rfl (fun K hK => ?_) AllReadyH.nil)
            · as_aux_lemma =>
                rw [if_pos (by rfl)]
                go_simp
                (with_reducible refine (read_calls g L t2 h2 [] ((pieceS cuts n : Nat) : Int) _ (HP0.out.below hHeld.low) (HTZ.out.below hHeld.low (Nat.le_refl _)) hHeld.hb HL0.out HU2.out HT2.out HK2.out HO2.out HCN.out).mono ?_)
                rw [HRX.out]
                rintro e wy ⟨⟨hu, bv, rfl, hy1, hy2, hf1, hf2⟩, hb⟩
                dsimp only
                have HY1 := Lib.hid (HRH.out ▸ hy1)
                have HY2 := Lib.hid hy2
                have HF2 := Lib.hid (show ∀ k, bv.ownBlock = some k → wr.heap.size ≤ k from fun k hk => Nat.le_trans HB.out.size (hf2 k hk))
                replace HB := Lib.hid (HB.out.trans (hb.mono HB.out.size))
                clear hy1 hy2 hf1 hf2 hb hHeld
                refine hK.out _ _ (HSR.out.next HB.out) (fun hHeld => ?_)
                clear hK
                refine wpAnyH_takeD 18 (i := 6) (v := .tuple #[talkV r.t hu, bv, .int .i64 r.e]) rfl rfl (by kernel_rfl) (by kernel_rfl) (by kernel_rfl) (fun _ _ _ h => h) (Or.inl ⟨by rfl, fun wq hSw => by go_simp⟩) (by assumption) ?_
                simp only [Act.put, List.setIfInBounds_toArray, List.set_cons_zero, List.set_cons_succ]
                refine wpAnyH_takeD 25 (i := 7) (v := talkV r.t hu) rfl rfl (by kernel_rfl) (by kernel_rfl) (by kernel_rfl) (fun _ _ _ h => h) (Or.inl ⟨by rfl, fun wq hSw => by go_simp⟩) (by assumption) ?_
                simp only [Act.put, List.setIfInBounds_toArray, List.set_cons_zero, List.set_cons_succ]
                refine wpAnyH_takeD 26 (i := 8) (v := bv) rfl rfl (by kernel_rfl) (by kernel_rfl) (by kernel_rfl) (fun _ _ _ h => h) (Or.inl ⟨by rfl, fun wq hSw => by go_simp⟩) (by assumption) ?_
                simp only [Act.put, List.setIfInBounds_toArray, List.set_cons_zero, List.set_cons_succ]
                refine wpAnyH_takeD 27 (i := 9) (v := .int .i64 r.e) rfl rfl (by kernel_rfl) (by kernel_rfl) (by kernel_rfl) (fun _ _ _ h => h) (Or.inl ⟨by rfl, fun wq hSw => by go_simp⟩) (by assumption) ?_
                simp only [Act.put, List.setIfInBounds_toArray, List.set_cons_zero, List.set_cons_succ]
                refine wpAnyH_ready (rs := [10]) (by kernel_rfl) (by simp) ?_
                refine AllReadyH.cons rfl (fun K hK => ?_) AllReadyH.nil
                rw [if_pos (by rfl)]
                go_simp
                have hzl := HB.out.size
                have HZ := Lib.hid (TBlk.zero wy)
                replace HY2 := Lib.hid (HY2.out.below ((Below.refl wy.heap.size wy).alloc (Nat.le_refl _) (Obj.cells #[.string ⟨#[]⟩, .string ⟨#[]⟩, .int .u64 0, .int .u64 0, .int .u8 0, .int .i64 0, .slice none 0 0] 54)))
                replace HB := Lib.hid (HB.out.alloc HB.out.size (Obj.cells #[.string ⟨#[]⟩, .string ⟨#[]⟩, .int .u64 0, .int .u64 0, .int .u8 0, .int .i64 0, .slice none 0 0] 54))
                generalize wy.alloc _ = wa at HZ HB HY2 ⊢
                generalize wy.heap.size = z at HZ hzl HY2 ⊢
                clear hHeld
                refine hK.out _ _ (HSR.out.next HB.out) (fun hHeld => ?_)
                clear hK
                refine wpAnyH_ready (rs := [11]) (by kernel_rfl) (by simp) ?_
                refine AllReadyH.cons rfl (fun K hK => ?_) AllReadyH.nil
                rw [if_pos (by rfl)]
                refine wp_storeT HZ.out r.t hu HY1.out.one _ _ rfl rfl rfl rfl ?_
                have hzs := Blk.lt HZ.out
                replace HY2 := Lib.hid (HY2.out.far2 (Or.inl (Nat.le_refl _)) (setCells_other _ z (talkL r.t hu) 0))
                replace HB := Lib.hid (below_setCells HB.out hzl (talkL r.t hu) 0)
                have HZ2 := Lib.hid (setTalk (u := r.t) (hu := hu) HZ.out)
                clear HZ
                clear hHeld
                refine hK.out _ _ (HSR.out.next HB.out) (fun hHeld => ?_)
                clear hK
                refine wpAnyH_takeD 12 (i := 12) (v := bv) rfl rfl (by kernel_rfl) (by kernel_rfl) (by kernel_rfl) (fun _ _ _ h => h) (Or.inl ⟨by rfl, fun wq hSw => by go_simp⟩) (by assumption) ?_
                simp only [Act.put, List.setIfInBounds_toArray, List.set_cons_zero, List.set_cons_succ]
                refine wpAnyH_takeD 13 (i := 13) (v := .int .i64 r.e) rfl rfl (by kernel_rfl) (by kernel_rfl) (by kernel_rfl) (fun _ _ _ h => h) (Or.inl ⟨by rfl, fun wq hSw => by go_simp⟩) (by assumption) ?_
                simp only [Act.put, List.setIfInBounds_toArray, List.set_cons_zero, List.set_cons_succ]
                refine wpAnyH_done (by kernel_rfl) ?_ _
                go_wp2_with fail
                go_meet
                case rel => exact ⟨z, hu, rfl, rfl, HY2.out.more (by rw [size_setCells]; exact Nat.le_of_lt hzs), HZ2.out, HY1.out.empty_, HB.out, hzl, HF2.out⟩
            · as_aux_lemma =>
                rw [if_pos (by rfl)]
                go_simp
                have hzl := HB.out.size
                have HZ := Lib.hid (TBlk.zero wd)
                replace HB := Lib.hid (HB.out.alloc HB.out.size (Obj.cells #[.string ⟨#[]⟩, .string ⟨#[]⟩, .int .u64 0, .int .u64 0, .int .u8 0, .int .i64 0, .slice none 0 0] 54))
                generalize wd.alloc _ = wa at HZ HB ⊢
                generalize wd.heap.size = z at HZ hzl ⊢
                clear hHeld
                refine hK.out _ _ (HSR.out.next HB.out) (fun hHeld => ?_)
                clear hK
                refine wpAnyH_ready (rs := [5]) (by kernel_rfl) (by simp) ?_
                refine AllReadyH.cons rfl (fun K hK => ?_) AllReadyH.nil
                have hzlt := Blk.lt HZ.out
                rw [if_pos (by rfl)]
                go_simp
                (with_reducible refine (read_calls g L t2 h2 [] ((pieceS cuts n : Nat) : Int) _ (HP0.out.below hHeld.low) (HTZ.out.below hHeld.low (Nat.le_refl _)) hHeld.hb HL0.out HU2.out HT2.out HK2.out HO2.out HCN.out).mono ?_)
                rw [HRX.out]
                rintro e wy ⟨⟨hu, bv, rfl, hy1, hy2, hf1, hf2⟩, hb⟩
                dsimp only
                have HY1 := Lib.hid (HRH.out ▸ hy1)
                have HY2 := Lib.hid hy2
                have HF2 := Lib.hid (show ∀ k, bv.ownBlock = some k → wr.heap.size ≤ k from fun k hk => Nat.le_trans HB.out.size (hf2 k hk))
                have HOFF := Lib.hid (show bv.ownBlock ≠ some z from fun he => by have := hf2 _ he; omega)
                replace HZ := Lib.hid (HZ.out.below hb)
                replace HB := Lib.hid (HB.out.trans (hb.mono HB.out.size))
                clear hy1 hy2 hf1 hf2 hb hHeld
                refine hK.out _ _ (HSR.out.next HB.out) (fun hHeld => ?_)
                clear hK
                refine wpAnyH_takeD 18 (i := 6) (v := .tuple #[talkV r.t hu, bv, .int .i64 r.e]) rfl rfl (by kernel_rfl) (by kernel_rfl) (by kernel_rfl) (fun _ _ _ h => h) (Or.inl ⟨by rfl, fun wq hSw => by go_simp⟩) (by assumption) ?_
                simp only [Act.put, List.setIfInBounds_toArray, List.set_cons_zero, List.set_cons_succ]
                refine wpAnyH_takeD 25 (i := 7) (v := talkV r.t hu) rfl rfl (by kernel_rfl) (by kernel_rfl) (by kernel_rfl) (fun _ _ _ h => h) (Or.inl ⟨by rfl, fun wq hSw => by go_simp⟩) (by assumption) ?_
                simp only [Act.put, List.setIfInBounds_toArray, List.set_cons_zero, List.set_cons_succ]
                refine wpAnyH_takeD 26 (i := 8) (v := bv) rfl rfl (by kernel_rfl) (by kernel_rfl) (by kernel_rfl) (fun _ _ _ h => h) (Or.inl ⟨by rfl, fun wq hSw => by go_simp⟩) (by assumption) ?_
                simp only [Act.put, List.setIfInBounds_toArray, List.set_cons_zero, List.set_cons_succ]
                refine wpAnyH_takeD 27 (i := 9) (v := .int .i64 r.e) rfl rfl (by kernel_rfl) (by kernel_rfl) (by kernel_rfl) (fun _ _ _ h => h) (Or.inl ⟨by rfl, fun wq hSw => by go_simp⟩) (by assumption) ?_
                simp only [Act.put, List.setIfInBounds_toArray, List.set_cons_zero, List.set_cons_succ]
                refine wpAnyH_ready (rs := [11]) (by kernel_rfl) (by simp) ?_
                refine AllReadyH.cons rfl (fun K hK => ?_) AllReadyH.nil
                rw [if_pos (by rfl)]
                refine wp_storeT HZ.out r.t hu HY1.out.one _ _ rfl rfl rfl rfl ?_
                have hzs := Blk.lt HZ.out
                replace HY2 := Lib.hid (HY2.out.far2 (Or.inr HOFF.out) (setCells_other _ z (talkL r.t hu) 0))
                replace HB := Lib.hid (below_setCells HB.out hzl (talkL r.t hu) 0)
                have HZ2 := Lib.hid (setTalk (u := r.t) (hu := hu) HZ.out)
                clear HZ
                clear hHeld
                refine hK.out _ _ (HSR.out.next HB.out) (fun hHeld => ?_)
                clear hK
                refine wpAnyH_takeD 12 (i := 12) (v := bv) rfl rfl (by kernel_rfl) (by kernel_rfl) (by kernel_rfl) (fun _ _ _ h => h) (Or.inl ⟨by rfl, fun wq hSw => by go_simp⟩) (by assumption) ?_
                simp only [Act.put, List.setIfInBounds_toArray, List.set_cons_zero, List.set_cons_succ]
                refine wpAnyH_takeD 13 (i := 13) (v := .int .i64 r.e) rfl rfl (by kernel_rfl) (by kernel_rfl) (by kernel_rfl) (fun _ _ _ h => h) (Or.inl ⟨by rfl, fun wq hSw => by go_simp⟩) (by assumption) ?_
                simp only [Act.put, List.setIfInBounds_toArray, List.set_cons_zero, List.set_cons_succ]
                refine wpAnyH_done (by kernel_rfl) ?_ _
                go_wp2_with fail
                go_meet
                case rel => exact ⟨z, hu, rfl, rfl, HY2.out.more (by rw [size_setCells]; exact Nat.le_refl _), HZ2.out, HY1.out.empty_, HB.out, hzl, HF2.out⟩
        · as_aux_lemma =>
            rw [if_pos (by rfl)]
            go_simp
            have hzl := HB.out.size
            have HZ := Lib.hid (TBlk.zero wd)
            replace HB := Lib.hid (HB.out.alloc HB.out.size (Obj.cells #[.string ⟨#[]⟩, .string ⟨#[]⟩, .int .u64 0, .int .u64 0, .int .u8 0, .int .i64 0, .slice none 0 0] 54))
            generalize wd.alloc _ = wa at HZ HB ⊢
            generalize wd.heap.size = z at HZ hzl ⊢
            clear hHeld
            refine hK.out _ _ (HSR.out.next HB.out) (fun hHeld => ?_)
            clear hK
            refine wpAnyH_ready (rs := [4]) (by kernel_rfl) (by simp) ?_
            refine AllReadyH.cons rfl (fun K hK => ?_) AllReadyH.nil
            rw [if_pos (by rfl)]
            go_simp
            (with_reducible refine (piece_calls cv cuts n w.heap.size HN.out _ (HC.out.below hHeld.low)).mono ?_)
            rintro e wk ⟨rfl, rfl⟩
            dsimp only
            refine hK.out _ _ hHeld (fun hHeld => ?_)
            clear hK
            refine wpAnyH_ready (rs := [5]) (by kernel_rfl) (by simp) ?_
            refine AllReadyH.cons rfl (fun K hK => ?_) AllReadyH.nil
            have hzlt := Blk.lt HZ.out
            rw [if_pos (by rfl)]
            go_simp
            (with_reducible refine (read_calls g L t2 h2 [] ((pieceS cuts n : Nat) : Int) _ (HP0.out.below hHeld.low) (HTZ.out.below hHeld.low (Nat.le_refl _)) hHeld.hb HL0.out HU2.out HT2.out HK2.out HO2.out HCN.out).mono ?_)
            rw [HRX.out]
            rintro e wy ⟨⟨hu, bv, rfl, hy1, hy2, hf1, hf2⟩, hb⟩
            dsimp only
            have HY1 := Lib.hid (HRH.out ▸ hy1)
            have HY2 := Lib.hid hy2
            have HF2 := Lib.hid (show ∀ k, bv.ownBlock = some k → wr.heap.size ≤ k from fun k hk => Nat.le_trans HB.out.size (hf2 k hk))
            have HOFF := Lib.hid (show bv.ownBlock ≠ some z from fun he => by have := hf2 _ he; omega)
            replace HZ := Lib.hid (HZ.out.below hb)
            replace HB := Lib.hid (HB.out.trans (hb.mono HB.out.size))
            clear hy1 hy2 hf1 hf2 hb hHeld
            refine hK.out _ _ (HSR.out.next HB.out) (fun hHeld => ?_)
            clear hK
            refine wpAnyH_takeD 18 (i := 6) (v := .tuple #[talkV r.t hu, bv, .int .i64 r.e]) rfl rfl (by kernel_rfl) (by kernel_rfl) (by kernel_rfl) (fun _ _ _ h => h) (Or.inl ⟨by rfl, fun wq hSw => by go_simp⟩) (by assumption) ?_
            simp only [Act.put, List.setIfInBounds_toArray, List.set_cons_zero, List.set_cons_succ]
            refine wpAnyH_takeD 25 (i := 7) (v := talkV r.t hu) rfl rfl (by kernel_rfl) (by kernel_rfl) (by kernel_rfl) (fun _ _ _ h => h) (Or.inl ⟨by rfl, fun wq hSw => by go_simp⟩) (by assumption) ?_
            simp only [Act.put, List.setIfInBounds_toArray, List.set_cons_zero, List.set_cons_succ]
            refine wpAnyH_takeD 26 (i := 8) (v := bv) rfl rfl (by kernel_rfl) (by kernel_rfl) (by kernel_rfl) (fun _ _ _ h => h) (Or.inl ⟨by rfl, fun wq hSw => by go_simp⟩) (by assumption) ?_
            simp only [Act.put, List.setIfInBounds_toArray, List.set_cons_zero, List.set_cons_succ]
            refine wpAnyH_takeD 27 (i := 9) (v := .int .i64 r.e) rfl rfl (by kernel_rfl) (by kernel_rfl) (by kernel_rfl) (fun _ _ _ h => h) (Or.inl ⟨by rfl, fun wq hSw => by go_simp⟩) (by assumption) ?_
            simp only [Act.put, List.setIfInBounds_toArray, List.set_cons_zero, List.set_cons_succ]
            refine wpAnyH_ready (rs := [11]) (by kernel_rfl) (by simp) ?_
            refine AllReadyH.cons rfl (fun K hK => ?_) AllReadyH.nil
            rw [if_pos (by rfl)]
            refine wp_storeT HZ.out r.t hu HY1.out.one _ _ rfl rfl rfl rfl ?_
            have hzs := Blk.lt HZ.out
            replace HY2 := Lib.hid (HY2.out.far2 (Or.inr HOFF.out) (setCells_other _ z (talkL r.t hu) 0))
            replace HB := Lib.hid (below_setCells HB.out hzl (talkL r.t hu) 0)
            have HZ2 := Lib.hid (setTalk (u := r.t) (hu := hu) HZ.out)
            clear HZ
            clear hHeld
            refine hK.out _ _ (HSR.out.next HB.out) (fun hHeld => ?_)
            clear hK
            refine wpAnyH_takeD 12 (i := 12) (v := bv) rfl rfl (by kernel_rfl) (by kernel_rfl) (by kernel_rfl) (fun _ _ _ h => h) (Or.inl ⟨by rfl, fun wq hSw => by go_simp⟩) (by assumption) ?_
            simp only [Act.put, List.setIfInBounds_toArray, List.set_cons_zero, List.set_cons_succ]
            refine wpAnyH_takeD 13 (i := 13) (v := .int .i64 r.e) rfl rfl (by kernel_rfl) (by kernel_rfl) (by kernel_rfl) (fun _ _ _ h => h) (Or.inl ⟨by rfl, fun wq hSw => by go_simp⟩) (by assumption) ?_
            simp only [Act.put, List.setIfInBounds_toArray, List.set_cons_zero, List.set_cons_succ]
            refine wpAnyH_done (by kernel_rfl) ?_ _
            go_wp2_with fail
            go_meet
            case rel => exact ⟨z, hu, rfl, rfl, HY2.out.more (by rw [size_setCells]; exact Nat.le_refl _), HZ2.out, HY1.out.empty_, HB.out, hzl, HF2.out⟩
      obtain ⟨z, hu, rfl, rfl, hy2, hz, hy1, hb, hzl, hf2⟩ := hcut
      have HRLc := Lib.hid (HRL.out.next hb)
      have hzq : w.heap.size + 1 < z := Nat.lt_of_lt_of_le (Blk.lt HRL.out.zb) hzl
      have HOFF := Lib.hid (show u12.ownBlock ≠ some w.heap.size from fun he => by have h1 := hf2 _ he; have h2 := Blk.lt HRL.out.zb; omega)
      have HY1 := Lib.hid hy1
      have HZ := Lib.hid hz
      have HY2 := Lib.hid hy2
      obtain ⟨bA, bc, rfl, -⟩ := hy2
      clear hy1 hz hb hzl hf2 HRL HRR
      cases he : (r.e != 0) with
      | true =>
        have HRE := Lib.hid ((if_pos (show r.e ≠ 0 ∨ pieceS cuts n < r.out.length from .inl (by simpa using he))) ▸ HF.out)
        go_wp2_with (first
          | (refine wT HRLc.out.tb rfl _ rfl rfl ?_)
          | (refine wstT HRLc.out.zb t2 h2 HRLc.out.hb.one rfl _ _ rfl rfl rfl ?_; intro w9 hs ho hbl; have HX := Lib.hid hs; have HB9 := Lib.hid (hbl _ _ HRLc.out.low (by omega)); have HO9 := Lib.hid (own_other HRLc.out.ow (own_blk_ne HRLc.out.ow HRLc.out.zb (by decide)) ho); clear hs ho hbl))
        exact bodyPost_ret (results_reads rfl rfl rfl HX.out) rfl ⟨⟨_, _, (by rw [← HRE.out]; first | done | rfl), HRLc.out.hb.empty_, by rw [← HRE.out]; exact Bys.of_own HO9.out, (fun k hk => (HO9.out.lt _ hk).1)⟩, HB9.out⟩
      | false =>
        have he0 : r.e = 0 := by simpa using he
        have HEE := Lib.hid (HKE.out he0)
        by_cases hlen : pieceS cuts n < r.out.length
        · have HRE := Lib.hid ((if_pos (show r.e ≠ 0 ∨ pieceS cuts n < r.out.length from .inr hlen)) ▸ HF.out)
          have hlen' : ((pieceS cuts n : Nat) : Int) < (r.out.length : Int) := by omega
          clear he0
          go_upto_region 7 with (go_at_call 62; (with_reducible refine (piece_calls cv cuts n w.heap.size HN.out _ (HC.out.below HRLc.out.low)).mono ?_); rintro e wk ⟨rfl, rfl⟩)
          clear hlen hlen' he
          go_wp2_with (first
            | (refine wT HRLc.out.tb rfl _ rfl rfl ?_)
            | (refine wstT HRLc.out.zb t2 h2 HRLc.out.hb.one rfl _ _ rfl rfl rfl ?_; intro w9 hs ho hbl; have HX := Lib.hid hs; have HB9 := Lib.hid (hbl _ _ HRLc.out.low (by omega)); have HO9 := Lib.hid (own_other HRLc.out.ow (own_blk_ne HRLc.out.ow HRLc.out.zb (by decide)) ho); clear hs ho hbl))
          exact bodyPost_ret (results_reads rfl rfl rfl HX.out) rfl ⟨⟨_, _, (by rw [← HRE.out]; first | done | rfl), HRLc.out.hb.empty_, by rw [← HRE.out]; exact Bys.of_own HO9.out, (fun k hk => (HO9.out.lt _ hk).1)⟩, HB9.out⟩
        · have HF2 := Lib.hid ((if_neg (show ¬ (r.e ≠ 0 ∨ pieceS cuts n < r.out.length) from fun h => h.elim (fun h => h he0) hlen)) ▸ HF.out)
          have hlen' : ¬ ((pieceS cuts n : Nat) : Int) < (r.out.length : Int) := by omega
          have hol : r.out.length ≤ 40 := by have := pieceS_pos cuts n; omega
          clear he0 HF
          go_upto_region 8 with (go_at_call 62; (with_reducible refine (piece_calls cv cuts n w.heap.size HN.out _ (HC.out.below HRLc.out.low)).mono ?_); rintro e wk ⟨rfl, rfl⟩)
          clear hlen hlen' he
          go_upto_region 9 with (first
            | (refine wT HZ.out rfl _ rfl rfl ?_)
            | (refine wstT HRLc.out.tb r.t hu HY1.out.one rfl _ _ rfl rfl rfl ?_; intro w5 hs ho hbl; have HR5 := Lib.hid (show RL w r.t hu all u9 w5 from ⟨hs, (ho _ (by omega)).trans HRLc.out.zb, HY1.out.empty_, own_other HRLc.out.ow (own_blk_ne HRLc.out.ow HRLc.out.tb (by decide)) ho, hbl _ _ HRLc.out.low (Nat.le_refl _)⟩); have HY5 := Lib.hid (HY2.out.far2 (.inr HOFF.out) ho); clear hs ho hbl))
          clear HRLc HY2 HZ
          by_cases hemp : r.out = []
          · have HRE := Lib.hid ((if_pos hemp) ▸ HF2.out)
            have hq : ((r.out.length : Int) == 0) = true := by rw [hemp]; rfl
            clear hemp
            have hnz := Blk.lt HR5.out.zb
            go_wp2_with (first
              | (refine wT HR5.out.tb rfl _ rfl rfl ?_)
              | (refine wstT HR5.out.zb r.t hu HR5.out.hb.one rfl _ _ rfl rfl rfl ?_; intro w9 hs ho hbl; have HX := Lib.hid hs; have HB9 := Lib.hid (hbl _ _ HR5.out.low (by omega)); have HO9 := Lib.hid (own_other HR5.out.ow (own_blk_ne HR5.out.ow HR5.out.zb (by decide)) ho); clear hs ho hbl))
            exact bodyPost_ret (results_reads rfl rfl rfl HX.out) rfl ⟨⟨_, _, (by rw [← HRE.out]; first | done | rfl), HR5.out.hb.empty_, by rw [← HRE.out]; exact Bys.of_own HO9.out, (fun k hk => (HO9.out.lt _ hk).1)⟩, HB9.out⟩
          · have HRE := Lib.hid ((if_neg hemp) ▸ HF2.out)
            have hq : ((r.out.length : Int) == 0) = false := by
              rw [beq_eq_false_iff_ne]
              intro h0
              exact hemp (List.eq_nil_of_length_eq_zero (by omega))
            clear hemp HF2
            obtain ⟨bA2, bc2, hbe, -, -, hbr⟩ := HY5.out
            injection hbe with hb1 hb2 hb3
            subst hb1
            have HBR := Lib.hid hbr
            clear hbr hb2 hb3
            go_wp2_with (at_builtin; refine wpList_append_any _ rfl (.tmp 46) (.tmp 47) _ rfl w.heap.size 5 i0 _ 1 1 Tryz.underlying47 JI.out J0.out J1.out J2.out rfl (by omega) u9 all.length (byteL all) rfl HR5.out.ow wc.heap.size bA r.out.length bc (byteL r.out) rfl HBR.out (byteL_one _) (by unfold maxLen; omega) (by omega) HR5.out.low.size ?_; intro v6 w6 hown0 hgr hor; have hown : w6.ownsRow w.heap.size 5 1 v6 (all ++ r.out).length (byteL (all ++ r.out)) := (by have h := hown0; rw [← List.map_append] at h; rw [List.length_append]; exact h); have HR6 := Lib.hid (show RL w r.t hu (all ++ r.out) v6 w6 from ⟨Blk.grown HR5.out.tb hgr (fun hh => own_blk_ne HR5.out.ow HR5.out.tb (by decide) hh.symm), Blk.grown HR5.out.zb hgr (fun hh => own_blk_ne HR5.out.ow HR5.out.zb (by decide) hh.symm), HR5.out.hb.empty_, hown, HR5.out.low.grown hgr HR5.out.low.size (fun k hk => (HR5.out.ow.lt _ hk).1)⟩); clear hown0 hown hgr hor)
            go_roundw
            case rel => exact ⟨n + 1, r.t, hu, all ++ r.out, by omega, by go_num, HR6.out, HEE.out.1.trans HE.out.1, HEE.out.2.1.trans HE.out.2.1, HEE.out.2.2.trans HE.out.2.2, by rw [show 60 - (n + 1) = 59 - n by omega]; exact HRE.out, by rw [List.length_append]; omega⟩
            case measure => simp [intOf]; omega
    · have hn60 : n = 60 := by omega
      subst hn60
      have HRE := Lib.hid (show (⟨t2, all, false⟩ : Rs) = R from HRR.out)
      have hnz := Blk.lt HRL.out.zb
      go_wp2_with (first
        | (refine wT HRL.out.tb rfl _ rfl rfl ?_)
        | (refine wstT HRL.out.zb t2 h2 HRL.out.hb.one rfl _ _ rfl rfl rfl ?_; intro w9 hs ho hbl; have HX := Lib.hid hs; have HB9 := Lib.hid (hbl _ _ HRL.out.low (by omega)); have HO9 := Lib.hid (own_other HRL.out.ow (own_blk_ne HRL.out.ow HRL.out.zb (by decide)) ho); clear hs ho hbl))
      exact bodyPost_ret (results_reads rfl rfl rfl HX.out) rfl ⟨⟨_, _, (by rw [← HRE.out]; first | done | rfl), HRL.out.hb.empty_, by rw [← HRE.out]; exact Bys.of_own HO9.out, (fun k hk => (HO9.out.lt _ hk).1)⟩, HB9.out⟩
end Go.Proofs.YtlenlldiimohjaaGreatDoor
