/-
  Package rules: Wstat.
-/
import Derived.Test.YtlenlldiimohjaaDoorWsL
import Derived.Test.YtlenlldiimohjaaDoorChg2
import Derived.Test.YtlenlldiimohjaaDoorChg3
import Derived.Laws.EntriesVeiled
namespace Go.Proofs.YtlenlldiimohjaaDoor
open Go.ChangeShapes Go.WideShapes Go.ChangeAt Go.RowKit

theorem results_wstat {tmps : Array Value} {w : World} {q : Nat} {n : Nd} {e : Int} (h12 : tmps.getD 8 undef = .pointer (some ⟨q, 0, none⟩)) (h13 : tmps.getD 9 undef = .int .i64 e) (hk : NBlk w q n) :
    (results Tryd.f38 tmps).run Tryd.prog w = .ok (.tuple #[nodeV n, .int .i64 e]) w := by
  have h12' : tmps[8]?.getD undef = .pointer (some ⟨q, 0, none⟩) := by simpa using h12
  have h13' : tmps[9]?.getD undef = .int .i64 e := by simpa using h13
  simp [results, Tryd.results38, h12', h13', asAddr, loadVar_node hk]

/-- Where Wstat stands before it has its change. -/
def WA (w0 : World) (L : List Acct) (g : Nat) (n p : Nd) (taken full : Bool) (s : St) (w : World) : Prop := PTab w g L ∧ FBlk w w0.heap.size n p taken full ∧ SBlk w (w0.heap.size + 1) s ∧ NBlk w (w0.heap.size + 1 + 1) Nd.none ∧ Below w0.heap.size w0 w ∧ Ready w
section
variable {w0 w w' : World} {g : Nat} {L : List Acct} {user : ByteArray} {n p : Nd} {taken full : Bool} {s : St}
theorem WA.next (h : WA w0 L g n p taken full s w) (hb : Below w.heap.size w w') : WA w0 L g n p taken full s w' := ⟨h.1.below hb, h.2.1.below hb, h.2.2.1.below hb, h.2.2.2.1.below hb, h.2.2.2.2.1.trans (hb.mono h.2.2.2.2.1.size), h.2.2.2.2.2.below hb (Nat.le_refl _)⟩
theorem WA.pt (h : WA w0 L g n p taken full s w) : PTab w g L := h.1
theorem WA.fb (h : WA w0 L g n p taken full s w) : FBlk w w0.heap.size n p taken full := h.2.1
theorem WA.sb (h : WA w0 L g n p taken full s w) : SBlk w (w0.heap.size + 1) s := h.2.2.1
theorem WA.rb (h : WA w0 L g n p taken full s w) : NBlk w (w0.heap.size + 1 + 1) Nd.none := h.2.2.2.1
theorem WA.low (h : WA w0 L g n p taken full s w) : Below w0.heap.size w0 w := h.2.2.2.2.1
theorem WA.ready (h : WA w0 L g n p taken full s w) : Ready w := h.2.2.2.2.2
theorem WA.lt (h : WA w0 L g n p taken full s w) : w0.heap.size + 1 + 1 < w.heap.size := Blk.lt h.rb
variable {ops : Array Oper} {op : Oper} {a : Act}
theorem yWN (hw : Region.wanted op (yielded ops a.tmps) = true) (x : Operand) (ho : op.op = .load 34 x) (hx : a.eval x = .pointer (some ⟨w0.heap.size, 0, none⟩)) : YieldsIf Tryd.prog ops (WA w0 L g n p taken full s) op (nodeV n) a :=
  yieldsIf_load_mid hw _ x ho _ _ hx (nodeL n) _ (fun _ hS => Blk.range hS.2.1 0 _ rfl) Tryd.underlying34 rfl node_size
theorem yWS (hw : Region.wanted op (yielded ops a.tmps) = true) (x : Operand) (ho : op.op = .load 66 x) (hx : a.eval x = .pointer (some ⟨w0.heap.size + 1, 0, none⟩)) : YieldsIf Tryd.prog ops (WA w0 L g n p taken full s) op (statV s) a :=
  yieldsIf_load_mid hw _ x ho _ _ hx (statL s) _ (fun _ hS => Blk.range hS.2.2.1 0 _ rfl) Tryd.underlying66 rfl stat_size
end

/-- And with its change, at c. -/
def WL (w0 : World) (c : Nat) (L : List Acct) (g : Nat) (user : ByteArray) (n p : Nd) (taken full : Bool) (s : St) (w : World) : Prop := WA w0 L g n p taken full s w ∧ Blk w c 90 (chL g user n p taken full s).toArray
section
variable {w0 w w' : World} {c g : Nat} {L : List Acct} {user : ByteArray} {n p : Nd} {taken full : Bool} {s : St}
theorem WL.next (h : WL w0 c L g user n p taken full s w) (hb : Below w.heap.size w w') : WL w0 c L g user n p taken full s w' := ⟨h.1.next hb, h.2.below hb h.2.lt⟩
theorem WL.hs (h : WL w0 c L g user n p taken full s w) : HS w c L g user n p taken full s w := ⟨h.2, h.1.pt, Below.refl _ _⟩
theorem WL.wa (h : WL w0 c L g user n p taken full s w) : WA w0 L g n p taken full s w := h.1
theorem WL.start (h : WA w0 L g n p taken full s w) : WL w0 w.heap.size L g user n p taken full s (w.alloc (Obj.cells (chL g user n p taken full s).toArray 90)) := ⟨h.next ((Below.refl _ _).alloc (Nat.le_refl _) _), Blk.new _ _ _⟩
end

abbrev askedL : List Value := [.int .u16 1, .func (.func 52) #[] #[], .int .u16 2, .func (.func 52) #[] #[], .int .u16 4, .func (.func 52) #[] #[], .int .u16 8, .func (.func 52) #[] #[], .int .u16 16, .func (.func 52) #[] #[], .int .u16 32, .func (.func 53) #[] #[], .int .u16 64, .func (.func 52) #[] #[], .int .u16 128, .func (.func 54) #[] #[], .int .u16 256, .func (.func 55) #[] #[], .int .u16 512, .func (.func 56) #[] #[], .int .u16 1024, .func (.func 52) #[] #[], .int .u16 2048, .func (.func 57) #[] #[], .int .u16 4096, .func (.func 52) #[] #[]]
/-- And with the list of what is asked, at qa. -/
def WM (w0 : World) (c qa : Nat) (L : List Acct) (g : Nat) (user : ByteArray) (n p : Nd) (taken full : Bool) (s : St) (w : World) : Prop := WL w0 c L g user n p taken full s w ∧ Blk w qa 93 askedL.toArray
/-- Behind the questions: the node that is changed lies at q. -/
def WE (w0 : World) (q : Nat) (n : Nd) (s : St) (w : World) : Prop := SBlk w (w0.heap.size + 1) s ∧ NBlk w (w0.heap.size + 1 + 1) Nd.none ∧ NBlk w q n ∧ Below w0.heap.size w0 w ∧ w0.heap.size + 1 + 1 < q
section
variable {w0 w w' : World} {c qa q g : Nat} {L : List Acct} {user : ByteArray} {n m p : Nd} {taken full : Bool} {s : St} {b : Nat → Bool} {e : Nat → Int}
theorem WM.next (h : WM w0 c qa L g user n p taken full s w) (hb : Below w.heap.size w w') : WM w0 c qa L g user n p taken full s w' := ⟨h.1.next hb, h.2.below hb h.2.lt⟩
theorem WM.start (h : WL w0 c L g user n p taken full s w) : WM w0 c w.heap.size L g user n p taken full s (w.alloc (Obj.cells askedL.toArray 93)) := ⟨h.next ((Below.refl _ _).alloc (Nat.le_refl _) _), Blk.new _ _ _⟩
theorem WM.box (h : WM w0 c qa L g user n p taken full s w) (o : Obj) : WM w0 c qa L g user n p taken full s (w.alloc o) := h.next ((Below.refl _ _).alloc (Nat.le_refl _) o)
theorem WM.hs (h : WM w0 c qa L g user n p taken full s w) : HS w c L g user n p taken full s w := h.1.hs
theorem WM.wa (h : WM w0 c qa L g user n p taken full s w) : WA w0 L g n p taken full s w := h.1.1
theorem WM.ak (h : WM w0 c qa L g user n p taken full s w) : Blk w qa 93 askedL.toArray := h.2
theorem WE.sb (h : WE w0 q n s w) : SBlk w (w0.heap.size + 1) s := h.1
theorem WE.rb (h : WE w0 q n s w) : NBlk w (w0.heap.size + 1 + 1) Nd.none := h.2.1
theorem WE.nb (h : WE w0 q n s w) : NBlk w q n := h.2.2.1
theorem WE.low (h : WE w0 q n s w) : Below w0.heap.size w0 w := h.2.2.2.1
theorem WE.set (h : WE w0 q n s w) (i : Nat) (v : Value) (m : Nd) (hm : NBlk (w.setCell ⟨q, i, none⟩ v) q m) : WE w0 q m s (w.setCell ⟨q, i, none⟩ v) := by
  have hq := h.2.2.2.2
  exact ⟨Blk.far h.sb (by show w0.heap.size + 1 ≠ q; omega) v, Blk.far h.rb (by show w0.heap.size + 1 + 1 ≠ q; omega) v, hm, h.low.setCell (by show w0.heap.size ≤ q; omega) v, hq⟩
theorem w_err (hb : touchB s (recS n) = b) (he : eAt L user n p taken s = e) {k : Nat} (hk : k < 13) (h0 : firstE b e k = 0) (h1 : b k = true) (h2 : (e k != 0) = true) : wstatS L user n p taken s = (Nd.none, e k) := by
  have h3 : firstE b e 13 = e k := by
    have h4 := first_yes h0 h1
    have h5 := first_stays (b := b) (e := e) (k := k + 1) (by rw [h4]; exact h2) (13 - (k + 1))
    rw [show k + 1 + (13 - (k + 1)) = 13 by omega] at h5
    rw [h5, h4]
  unfold wstatS
  rw [hb, he, h3, if_pos h2]
theorem w_ok (hb : touchB s (recS n) = b) (he : eAt L user n p taken s = e) (h : firstE b e 13 = 0) : wstatS L user n p taken s = (chN n s b, 0) := by
  unfold wstatS
  rw [hb, he, h, if_neg (by decide)]
end

theorem WA.start (w : World) (L : List Acct) (g : Nat) (n p : Nd) (taken full : Bool) (s : St) (hp : PTab w g L) (hr : Ready w) : WA w L g n p taken full s (((w.alloc (Obj.cells #[.int .u64 n.path, .int .u64 n.parent, .string n.name, .int .u32 n.mode, .string n.uid, .string n.gid, .string n.muid, .int .u32 n.atime, .int .u32 n.mtime, .int .u32 n.vers, .int .u64 n.length, .int .i64 n.opens, .int .i64 n.kids, .int .u64 p.path, .int .u64 p.parent, .string p.name, .int .u32 p.mode, .string p.uid, .string p.gid, .string p.muid, .int .u32 p.atime, .int .u32 p.mtime, .int .u32 p.vers, .int .u64 p.length, .int .i64 p.opens, .int .i64 p.kids, .bool taken, .bool full] 36)).alloc (Obj.cells #[.int .u16 s.typ, .int .u32 s.dev, .int .u8 s.kind, .int .u32 s.vers, .int .u64 s.path, .int .u32 s.mode, .int .u32 s.atime, .int .u32 s.mtime, .int .u64 s.length, .string s.name, .string s.uid, .string s.gid, .string s.muid] 66)).alloc (Obj.cells #[.int .u64 0, .int .u64 0, .string ⟨#[]⟩, .int .u32 0, .string ⟨#[]⟩, .string ⟨#[]⟩, .string ⟨#[]⟩, .int .u32 0, .int .u32 0, .int .u32 0, .int .u64 0, .int .i64 0, .int .i64 0] 34)) := by
  have up : ∀ (W : World) (o : Obj), Below W.heap.size W (W.alloc o) := fun W o => (Below.refl _ _).alloc (Nat.le_refl _) o
  have h1 := FBlk.new w n p taken full
  have h2 : SBlk ((w.alloc (Obj.cells (factsL n p taken full).toArray 36)).alloc (Obj.cells (statL s).toArray 66)) (w.alloc (Obj.cells (factsL n p taken full).toArray 36)).heap.size s := Blk.new _ _ _
  have h3 := NBlk.zero ((w.alloc (Obj.cells (factsL n p taken full).toArray 36)).alloc (Obj.cells (statL s).toArray 66))
  simp only [World.size_alloc] at h2 h3
  exact ⟨((hp.below (up _ _)).below (up _ _)).below (up _ _), (h1.below (up _ _)).below (up _ _), h2.below (up _ _), h3, (((Below.refl _ _).alloc (Nat.le_refl _) _).alloc (by simp) _).alloc (by simp; omega) _, ((hr.alloc _).alloc _).alloc _⟩

set_option maxRecDepth 100000 in
set_option maxHeartbeats 6400000 in
theorem wstat_calls (g : Nat) (L : List Acct) (user : ByteArray) (n p : Nd) (taken full : Bool) (s : St) (w : World) (h : PTab w g L) (hr : Ready w) (hu : user.size ≤ 16777216) (hn : n.ok) (hp : p.ok) (hs : s.gid.size ≤ 16777216) :
    Calls Tryd.prog 38 #[.pointer (some ⟨g, 0, none⟩), .string user, factsV n p taken full, statV s] w fun e w' => e = .returned (.tuple #[nodeV (wstatS L user n p taken s).1, .int .i64 (wstatS L user n p taken s).2]) ∧ Below w.heap.size w w' := by
  have HR := Lib.hid (WA.start w L g n p taken full s h hr)
  have HU := Lib.hid hu
  have HN := Lib.hid hn
  have HP := Lib.hid hp
  have HSG := Lib.hid hs
  obtain ⟨b, hb⟩ : ∃ b, touchB s (recS n) = b := ⟨_, rfl⟩
  obtain ⟨e, he⟩ : ∃ e, eAt L user n p taken s = e := ⟨_, rfl⟩
  obtain ⟨tc, ht⟩ : ∃ t : Int, ((orN b 13 : Nat) : Int) = t := ⟨_, rfl⟩
  have HTO := Lib.hid (show ∀ i, i < 13 → (bits .and .u16 tc ((2 ^ i : Nat) : Int) == 0) = !b i from fun i hi => by rw [← ht]; exact and_16 b i hi)
  have HBE := Lib.hid (And.intro hb (And.intro he ht))
  clear h hr hu hn hp hs hb he ht
  go_enter Tryd.func38, Tryd.ntmps38
  go_upto_region 1 with (fail)
  generalize ((w.alloc (Obj.cells #[.int .u64 n.path, .int .u64 n.parent, .string n.name, .int .u32 n.mode, .string n.uid, .string n.gid, .string n.muid, .int .u32 n.atime, .int .u32 n.mtime, .int .u32 n.vers, .int .u64 n.length, .int .i64 n.opens, .int .i64 n.kids, .int .u64 p.path, .int .u64 p.parent, .string p.name, .int .u32 p.mode, .string p.uid, .string p.gid, .string p.muid, .int .u32 p.atime, .int .u32 p.mtime, .int .u32 p.vers, .int .u64 p.length, .int .i64 p.opens, .int .i64 p.kids, .bool taken, .bool full] 36)).alloc (Obj.cells #[.int .u16 s.typ, .int .u32 s.dev, .int .u8 s.kind, .int .u32 s.vers, .int .u64 s.path, .int .u32 s.mode, .int .u32 s.atime, .int .u32 s.mtime, .int .u64 s.length, .string s.name, .string s.uid, .string s.gid, .string s.muid] 66)).alloc (Obj.cells #[.int .u64 0, .int .u64 0, .string ⟨#[]⟩, .int .u32 0, .string ⟨#[]⟩, .string ⟨#[]⟩, .string ⟨#[]⟩, .int .u32 0, .int .u32 0, .int .u32 0, .int .u64 0, .int .i64 0, .int .i64 0] 34) = w1 at HR ⊢
  refine wp_region_held_drew (S := WA w L g n p taken full s) (by kernel_rfl) (HR.out.next (below_drew _)) (fun hHeld => ?_)
  refine wpAnyH_takeD 17 (i := 0) rfl rfl (by kernel_rfl) (by kernel_rfl) (by kernel_rfl) (fun _ _ _ h => h) (yWS (by rfl) _ rfl rfl) (by assumption) ?_
  simp only [Act.put, List.setIfInBounds_toArray, List.set_cons_zero, List.set_cons_succ]
  refine wpAnyH_takeD 18 (i := 1) (v := .pointer (some ⟨w.heap.size, 0, none⟩)) rfl rfl (by kernel_rfl) (by kernel_rfl) (by kernel_rfl) (fun _ _ _ h => h) (Or.inl ⟨by rfl, fun wq hSw => by go_simp⟩) (by assumption) ?_
  simp only [Act.put, List.setIfInBounds_toArray, List.set_cons_zero, List.set_cons_succ]
  refine wpAnyH_takeD 19 (i := 2) rfl rfl (by kernel_rfl) (by kernel_rfl) (by kernel_rfl) (fun _ _ _ h => h) (yWN (by rfl) _ rfl rfl) (by assumption) ?_
  simp only [Act.put, List.setIfInBounds_toArray, List.set_cons_zero, List.set_cons_succ]
  refine wpAnyH_ready (rs := [3]) (by kernel_rfl) (by simp) ?_
  refine AllReadyH.cons rfl (fun K hK => ?_) AllReadyH.nil
  rw [if_pos (by rfl)]
  go_simp
  (with_reducible refine (record_calls n _ HN.out).mono ?_)
  rintro e w3 ⟨rfl, hb⟩
  dsimp only
  have hOld := hHeld.next hb
  clear hHeld hb
  refine hK.out _ _ hOld (fun hHeld => ?_)
  clear hK hOld
  refine wpAnyH_ready (rs := [4]) (by kernel_rfl) (by simp) ?_
  refine AllReadyH.cons rfl (fun K hK => ?_) AllReadyH.nil
  rw [if_pos (by rfl)]
  go_simp
  (with_reducible refine (touched_calls s (recS n) _).mono ?_)
  rw [HBE.out.1, HBE.out.2.2]
  rintro e w3 ⟨rfl, hb⟩
  dsimp only
  have hOld := hHeld.next hb
  clear hHeld hb
  refine hK.out _ _ hOld (fun hHeld => ?_)
  clear hK hOld
  refine wpAnyH_takeD 10 (i := 5) (v := .int .u16 tc) rfl rfl (by kernel_rfl) (by kernel_rfl) (by kernel_rfl) (fun _ _ _ h => h) (Or.inl ⟨by rfl, fun wq hSw => by go_simp⟩) (by assumption) ?_
  simp only [Act.put, List.setIfInBounds_toArray, List.set_cons_zero, List.set_cons_succ]
  refine wpAnyH_done (by kernel_rfl) ?_ _
  replace HR := Lib.hid hHeld
  clear hHeld
  go_upto_region 3 with (first
    | (refine wfF HR.out.fb rfl _ rfl rfl ?_)
    | (refine wS HR.out.sb rfl _ rfl rfl ?_))
  have HW := Lib.hid (WL.start (user := user) HR.out)
  clear HR
  generalize w3.alloc (Obj.cells _ _) = w4 at HW ⊢
  generalize w3.heap.size = c at HW ⊢
  go_upto_region 4 with (fail)
  have HM := Lib.hid (WM.start HW.out)
  clear HW
  generalize w4.alloc (Obj.cells _ _) = w5 at HM ⊢
  generalize w4.heap.size = qa at HM ⊢
  go_wp2_with fail
  go_loopw [44] (fun i wr => ∃ k : Nat, k ≤ 13 ∧ i = .int .i64 k ∧ firstE b e k = 0 ∧ WM w c qa L g user n p taken full s wr) (fun i _ => 13 - (intOf i).toNat)
  case atStart => exact ⟨0, by omega, rfl, rfl, HM.out⟩
  case round =>
    clear HM
    obtain ⟨k, hk, rfl, hf, hm⟩ := hrel
    have HF := Lib.hid hf
    have HM := Lib.hid hm
    clear hf hm
    rcases (show k = 0 ∨ k = 1 ∨ k = 2 ∨ k = 3 ∨ k = 4 ∨ k = 5 ∨ k = 6 ∨ k = 7 ∨ k = 8 ∨ k = 9 ∨ k = 10 ∨ k = 11 ∨ k = 12 ∨ k = 13 by omega) with rfl | rfl | rfl | rfl | rfl | rfl | rfl | rfl | rfl | rfl | rfl | rfl | rfl | rfl
    · have a0 : wr.cell? ⟨qa, 0, none⟩ = some (.int .u16 1) := Blk.cell HM.out.ak 0
      have a1 : wr.cell? ⟨qa, 1, none⟩ = some (.func (.func 52) #[] #[]) := Blk.cell HM.out.ak 1
      have ht : (bits .and .u16 tc 1 == 0) = !b 0 := HTO.out 0 (by omega)
      have HMB := Lib.hid (HM.out.box (Obj.cells #[.int .u16 1, .func (.func 52) #[] #[]] 93))
      cases hb : b 0
      · rw [hb] at ht
        have HF2 := Lib.hid (first_no HF.out hb)
        clear hb
        go_wp2_with fail
        go_roundw
        case rel => exact ⟨1, by omega, rfl, HF2.out, HMB.out⟩
        case measure => simp [intOf]
      · rw [hb] at ht
        have HB := Lib.hid hb
        clear hb
        have he : (e 0 != 0) = true := by rw [← HBE.out.2.1]; rfl
        have HK := Lib.hid he
        go_wp2_with (first
          | (go_at_call 52; (with_reducible refine (never_calls c _).mono ?_); rw [show (97 : Int) = e 0 from by rw [← HBE.out.2.1]; rfl]; rintro e2 wg ⟨rfl, hb⟩; replace HMB := Lib.hid (HMB.out.next hb); clear hb)
          | (refine wl_store HMB.out.wa.rb Nd.none rfl _ _ rfl rfl rfl ?_; intro wh hs ho hz hbl; have HX := Lib.hid hs; have HL := Lib.hid (hbl _ _ HMB.out.wa.low (by omega)); clear hs ho hz hbl))
        exact bodyPost_ret (results_wstat rfl rfl HX.out) rfl ⟨by rw [w_err HBE.out.1 HBE.out.2.1 (by omega) HF.out HB.out HK.out], HL.out⟩
    · have a0 : wr.cell? ⟨qa, 2, none⟩ = some (.int .u16 2) := Blk.cell HM.out.ak 2
      have a1 : wr.cell? ⟨qa, 3, none⟩ = some (.func (.func 52) #[] #[]) := Blk.cell HM.out.ak 3
      have ht : (bits .and .u16 tc 2 == 0) = !b 1 := HTO.out 1 (by omega)
      have HMB := Lib.hid (HM.out.box (Obj.cells #[.int .u16 2, .func (.func 52) #[] #[]] 93))
      cases hb : b 1
      · rw [hb] at ht
        have HF2 := Lib.hid (first_no HF.out hb)
        clear hb
        go_wp2_with fail
        go_roundw
        case rel => exact ⟨2, by omega, rfl, HF2.out, HMB.out⟩
        case measure => simp [intOf]
      · rw [hb] at ht
        have HB := Lib.hid hb
        clear hb
        have he : (e 1 != 0) = true := by rw [← HBE.out.2.1]; rfl
        have HK := Lib.hid he
        go_wp2_with (first
          | (go_at_call 52; (with_reducible refine (never_calls c _).mono ?_); rw [show (97 : Int) = e 1 from by rw [← HBE.out.2.1]; rfl]; rintro e2 wg ⟨rfl, hb⟩; replace HMB := Lib.hid (HMB.out.next hb); clear hb)
          | (refine wl_store HMB.out.wa.rb Nd.none rfl _ _ rfl rfl rfl ?_; intro wh hs ho hz hbl; have HX := Lib.hid hs; have HL := Lib.hid (hbl _ _ HMB.out.wa.low (by omega)); clear hs ho hz hbl))
        exact bodyPost_ret (results_wstat rfl rfl HX.out) rfl ⟨by rw [w_err HBE.out.1 HBE.out.2.1 (by omega) HF.out HB.out HK.out], HL.out⟩
    · have a0 : wr.cell? ⟨qa, 4, none⟩ = some (.int .u16 4) := Blk.cell HM.out.ak 4
      have a1 : wr.cell? ⟨qa, 5, none⟩ = some (.func (.func 52) #[] #[]) := Blk.cell HM.out.ak 5
      have ht : (bits .and .u16 tc 4 == 0) = !b 2 := HTO.out 2 (by omega)
      have HMB := Lib.hid (HM.out.box (Obj.cells #[.int .u16 4, .func (.func 52) #[] #[]] 93))
      cases hb : b 2
      · rw [hb] at ht
        have HF2 := Lib.hid (first_no HF.out hb)
        clear hb
        go_wp2_with fail
        go_roundw
        case rel => exact ⟨3, by omega, rfl, HF2.out, HMB.out⟩
        case measure => simp [intOf]
      · rw [hb] at ht
        have HB := Lib.hid hb
        clear hb
        have he : (e 2 != 0) = true := by rw [← HBE.out.2.1]; rfl
        have HK := Lib.hid he
        go_wp2_with (first
          | (go_at_call 52; (with_reducible refine (never_calls c _).mono ?_); rw [show (97 : Int) = e 2 from by rw [← HBE.out.2.1]; rfl]; rintro e2 wg ⟨rfl, hb⟩; replace HMB := Lib.hid (HMB.out.next hb); clear hb)
          | (refine wl_store HMB.out.wa.rb Nd.none rfl _ _ rfl rfl rfl ?_; intro wh hs ho hz hbl; have HX := Lib.hid hs; have HL := Lib.hid (hbl _ _ HMB.out.wa.low (by omega)); clear hs ho hz hbl))
        exact bodyPost_ret (results_wstat rfl rfl HX.out) rfl ⟨by rw [w_err HBE.out.1 HBE.out.2.1 (by omega) HF.out HB.out HK.out], HL.out⟩
    · have a0 : wr.cell? ⟨qa, 6, none⟩ = some (.int .u16 8) := Blk.cell HM.out.ak 6
      have a1 : wr.cell? ⟨qa, 7, none⟩ = some (.func (.func 52) #[] #[]) := Blk.cell HM.out.ak 7
      have ht : (bits .and .u16 tc 8 == 0) = !b 3 := HTO.out 3 (by omega)
      have HMB := Lib.hid (HM.out.box (Obj.cells #[.int .u16 8, .func (.func 52) #[] #[]] 93))
      cases hb : b 3
      · rw [hb] at ht
        have HF2 := Lib.hid (first_no HF.out hb)
        clear hb
        go_wp2_with fail
        go_roundw
        case rel => exact ⟨4, by omega, rfl, HF2.out, HMB.out⟩
        case measure => simp [intOf]
      · rw [hb] at ht
        have HB := Lib.hid hb
        clear hb
        have he : (e 3 != 0) = true := by rw [← HBE.out.2.1]; rfl
        have HK := Lib.hid he
        go_wp2_with (first
          | (go_at_call 52; (with_reducible refine (never_calls c _).mono ?_); rw [show (97 : Int) = e 3 from by rw [← HBE.out.2.1]; rfl]; rintro e2 wg ⟨rfl, hb⟩; replace HMB := Lib.hid (HMB.out.next hb); clear hb)
          | (refine wl_store HMB.out.wa.rb Nd.none rfl _ _ rfl rfl rfl ?_; intro wh hs ho hz hbl; have HX := Lib.hid hs; have HL := Lib.hid (hbl _ _ HMB.out.wa.low (by omega)); clear hs ho hz hbl))
        exact bodyPost_ret (results_wstat rfl rfl HX.out) rfl ⟨by rw [w_err HBE.out.1 HBE.out.2.1 (by omega) HF.out HB.out HK.out], HL.out⟩
    · have a0 : wr.cell? ⟨qa, 8, none⟩ = some (.int .u16 16) := Blk.cell HM.out.ak 8
      have a1 : wr.cell? ⟨qa, 9, none⟩ = some (.func (.func 52) #[] #[]) := Blk.cell HM.out.ak 9
      have ht : (bits .and .u16 tc 16 == 0) = !b 4 := HTO.out 4 (by omega)
      have HMB := Lib.hid (HM.out.box (Obj.cells #[.int .u16 16, .func (.func 52) #[] #[]] 93))
      cases hb : b 4
      · rw [hb] at ht
        have HF2 := Lib.hid (first_no HF.out hb)
        clear hb
        go_wp2_with fail
        go_roundw
        case rel => exact ⟨5, by omega, rfl, HF2.out, HMB.out⟩
        case measure => simp [intOf]
      · rw [hb] at ht
        have HB := Lib.hid hb
        clear hb
        have he : (e 4 != 0) = true := by rw [← HBE.out.2.1]; rfl
        have HK := Lib.hid he
        go_wp2_with (first
          | (go_at_call 52; (with_reducible refine (never_calls c _).mono ?_); rw [show (97 : Int) = e 4 from by rw [← HBE.out.2.1]; rfl]; rintro e2 wg ⟨rfl, hb⟩; replace HMB := Lib.hid (HMB.out.next hb); clear hb)
          | (refine wl_store HMB.out.wa.rb Nd.none rfl _ _ rfl rfl rfl ?_; intro wh hs ho hz hbl; have HX := Lib.hid hs; have HL := Lib.hid (hbl _ _ HMB.out.wa.low (by omega)); clear hs ho hz hbl))
        exact bodyPost_ret (results_wstat rfl rfl HX.out) rfl ⟨by rw [w_err HBE.out.1 HBE.out.2.1 (by omega) HF.out HB.out HK.out], HL.out⟩
    · have a0 : wr.cell? ⟨qa, 10, none⟩ = some (.int .u16 32) := Blk.cell HM.out.ak 10
      have a1 : wr.cell? ⟨qa, 11, none⟩ = some (.func (.func 53) #[] #[]) := Blk.cell HM.out.ak 11
      have ht : (bits .and .u16 tc 32 == 0) = !b 5 := HTO.out 5 (by omega)
      have HMB := Lib.hid (HM.out.box (Obj.cells #[.int .u16 32, .func (.func 53) #[] #[]] 93))
      cases hb : b 5
      · rw [hb] at ht
        have HF2 := Lib.hid (first_no HF.out hb)
        clear hb
        go_wp2_with fail
        go_roundw
        case rel => exact ⟨6, by omega, rfl, HF2.out, HMB.out⟩
        case measure => simp [intOf]
      · rw [hb] at ht
        have HB := Lib.hid hb
        clear hb
        cases he : (e 5 != 0)
        · have HF2 := Lib.hid (show firstE b e 6 = 0 from by rw [first_yes HF.out HB.out]; simpa using he)
          go_wp2_with (first
            | (go_at_call 53; (with_reducible refine (mode_calls c L g user n p taken full s _ HMB.out.hs HU.out HN.out).mono ?_); rw [show eMode (mineB L user n) n s = e 5 from by rw [← HBE.out.2.1]; rfl]; rintro e2 wg ⟨rfl, hb⟩; replace HMB := Lib.hid (HMB.out.next hb); clear hb))
          go_roundw
          case rel => exact ⟨6, by omega, rfl, HF2.out, HMB.out⟩
          case measure => simp [intOf]
        · have HK := Lib.hid he
          go_wp2_with (first
            | (go_at_call 53; (with_reducible refine (mode_calls c L g user n p taken full s _ HMB.out.hs HU.out HN.out).mono ?_); rw [show eMode (mineB L user n) n s = e 5 from by rw [← HBE.out.2.1]; rfl]; rintro e2 wg ⟨rfl, hb⟩; replace HMB := Lib.hid (HMB.out.next hb); clear hb)
            | (refine wl_store HMB.out.wa.rb Nd.none rfl _ _ rfl rfl rfl ?_; intro wh hs ho hz hbl; have HX := Lib.hid hs; have HL := Lib.hid (hbl _ _ HMB.out.wa.low (by omega)); clear hs ho hz hbl))
          exact bodyPost_ret (results_wstat rfl rfl HX.out) rfl ⟨by rw [w_err HBE.out.1 HBE.out.2.1 (by omega) HF.out HB.out HK.out], HL.out⟩
    · have a0 : wr.cell? ⟨qa, 12, none⟩ = some (.int .u16 64) := Blk.cell HM.out.ak 12
      have a1 : wr.cell? ⟨qa, 13, none⟩ = some (.func (.func 52) #[] #[]) := Blk.cell HM.out.ak 13
      have ht : (bits .and .u16 tc 64 == 0) = !b 6 := HTO.out 6 (by omega)
      have HMB := Lib.hid (HM.out.box (Obj.cells #[.int .u16 64, .func (.func 52) #[] #[]] 93))
      cases hb : b 6
      · rw [hb] at ht
        have HF2 := Lib.hid (first_no HF.out hb)
        clear hb
        go_wp2_with fail
        go_roundw
        case rel => exact ⟨7, by omega, rfl, HF2.out, HMB.out⟩
        case measure => simp [intOf]
      · rw [hb] at ht
        have HB := Lib.hid hb
        clear hb
        have he : (e 6 != 0) = true := by rw [← HBE.out.2.1]; rfl
        have HK := Lib.hid he
        go_wp2_with (first
          | (go_at_call 52; (with_reducible refine (never_calls c _).mono ?_); rw [show (97 : Int) = e 6 from by rw [← HBE.out.2.1]; rfl]; rintro e2 wg ⟨rfl, hb⟩; replace HMB := Lib.hid (HMB.out.next hb); clear hb)
          | (refine wl_store HMB.out.wa.rb Nd.none rfl _ _ rfl rfl rfl ?_; intro wh hs ho hz hbl; have HX := Lib.hid hs; have HL := Lib.hid (hbl _ _ HMB.out.wa.low (by omega)); clear hs ho hz hbl))
        exact bodyPost_ret (results_wstat rfl rfl HX.out) rfl ⟨by rw [w_err HBE.out.1 HBE.out.2.1 (by omega) HF.out HB.out HK.out], HL.out⟩
    · have a0 : wr.cell? ⟨qa, 14, none⟩ = some (.int .u16 128) := Blk.cell HM.out.ak 14
      have a1 : wr.cell? ⟨qa, 15, none⟩ = some (.func (.func 54) #[] #[]) := Blk.cell HM.out.ak 15
      have ht : (bits .and .u16 tc 128 == 0) = !b 7 := HTO.out 7 (by omega)
      have HMB := Lib.hid (HM.out.box (Obj.cells #[.int .u16 128, .func (.func 54) #[] #[]] 93))
      cases hb : b 7
      · rw [hb] at ht
        have HF2 := Lib.hid (first_no HF.out hb)
        clear hb
        go_wp2_with fail
        go_roundw
        case rel => exact ⟨8, by omega, rfl, HF2.out, HMB.out⟩
        case measure => simp [intOf]
      · rw [hb] at ht
        have HB := Lib.hid hb
        clear hb
        cases he : (e 7 != 0)
        · have HF2 := Lib.hid (show firstE b e 8 = 0 from by rw [first_yes HF.out HB.out]; simpa using he)
          go_wp2_with (first
            | (go_at_call 54; (with_reducible refine (mtime_calls c L g user n p taken full s _ HMB.out.hs HU.out HN.out).mono ?_); rw [show eMtime (mineB L user n) = e 7 from by rw [← HBE.out.2.1]; rfl]; rintro e2 wg ⟨rfl, hb⟩; replace HMB := Lib.hid (HMB.out.next hb); clear hb))
          go_roundw
          case rel => exact ⟨8, by omega, rfl, HF2.out, HMB.out⟩
          case measure => simp [intOf]
        · have HK := Lib.hid he
          go_wp2_with (first
            | (go_at_call 54; (with_reducible refine (mtime_calls c L g user n p taken full s _ HMB.out.hs HU.out HN.out).mono ?_); rw [show eMtime (mineB L user n) = e 7 from by rw [← HBE.out.2.1]; rfl]; rintro e2 wg ⟨rfl, hb⟩; replace HMB := Lib.hid (HMB.out.next hb); clear hb)
            | (refine wl_store HMB.out.wa.rb Nd.none rfl _ _ rfl rfl rfl ?_; intro wh hs ho hz hbl; have HX := Lib.hid hs; have HL := Lib.hid (hbl _ _ HMB.out.wa.low (by omega)); clear hs ho hz hbl))
          exact bodyPost_ret (results_wstat rfl rfl HX.out) rfl ⟨by rw [w_err HBE.out.1 HBE.out.2.1 (by omega) HF.out HB.out HK.out], HL.out⟩
    · have a0 : wr.cell? ⟨qa, 16, none⟩ = some (.int .u16 256) := Blk.cell HM.out.ak 16
      have a1 : wr.cell? ⟨qa, 17, none⟩ = some (.func (.func 55) #[] #[]) := Blk.cell HM.out.ak 17
      have ht : (bits .and .u16 tc 256 == 0) = !b 8 := HTO.out 8 (by omega)
      have HMB := Lib.hid (HM.out.box (Obj.cells #[.int .u16 256, .func (.func 55) #[] #[]] 93))
      cases hb : b 8
      · rw [hb] at ht
        have HF2 := Lib.hid (first_no HF.out hb)
        clear hb
        go_wp2_with fail
        go_roundw
        case rel => exact ⟨9, by omega, rfl, HF2.out, HMB.out⟩
        case measure => simp [intOf]
      · rw [hb] at ht
        have HB := Lib.hid hb
        clear hb
        cases he : (e 8 != 0)
        · have HF2 := Lib.hid (show firstE b e 9 = 0 from by rw [first_yes HF.out HB.out]; simpa using he)
          go_wp2_with (first
            | (go_at_call 55; (with_reducible refine (chLength_calls c L g user n p taken full s _ HMB.out.hs HU.out HN.out).mono ?_); rw [show eLen n s (rights (decide (user = n.uid)) (isMember L user n.gid) n.mode) = e 8 from by rw [← HBE.out.2.1]; rfl]; rintro e2 wg ⟨rfl, hb⟩; replace HMB := Lib.hid (HMB.out.next hb); clear hb))
          go_roundw
          case rel => exact ⟨9, by omega, rfl, HF2.out, HMB.out⟩
          case measure => simp [intOf]
        · have HK := Lib.hid he
          go_wp2_with (first
            | (go_at_call 55; (with_reducible refine (chLength_calls c L g user n p taken full s _ HMB.out.hs HU.out HN.out).mono ?_); rw [show eLen n s (rights (decide (user = n.uid)) (isMember L user n.gid) n.mode) = e 8 from by rw [← HBE.out.2.1]; rfl]; rintro e2 wg ⟨rfl, hb⟩; replace HMB := Lib.hid (HMB.out.next hb); clear hb)
            | (refine wl_store HMB.out.wa.rb Nd.none rfl _ _ rfl rfl rfl ?_; intro wh hs ho hz hbl; have HX := Lib.hid hs; have HL := Lib.hid (hbl _ _ HMB.out.wa.low (by omega)); clear hs ho hz hbl))
          exact bodyPost_ret (results_wstat rfl rfl HX.out) rfl ⟨by rw [w_err HBE.out.1 HBE.out.2.1 (by omega) HF.out HB.out HK.out], HL.out⟩
    · have a0 : wr.cell? ⟨qa, 18, none⟩ = some (.int .u16 512) := Blk.cell HM.out.ak 18
      have a1 : wr.cell? ⟨qa, 19, none⟩ = some (.func (.func 56) #[] #[]) := Blk.cell HM.out.ak 19
      have ht : (bits .and .u16 tc 512 == 0) = !b 9 := HTO.out 9 (by omega)
      have HMB := Lib.hid (HM.out.box (Obj.cells #[.int .u16 512, .func (.func 56) #[] #[]] 93))
      cases hb : b 9
      · rw [hb] at ht
        have HF2 := Lib.hid (first_no HF.out hb)
        clear hb
        go_wp2_with fail
        go_roundw
        case rel => exact ⟨10, by omega, rfl, HF2.out, HMB.out⟩
        case measure => simp [intOf]
      · rw [hb] at ht
        have HB := Lib.hid hb
        clear hb
        cases he : (e 9 != 0)
        · have HF2 := Lib.hid (show firstE b e 10 = 0 from by rw [first_yes HF.out HB.out]; simpa using he)
          go_wp2_with (first
            | (go_at_call 56; (with_reducible refine (chName_calls c L g user n p taken full s _ HMB.out.hs HU.out HN.out HP.out HMB.out.wa.ready).mono ?_); rw [show eName n s (rights (decide (user = p.uid)) (isMember L user p.gid) p.mode) taken = e 9 from by rw [← HBE.out.2.1]; rfl]; rintro e2 wg ⟨rfl, hb⟩; replace HMB := Lib.hid (HMB.out.next hb); clear hb))
          go_roundw
          case rel => exact ⟨10, by omega, rfl, HF2.out, HMB.out⟩
          case measure => simp [intOf]
        · have HK := Lib.hid he
          go_wp2_with (first
            | (go_at_call 56; (with_reducible refine (chName_calls c L g user n p taken full s _ HMB.out.hs HU.out HN.out HP.out HMB.out.wa.ready).mono ?_); rw [show eName n s (rights (decide (user = p.uid)) (isMember L user p.gid) p.mode) taken = e 9 from by rw [← HBE.out.2.1]; rfl]; rintro e2 wg ⟨rfl, hb⟩; replace HMB := Lib.hid (HMB.out.next hb); clear hb)
            | (refine wl_store HMB.out.wa.rb Nd.none rfl _ _ rfl rfl rfl ?_; intro wh hs ho hz hbl; have HX := Lib.hid hs; have HL := Lib.hid (hbl _ _ HMB.out.wa.low (by omega)); clear hs ho hz hbl))
          exact bodyPost_ret (results_wstat rfl rfl HX.out) rfl ⟨by rw [w_err HBE.out.1 HBE.out.2.1 (by omega) HF.out HB.out HK.out], HL.out⟩
    · have a0 : wr.cell? ⟨qa, 20, none⟩ = some (.int .u16 1024) := Blk.cell HM.out.ak 20
      have a1 : wr.cell? ⟨qa, 21, none⟩ = some (.func (.func 52) #[] #[]) := Blk.cell HM.out.ak 21
      have ht : (bits .and .u16 tc 1024 == 0) = !b 10 := HTO.out 10 (by omega)
      have HMB := Lib.hid (HM.out.box (Obj.cells #[.int .u16 1024, .func (.func 52) #[] #[]] 93))
      cases hb : b 10
      · rw [hb] at ht
        have HF2 := Lib.hid (first_no HF.out hb)
        clear hb
        go_wp2_with fail
        go_roundw
        case rel => exact ⟨11, by omega, rfl, HF2.out, HMB.out⟩
        case measure => simp [intOf]
      · rw [hb] at ht
        have HB := Lib.hid hb
        clear hb
        have he : (e 10 != 0) = true := by rw [← HBE.out.2.1]; rfl
        have HK := Lib.hid he
        go_wp2_with (first
          | (go_at_call 52; (with_reducible refine (never_calls c _).mono ?_); rw [show (97 : Int) = e 10 from by rw [← HBE.out.2.1]; rfl]; rintro e2 wg ⟨rfl, hb⟩; replace HMB := Lib.hid (HMB.out.next hb); clear hb)
          | (refine wl_store HMB.out.wa.rb Nd.none rfl _ _ rfl rfl rfl ?_; intro wh hs ho hz hbl; have HX := Lib.hid hs; have HL := Lib.hid (hbl _ _ HMB.out.wa.low (by omega)); clear hs ho hz hbl))
        exact bodyPost_ret (results_wstat rfl rfl HX.out) rfl ⟨by rw [w_err HBE.out.1 HBE.out.2.1 (by omega) HF.out HB.out HK.out], HL.out⟩
    · have a0 : wr.cell? ⟨qa, 22, none⟩ = some (.int .u16 2048) := Blk.cell HM.out.ak 22
      have a1 : wr.cell? ⟨qa, 23, none⟩ = some (.func (.func 57) #[] #[]) := Blk.cell HM.out.ak 23
      have ht : (bits .and .u16 tc 2048 == 0) = !b 11 := HTO.out 11 (by omega)
      have HMB := Lib.hid (HM.out.box (Obj.cells #[.int .u16 2048, .func (.func 57) #[] #[]] 93))
      cases hb : b 11
      · rw [hb] at ht
        have HF2 := Lib.hid (first_no HF.out hb)
        clear hb
        go_wp2_with fail
        go_roundw
        case rel => exact ⟨12, by omega, rfl, HF2.out, HMB.out⟩
        case measure => simp [intOf]
      · rw [hb] at ht
        have HB := Lib.hid hb
        clear hb
        cases he : (e 11 != 0)
        · have HF2 := Lib.hid (show firstE b e 12 = 0 from by rw [first_yes HF.out HB.out]; simpa using he)
          go_wp2_with (first
            | (go_at_call 57; (with_reducible refine (chGid_calls c L g user n p taken full s _ HMB.out.hs HU.out HN.out HSG.out).mono ?_); rw [show eGid L user n s = e 11 from by rw [← HBE.out.2.1]; rfl]; rintro e2 wg ⟨rfl, hb⟩; replace HMB := Lib.hid (HMB.out.next hb); clear hb))
          go_roundw
          case rel => exact ⟨12, by omega, rfl, HF2.out, HMB.out⟩
          case measure => simp [intOf]
        · have HK := Lib.hid he
          go_wp2_with (first
            | (go_at_call 57; (with_reducible refine (chGid_calls c L g user n p taken full s _ HMB.out.hs HU.out HN.out HSG.out).mono ?_); rw [show eGid L user n s = e 11 from by rw [← HBE.out.2.1]; rfl]; rintro e2 wg ⟨rfl, hb⟩; replace HMB := Lib.hid (HMB.out.next hb); clear hb)
            | (refine wl_store HMB.out.wa.rb Nd.none rfl _ _ rfl rfl rfl ?_; intro wh hs ho hz hbl; have HX := Lib.hid hs; have HL := Lib.hid (hbl _ _ HMB.out.wa.low (by omega)); clear hs ho hz hbl))
          exact bodyPost_ret (results_wstat rfl rfl HX.out) rfl ⟨by rw [w_err HBE.out.1 HBE.out.2.1 (by omega) HF.out HB.out HK.out], HL.out⟩
    · have a0 : wr.cell? ⟨qa, 24, none⟩ = some (.int .u16 4096) := Blk.cell HM.out.ak 24
      have a1 : wr.cell? ⟨qa, 25, none⟩ = some (.func (.func 52) #[] #[]) := Blk.cell HM.out.ak 25
      have ht : (bits .and .u16 tc 4096 == 0) = !b 12 := HTO.out 12 (by omega)
      have HMB := Lib.hid (HM.out.box (Obj.cells #[.int .u16 4096, .func (.func 52) #[] #[]] 93))
      cases hb : b 12
      · rw [hb] at ht
        have HF2 := Lib.hid (first_no HF.out hb)
        clear hb
        go_wp2_with fail
        go_roundw
        case rel => exact ⟨13, by omega, rfl, HF2.out, HMB.out⟩
        case measure => simp [intOf]
      · rw [hb] at ht
        have HB := Lib.hid hb
        clear hb
        have he : (e 12 != 0) = true := by rw [← HBE.out.2.1]; rfl
        have HK := Lib.hid he
        go_wp2_with (first
          | (go_at_call 52; (with_reducible refine (never_calls c _).mono ?_); rw [show (97 : Int) = e 12 from by rw [← HBE.out.2.1]; rfl]; rintro e2 wg ⟨rfl, hb⟩; replace HMB := Lib.hid (HMB.out.next hb); clear hb)
          | (refine wl_store HMB.out.wa.rb Nd.none rfl _ _ rfl rfl rfl ?_; intro wh hs ho hz hbl; have HX := Lib.hid hs; have HL := Lib.hid (hbl _ _ HMB.out.wa.low (by omega)); clear hs ho hz hbl))
        exact bodyPost_ret (results_wstat rfl rfl HX.out) rfl ⟨by rw [w_err HBE.out.1 HBE.out.2.1 (by omega) HF.out HB.out HK.out], HL.out⟩
    · go_upto_region 13 with (first
        | (refine wnF HM.out.wa.fb rfl _ rfl rfl ?_)
        | (refine wl_store (NBlk.zero _) n rfl _ _ rfl rfl rfl ?_; intro w6 hs ho hz hbl; have hb := hbl _ _ ((Below.refl _ _).alloc (Nat.le_refl _) _) (Nat.le_refl _); have HE := Lib.hid (show WE w wr.heap.size n s w6 from ⟨HM.out.wa.sb.below hb, NBlk.below HM.out.wa.rb hb, hs, HM.out.wa.low.trans (hb.mono HM.out.wa.low.size), HM.out.wa.lt⟩); clear hs ho hz hbl hb))
      clear HM
      generalize wr.heap.size = q at HE ⊢
      have ht : (bits .and .u16 tc 32 != 0) = b 5 := by
        have := HTO.out 5 (by omega)
        show (!(bits .and .u16 tc 32 == 0)) = b 5
        rw [show (bits .and .u16 tc 32 == 0) = !b 5 from this, Bool.not_not]
      go_upto_if 66 with (fail)
      go_cut [] (fun wx => WE w q { n with mode := if b 5 = true then s.mode else n.mode } s wx)
      case first =>
        cases hb : b 5
        · go_wp2_with fail
          go_meet
          case rel => (rw [hb]; exact HE.out)
        · have k1 : w6.cell? ⟨w.heap.size + 1, 5, none⟩ = some (.int .u32 s.mode) := Blk.cell HE.out.sb 5
          have k2 : w6.cell? ⟨q, 3, none⟩ = some (.int .u32 n.mode) := Blk.cell HE.out.nb 3
          have k3 := Blk.frozen HE.out.nb 3
          go_wp2_with fail
          go_meet
          case rel => (rw [hb]; exact HE.out.set 3 _ _ (Blk.set_ HE.out.nb 3 _))
      replace HE := Lib.hid hcut
      clear hcut ht
      have ht : (bits .and .u16 tc 128 != 0) = b 7 := by
        have := HTO.out 7 (by omega)
        show (!(bits .and .u16 tc 128 == 0)) = b 7
        rw [show (bits .and .u16 tc 128 == 0) = !b 7 from this, Bool.not_not]
      go_upto_if 72 with (fail)
      go_cut [] (fun wx => WE w q { n with mode := if b 5 = true then s.mode else n.mode, mtime := if b 7 = true then s.mtime else n.mtime } s wx)
      case first =>
        cases hb : b 7
        · go_wp2_with fail
          go_meet
          case rel => (rw [hb]; exact HE.out)
        · have k1 : wc.cell? ⟨w.heap.size + 1, 7, none⟩ = some (.int .u32 s.mtime) := Blk.cell HE.out.sb 7
          have k2 : wc.cell? ⟨q, 8, none⟩ = some (.int .u32 n.mtime) := Blk.cell HE.out.nb 8
          have k3 := Blk.frozen HE.out.nb 8
          go_wp2_with fail
          go_meet
          case rel => (rw [hb]; exact HE.out.set 8 _ _ (Blk.set_ HE.out.nb 8 _))
      replace HE := Lib.hid hcut
      clear hcut ht
      have ht : (bits .and .u16 tc 256 != 0) = b 8 := by
        have := HTO.out 8 (by omega)
        show (!(bits .and .u16 tc 256 == 0)) = b 8
        rw [show (bits .and .u16 tc 256 == 0) = !b 8 from this, Bool.not_not]
      go_upto_if 78 with (fail)
      go_cut [] (fun wx => WE w q { n with mode := if b 5 = true then s.mode else n.mode, mtime := if b 7 = true then s.mtime else n.mtime, length := if b 8 = true then s.length else n.length } s wx)
      case first =>
        cases hb : b 8
        · go_wp2_with fail
          go_meet
          case rel => (rw [hb]; exact HE.out)
        · have k1 : wc.cell? ⟨w.heap.size + 1, 8, none⟩ = some (.int .u64 s.length) := Blk.cell HE.out.sb 8
          have k2 : wc.cell? ⟨q, 10, none⟩ = some (.int .u64 n.length) := Blk.cell HE.out.nb 10
          have k3 := Blk.frozen HE.out.nb 10
          go_wp2_with fail
          go_meet
          case rel => (rw [hb]; exact HE.out.set 10 _ _ (Blk.set_ HE.out.nb 10 _))
      replace HE := Lib.hid hcut
      clear hcut ht
      have ht : (bits .and .u16 tc 512 != 0) = b 9 := by
        have := HTO.out 9 (by omega)
        show (!(bits .and .u16 tc 512 == 0)) = b 9
        rw [show (bits .and .u16 tc 512 == 0) = !b 9 from this, Bool.not_not]
      go_upto_if 84 with (fail)
      go_cut [] (fun wx => WE w q { n with mode := if b 5 = true then s.mode else n.mode, mtime := if b 7 = true then s.mtime else n.mtime, length := if b 8 = true then s.length else n.length, name := if b 9 = true then s.name else n.name } s wx)
      case first =>
        cases hb : b 9
        · go_wp2_with fail
          go_meet
          case rel => (rw [hb]; exact HE.out)
        · have k1 : wc.cell? ⟨w.heap.size + 1, 9, none⟩ = some (.string s.name) := Blk.cell HE.out.sb 9
          have k2 : wc.cell? ⟨q, 2, none⟩ = some (.string n.name) := Blk.cell HE.out.nb 2
          have k3 := Blk.frozen HE.out.nb 2
          go_wp2_with fail
          go_meet
          case rel => (rw [hb]; exact HE.out.set 2 _ _ (Blk.set_ HE.out.nb 2 _))
      replace HE := Lib.hid hcut
      clear hcut ht
      have ht : (bits .and .u16 tc 2048 != 0) = b 11 := by
        have := HTO.out 11 (by omega)
        show (!(bits .and .u16 tc 2048 == 0)) = b 11
        rw [show (bits .and .u16 tc 2048 == 0) = !b 11 from this, Bool.not_not]
      go_upto_if 90 with (fail)
      go_cut [] (fun wx => WE w q { n with mode := if b 5 = true then s.mode else n.mode, mtime := if b 7 = true then s.mtime else n.mtime, length := if b 8 = true then s.length else n.length, name := if b 9 = true then s.name else n.name, gid := if b 11 = true then s.gid else n.gid } s wx)
      case first =>
        cases hb : b 11
        · go_wp2_with fail
          go_meet
          case rel => (rw [hb]; exact HE.out)
        · have k1 : wc.cell? ⟨w.heap.size + 1, 11, none⟩ = some (.string s.gid) := Blk.cell HE.out.sb 11
          have k2 : wc.cell? ⟨q, 5, none⟩ = some (.string n.gid) := Blk.cell HE.out.nb 5
          have k3 := Blk.frozen HE.out.nb 5
          go_wp2_with fail
          go_meet
          case rel => (rw [hb]; exact HE.out.set 5 _ _ (Blk.set_ HE.out.nb 5 _))
      replace HE := Lib.hid hcut
      clear hcut ht
      replace HE := Lib.hid (show WE w q (chN n s b) s wc from HE.out)
      go_wp2_with (first
        | (refine wnN HE.out.nb rfl _ rfl rfl ?_)
        | (refine wl_store HE.out.rb (chN n s b) rfl _ _ rfl rfl rfl ?_; intro wh hs ho hz hbl; have HX := Lib.hid hs; have HL := Lib.hid (hbl _ _ HE.out.low (by omega)); clear hs ho hz hbl))
      exact bodyPost_ret (results_wstat rfl rfl HX.out) rfl ⟨by rw [w_ok HBE.out.1 HBE.out.2.1 HF.out], HL.out⟩
end Go.Proofs.YtlenlldiimohjaaDoor
