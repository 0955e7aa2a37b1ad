/-
  ADo3 ADoA RefT: what AuthDoes needs of them.
-/
import Derived.Test.YtlenlldiimohjaaGreatDoorQ10
import Derived.Test.YtlenlldiimohjaaGreatDoorQ06
namespace Go.Proofs.YtlenlldiimohjaaGreatDoor
open Go.RowKit

theorem head_of {w : World} {base n size : Nat} {e : TypeId} {v : Value} {xs : List Value} (h : w.ownsRow base e size v n xs) (h0 : 0 < n) : ∃ g cap, v = .slice (some ⟨g, 0, none⟩) n cap ∧ n ≤ cap ∧ cap ≤ maxLen := by
  rcases h.2 with ⟨rfl, rfl⟩ | ⟨g, cap, cur, rfl, _, _, h1, h2, _⟩
  · exact absurd h0 (Nat.lt_irrefl _)
  · exact ⟨_, _, rfl, h1, h2⟩
theorem head_some {w : World} {base n size cap : Nat} {A : Option Addr} {e : TypeId} {xs : List Value} (h : w.ownsRow base e size (.slice A n cap) n xs) (h0 : 0 < n) : ∃ g, A = some ⟨g, 0, none⟩ := by
  obtain ⟨g, c, e, -⟩ := head_of h h0
  injection e with e
  exact ⟨g, e⟩
theorem rows_at (f : TalkW → Value) : ∀ (ts : List TalkW) (k j : Nat) (x : TalkW), ts[k]? = some x → j < 7 → (ts.flatMap fun x => talkL x.t (f x))[k * 7 + j]? = (talkL x.t (f x))[j]?
  | [], k, j, x, h, _ => by cases h
  | y :: ts, 0, j, x, h, hj => by
    injection h with h
    subst h
    rw [List.flatMap_cons, Nat.zero_mul, Nat.zero_add, List.getElem?_append_left (by exact hj)]
  | y :: ts, k + 1, j, x, h, hj => by
    rw [List.flatMap_cons, List.getElem?_append_right (by show 7 ≤ _; omega), show (k + 1) * 7 + j - (talkL y.t (f y)).length = k * 7 + j from by show (k + 1) * 7 + j - 7 = _; omega]
    exact rows_at f ts k j x h hj
theorem row_range {w : World} {base g n cap : Nat} {xs : List Value} (h : w.ownsRow base 54 7 (.slice (some ⟨g, 0, none⟩) n cap) n xs) (k : Nat) (l : List Value) (hl : ∀ j, j < l.length → xs[k * 7 + j]? = l[j]?) : w.rangeAt g (k * 7) l := fun j v hv => by
  have hj := (List.getElem?_eq_some_iff.1 hv).1
  have := h.cells (g := g) rfl (k * 7 + j) v ((hl j hj).trans hv)
  rwa [Addr.add_lit, Nat.zero_add] at this
section
variable {W0 w w' : World} {q gu gr g n cap : Nat} {vt vw vb vc : Value} {ts : List TalkW} {bl cl : List (Value × List UInt8)}
theorem WB.t_range (h : WB W0 q gu gr (.slice (some ⟨g, 0, none⟩) n cap) vw vb vc ts bl cl w) {k : Nat} {x : TalkW} (hx : ts[k]? = some x) : w.rangeAt g (k * 7) (talkL x.t x.hv) := by
  have hr := h.r.rt
  obtain ⟨A, c, e, -⟩ := len_of hr
  injection e with e1 e2 e3
  subst e2
  exact row_range hr k _ (fun j hj => rows_at (fun x => x.hv) ts k j x hx hj)
theorem WB.w_range (h : WB W0 q gu gr vt (.slice (some ⟨g, 0, none⟩) n cap) vb vc ts bl cl w) {k : Nat} {x : TalkW} (hx : ts[k]? = some x) : w.rangeAt g (k * 7) (talkL x.t x.hw) := by
  have hr := h.r.rw_
  obtain ⟨A, c, e, -⟩ := len_of hr
  injection e with e1 e2 e3
  subst e2
  exact row_range hr k _ (fun j hj => rows_at (fun x => x.hw) ts k j x hx hj)
theorem brow_cell {base : Nat} {xs : List Value} (h : w.ownsRow base 47 1 (.slice (some ⟨g, 0, none⟩) n cap) n xs) {k : Nat} {v : Value} (hv : xs[k]? = some v) : w.cell? ⟨g, k, none⟩ = some v := by
  have := h.cells (g := g) rfl k v hv
  rwa [Addr.add_lit, Nat.zero_add] at this
theorem WB.b_cell (h : WB W0 q gu gr vt vw (.slice (some ⟨g, 0, none⟩) n cap) vc ts bl cl w) {k : Nat} {p : Value × List UInt8} (hp : bl[k]? = some p) : w.cell? ⟨g, k, none⟩ = some p.1 := by
  have hr := h.r.rb
  obtain ⟨A, c, e, -⟩ := len_of hr
  injection e with e1 e2 e3
  subst e2
  exact brow_cell hr (by rw [List.getElem?_map, hp]; rfl)
theorem WB.c_cell (h : WB W0 q gu gr vt vw vb (.slice (some ⟨g, 0, none⟩) n cap) ts bl cl w) {k : Nat} {p : Value × List UInt8} (hp : cl[k]? = some p) : w.cell? ⟨g, k, none⟩ = some p.1 := by
  have hr := h.r.rc
  obtain ⟨A, c, e, -⟩ := len_of hr
  injection e with e1 e2 e3
  subst e2
  exact brow_cell hr (by rw [List.getElem?_map, hp]; rfl)
theorem WB.b_bys (h : WB W0 q gu gr vt vw vb vc ts bl cl w) {k : Nat} {p : Value × List UInt8} (hp : bl[k]? = some p) : Bys w w.heap.size p.1 p.2 := (h.ob.1 p (List.mem_of_getElem? hp)).bys
theorem WB.c_bys (h : WB W0 q gu gr vt vw vb vc ts bl cl w) {k : Nat} {p : Value × List UInt8} (hp : cl[k]? = some p) : Bys w w.heap.size p.1 p.2 := (h.oc.1 p (List.mem_of_getElem? hp)).bys
end
theorem Ag.len {bl cl : List (Value × List UInt8)} (h : Ag bl cl) : bl.length = cl.length := by
  have := congrArg List.length h
  simpa using this
theorem Ag.at_ {bl cl : List (Value × List UInt8)} (h : Ag bl cl) {k : Nat} {p : Value × List UInt8} (hp : bl[k]? = some p) : ∃ c, cl[k]? = some (c, p.2) := by
  have h2 := congrArg (fun l : List (List UInt8) => l[k]?) h
  simp only [List.getElem?_map, hp, Option.map_some] at h2
  cases hc : cl[k]? with
  | none => rw [hc] at h2; cases h2
  | some y =>
    rw [hc] at h2
    injection h2 with h2
    exact ⟨y.1, by rw [h2]⟩
set_option maxRecDepth 100000 in
set_option maxHeartbeats 6400000 in
/-- Nobody has written into what came out. -/
theorem still_calls {W0 w : World} {q gu gr : Nat} {vt vw vb vc : Value} {ts : List TalkW} {bl cl : List (Value × List UInt8)} (h : WB W0 q gu gr vt vw vb vc ts bl cl w) (ag : Ag bl cl) :
    Calls Tryz.prog 31 #[.pointer (some ⟨q, 0, none⟩)] w fun e w' => e = .returned (.bool true) ∧ Below w.heap.size w w' := by
  obtain ⟨Ab, capb, rfl, hbc, hbm⟩ := len_of h.r.rb
  obtain ⟨Ac, capc, rfl, hcc, hcm⟩ := len_of h.r.rc
  obtain ⟨At, capt, rfl, htc, htm⟩ := len_of h.r.rt
  obtain ⟨Aw, capw, rfl, hwc, hwm⟩ := len_of h.r.rw_
  unfold maxLen at hbm htm hcm hwm
  have HWB := Lib.hid h
  have HAG := Lib.hid ag
  have HAL := Lib.hid ag.len
  clear h ag
  go_enter Tryz.func31, Tryz.ntmps31
  go_wp2_with fail
  go_loopw [3] (fun i wr => ∃ k : Nat, k ≤ bl.length ∧ i = .int .i64 (k : Int) ∧ WB W0 q gu gr (.slice At ts.length capt) (.slice Aw ts.length capw) (.slice Ab bl.length capb) (.slice Ac cl.length capc) ts bl cl wr ∧ Below w.heap.size w wr) (fun i _ => bl.length - (intOf i).toNat)
  case atStart => exact ⟨0, Nat.zero_le _, rfl, HWB.out, Below.refl _ _⟩
  case round =>
    obtain ⟨k, hk, rfl, hwb, hlo⟩ := hrel
    clear HWB
    have HWB := Lib.hid hwb
    have HLO := Lib.hid hlo
    clear hwb hlo
    have k4 : wr.cell? ⟨q, 4, none⟩ = some (.slice Ab bl.length capb) := HWB.out.q4
    by_cases hlt : k < bl.length
    · have hlt' : (k : Int) < (bl.length : Int) := by omega
      have hlc : k < cl.length := by rw [← HAL.out]; exact hlt
      obtain ⟨p, hp⟩ : ∃ p, bl[k]? = some p := ⟨_, List.getElem?_eq_getElem hlt⟩
      obtain ⟨c, hc⟩ := HAG.out.at_ hp
      have HPB := Lib.hid hp
      have HPC := Lib.hid hc
      clear hp hc
      obtain ⟨gb, rfl⟩ := head_some HWB.out.r.rb (by omega)
      obtain ⟨gc, rfl⟩ := head_some HWB.out.r.rc (by omega)
      go_upto_region 4 with (fail)
      clear k4
      refine wp_region_held_drew (S := WB W0 q gu gr (.slice At ts.length capt) (.slice Aw ts.length capw) (.slice (some ⟨gb, 0, none⟩) bl.length capb) (.slice (some ⟨gc, 0, none⟩) cl.length capc) ts bl cl) (by kernel_rfl) (HWB.out.call (below_drew wr)) (fun hHeld => ?_)
      replace HLO := Lib.hid (HLO.out.trans ((below_drew wr).mono HLO.out.size))
      clear HWB
      generalize wr.drew = wd at HLO hHeld ⊢
      have hlc' : (k : Int) < (cl.length : Int) := by omega
      refine wpAnyH_takeD 15 (i := 0) (v := .pointer (some ⟨q, 0, none⟩)) rfl rfl (by kernel_rfl) (by kernel_rfl) (by kernel_rfl) (fun _ _ _ h => h) (Or.inl ⟨by rfl, fun wq hSw => by go_simp⟩) (by assumption) ?_
      simp only [Act.put, List.setIfInBounds_toArray, List.set_cons_zero, List.set_cons_succ]
      refine wpAnyH_takeD 16 (i := 1) (v := .pointer (some ⟨q, 0, none⟩)) rfl rfl (by kernel_rfl) (by kernel_rfl) (by kernel_rfl) (fun _ _ _ h => h) (Or.inl ⟨by rfl, fun wq hSw => by go_simp⟩) (by assumption) ?_
      simp only [Act.put, List.setIfInBounds_toArray, List.set_cons_zero, List.set_cons_succ]
      refine wpAnyH_takeD 17 (i := 2) (v := .pointer (some ⟨q, 4, none⟩)) rfl rfl (by kernel_rfl) (by kernel_rfl) (by kernel_rfl) (fun _ _ _ h => h) (Or.inl ⟨by rfl, fun wq hSw => by go_simp⟩) (by assumption) ?_
      simp only [Act.put, List.setIfInBounds_toArray, List.set_cons_zero, List.set_cons_succ]
      refine wpAnyH_takeD 18 (i := 3) (v := .slice (some ⟨gb, 0, none⟩) bl.length capb) rfl rfl (by kernel_rfl) (by kernel_rfl) (by kernel_rfl) (fun _ _ _ h => h) (Or.inl ⟨by rfl, fun wq hSw => by have k4 := WB.q4 hSw; go_simp⟩) (by assumption) ?_
      simp only [Act.put, List.setIfInBounds_toArray, List.set_cons_zero, List.set_cons_succ]
      refine wpAnyH_takeD 19 (i := 4) (v := .int .i64 (k : Int)) rfl rfl (by kernel_rfl) (by kernel_rfl) (by kernel_rfl) (fun _ _ _ h => h) (Or.inl ⟨by rfl, fun wq hSw => by go_simp⟩) (by assumption) ?_
      simp only [Act.put, List.setIfInBounds_toArray, List.set_cons_zero, List.set_cons_succ]
      refine wpAnyH_takeD 20 (i := 5) (v := .pointer (some ⟨gb, k, none⟩)) rfl rfl (by kernel_rfl) (by kernel_rfl) (by kernel_rfl) (fun _ _ _ h => h) (Or.inl ⟨by rfl, fun wq hSw => by go_simp⟩) (by assumption) ?_
      simp only [Act.put, List.setIfInBounds_toArray, List.set_cons_zero, List.set_cons_succ]
      refine wpAnyH_takeD 21 (i := 6) (v := p.1) rfl rfl (by kernel_rfl) (by kernel_rfl) (by kernel_rfl) (fun _ _ _ h => h) (Or.inl ⟨by rfl, fun wq hSw => by have k5 := WB.b_cell hSw HPB.out; go_simp⟩) (by assumption) ?_
      simp only [Act.put, List.setIfInBounds_toArray, List.set_cons_zero, List.set_cons_succ]
      refine wpAnyH_takeD 22 (i := 7) (v := .string (ofL p.2)) rfl rfl (by kernel_rfl) (by kernel_rfl) (by kernel_rfl) (fun _ _ _ h => h) (Or.inl ⟨by rfl, fun wq hSw => by have k6 := conv_any (WB.b_bys hSw HPB.out); go_simp⟩) (by assumption) ?_
      simp only [Act.put, List.setIfInBounds_toArray, List.set_cons_zero, List.set_cons_succ]
      refine wpAnyH_takeD 23 (i := 8) (v := .pointer (some ⟨q, 0, none⟩)) rfl rfl (by kernel_rfl) (by kernel_rfl) (by kernel_rfl) (fun _ _ _ h => h) (Or.inl ⟨by rfl, fun wq hSw => by go_simp⟩) (by assumption) ?_
      simp only [Act.put, List.setIfInBounds_toArray, List.set_cons_zero, List.set_cons_succ]
      refine wpAnyH_takeD 24 (i := 9) (v := .pointer (some ⟨q, 0, none⟩)) rfl rfl (by kernel_rfl) (by kernel_rfl) (by kernel_rfl) (fun _ _ _ h => h) (Or.inl ⟨by rfl, fun wq hSw => by go_simp⟩) (by assumption) ?_
      simp only [Act.put, List.setIfInBounds_toArray, List.set_cons_zero, List.set_cons_succ]
      refine wpAnyH_takeD 25 (i := 10) (v := .pointer (some ⟨q, 5, none⟩)) rfl rfl (by kernel_rfl) (by kernel_rfl) (by kernel_rfl) (fun _ _ _ h => h) (Or.inl ⟨by rfl, fun wq hSw => by go_simp⟩) (by assumption) ?_
      simp only [Act.put, List.setIfInBounds_toArray, List.set_cons_zero, List.set_cons_succ]
      refine wpAnyH_takeD 26 (i := 11) (v := .slice (some ⟨gc, 0, none⟩) cl.length capc) rfl rfl (by kernel_rfl) (by kernel_rfl) (by kernel_rfl) (fun _ _ _ h => h) (Or.inl ⟨by rfl, fun wq hSw => by have k4 := WB.q5 hSw; go_simp⟩) (by assumption) ?_
      simp only [Act.put, List.setIfInBounds_toArray, List.set_cons_zero, List.set_cons_succ]
      refine wpAnyH_takeD 27 (i := 12) (v := .int .i64 (k : Int)) rfl rfl (by kernel_rfl) (by kernel_rfl) (by kernel_rfl) (fun _ _ _ h => h) (Or.inl ⟨by rfl, fun wq hSw => by go_simp⟩) (by assumption) ?_
      simp only [Act.put, List.setIfInBounds_toArray, List.set_cons_zero, List.set_cons_succ]
      refine wpAnyH_takeD 28 (i := 13) (v := .pointer (some ⟨gc, k, none⟩)) rfl rfl (by kernel_rfl) (by kernel_rfl) (by kernel_rfl) (fun _ _ _ h => h) (Or.inl ⟨by rfl, fun wq hSw => by go_simp⟩) (by assumption) ?_
      simp only [Act.put, List.setIfInBounds_toArray, List.set_cons_zero, List.set_cons_succ]
      refine wpAnyH_takeD 29 (i := 14) (v := c) rfl rfl (by kernel_rfl) (by kernel_rfl) (by kernel_rfl) (fun _ _ _ h => h) (Or.inl ⟨by rfl, fun wq hSw => by have k5 := WB.c_cell hSw HPC.out; go_simp⟩) (by assumption) ?_
      simp only [Act.put, List.setIfInBounds_toArray, List.set_cons_zero, List.set_cons_succ]
      refine wpAnyH_takeD 30 (i := 15) (v := .string (ofL p.2)) rfl rfl (by kernel_rfl) (by kernel_rfl) (by kernel_rfl) (fun _ _ _ h => h) (Or.inl ⟨by rfl, fun wq hSw => by have k6 := conv_any (WB.c_bys hSw HPC.out); go_simp⟩) (by assumption) ?_
      simp only [Act.put, List.setIfInBounds_toArray, List.set_cons_zero, List.set_cons_succ]
      refine wpAnyH_takeD 31 (i := 16) (v := .bool false) rfl rfl (by kernel_rfl) (by kernel_rfl) (by kernel_rfl) (fun _ _ _ h => h) (Or.inl ⟨by rfl, fun wq hSw => by go_simp⟩) (by assumption) ?_
      simp only [Act.put, List.setIfInBounds_toArray, List.set_cons_zero, List.set_cons_succ]
      refine wpAnyH_done (by kernel_rfl) ?_ _
      go_wp2_with fail
      go_roundw
      case rel => exact ⟨k + 1, by omega, by go_num, hHeld, HLO.out⟩
      case measure => simp [intOf]; omega
    · have hlt' : ¬ (k : Int) < (bl.length : Int) := by omega
      go_upto_region 6 with (fail)
      clear k4 hlt hlt'
      go_wp2_with fail
      go_loopw [4, 5] (fun i _ wr2 => ∃ k : Nat, k ≤ ts.length ∧ i = .int .i64 (k : Int) ∧ WB W0 q gu gr (.slice At ts.length capt) (.slice Aw ts.length capw) (.slice Ab bl.length capb) (.slice Ac cl.length capc) ts bl cl wr2 ∧ Below w.heap.size w wr2) (fun i _ _ => ts.length - (intOf i).toNat)
      case atStart => exact ⟨0, Nat.zero_le _, rfl, HWB.out, HLO.out⟩
      case round =>
        obtain ⟨k, hk, rfl, hwb, hlo⟩ := hrel
        clear HWB HLO
        have HWB := Lib.hid hwb
        have HLO := Lib.hid hlo
        clear hwb hlo
        have k2 : wr.cell? ⟨q, 2, none⟩ = some (.slice At ts.length capt) := HWB.out.q2
        by_cases hlt : k < ts.length
        · have hlt' : (k : Int) < (ts.length : Int) := by omega
          obtain ⟨x, hx⟩ : ∃ x, ts[k]? = some x := ⟨_, List.getElem?_eq_getElem hlt⟩
          have HX := Lib.hid hx
          clear hx
          obtain ⟨gt, rfl⟩ := head_some HWB.out.r.rt (by omega)
          obtain ⟨gw, rfl⟩ := head_some HWB.out.r.rw_ (by omega)
          go_upto_region 9 with (fail)
          clear k2
          refine wp_region_held_drew (S := WB W0 q gu gr (.slice (some ⟨gt, 0, none⟩) ts.length capt) (.slice (some ⟨gw, 0, none⟩) ts.length capw) (.slice Ab bl.length capb) (.slice Ac cl.length capc) ts bl cl) (by kernel_rfl) (HWB.out.call (below_drew wr)) (fun hHeld => ?_)
          replace HLO := Lib.hid (HLO.out.trans ((below_drew wr).mono HLO.out.size))
          clear HWB
          generalize wr.drew = wd at HLO hHeld ⊢
          refine wpAnyH_takeD 41 (i := 0) (v := .pointer (some ⟨q, 0, none⟩)) rfl rfl (by kernel_rfl) (by kernel_rfl) (by kernel_rfl) (fun _ _ _ h => h) (Or.inl ⟨by rfl, fun wq hSw => by go_simp⟩) (by assumption) ?_
          simp only [Act.put, List.setIfInBounds_toArray, List.set_cons_zero, List.set_cons_succ]
          refine wpAnyH_takeD 42 (i := 1) (v := .pointer (some ⟨q, 0, none⟩)) rfl rfl (by kernel_rfl) (by kernel_rfl) (by kernel_rfl) (fun _ _ _ h => h) (Or.inl ⟨by rfl, fun wq hSw => by go_simp⟩) (by assumption) ?_
          simp only [Act.put, List.setIfInBounds_toArray, List.set_cons_zero, List.set_cons_succ]
          refine wpAnyH_takeD 43 (i := 2) (v := .pointer (some ⟨q, 2, none⟩)) rfl rfl (by kernel_rfl) (by kernel_rfl) (by kernel_rfl) (fun _ _ _ h => h) (Or.inl ⟨by rfl, fun wq hSw => by go_simp⟩) (by assumption) ?_
          simp only [Act.put, List.setIfInBounds_toArray, List.set_cons_zero, List.set_cons_succ]
          refine wpAnyH_takeD 44 (i := 3) (v := .slice (some ⟨gt, 0, none⟩) ts.length capt) rfl rfl (by kernel_rfl) (by kernel_rfl) (by kernel_rfl) (fun _ _ _ h => h) (Or.inl ⟨by rfl, fun wq hSw => by have k4 := WB.q2 hSw; go_simp⟩) (by assumption) ?_
          simp only [Act.put, List.setIfInBounds_toArray, List.set_cons_zero, List.set_cons_succ]
          refine wpAnyH_takeD 45 (i := 4) (v := .int .i64 (k : Int)) rfl rfl (by kernel_rfl) (by kernel_rfl) (by kernel_rfl) (fun _ _ _ h => h) (Or.inl ⟨by rfl, fun wq hSw => by go_simp⟩) (by assumption) ?_
          simp only [Act.put, List.setIfInBounds_toArray, List.set_cons_zero, List.set_cons_succ]
          refine wpAnyH_takeD 46 (i := 5) (v := .pointer (some ⟨gt, k * 7, none⟩)) rfl rfl (by kernel_rfl) (by kernel_rfl) (by kernel_rfl) (fun _ _ _ h => h) (Or.inl ⟨by rfl, fun wq hSw => by go_simp⟩) (by assumption) ?_
          simp only [Act.put, List.setIfInBounds_toArray, List.set_cons_zero, List.set_cons_succ]
          refine wpAnyH_takeD 47 (i := 6) rfl rfl (by kernel_rfl) (by kernel_rfl) (by kernel_rfl) (fun _ _ _ h => h) (yieldsIf_load_mid (by rfl) _ _ rfl _ _ rfl (talkL x.t x.hv) _ (fun _ hS => WB.t_range hS HX.out) Tryz.underlying54 rfl talk_size) (by assumption) ?_
          simp only [Act.put, List.setIfInBounds_toArray, List.set_cons_zero, List.set_cons_succ]
          refine wpAnyH_takeD 48 (i := 7) (v := .pointer (some ⟨q, 0, none⟩)) rfl rfl (by kernel_rfl) (by kernel_rfl) (by kernel_rfl) (fun _ _ _ h => h) (Or.inl ⟨by rfl, fun wq hSw => by go_simp⟩) (by assumption) ?_
          simp only [Act.put, List.setIfInBounds_toArray, List.set_cons_zero, List.set_cons_succ]
          refine wpAnyH_takeD 49 (i := 8) (v := .pointer (some ⟨q, 0, none⟩)) rfl rfl (by kernel_rfl) (by kernel_rfl) (by kernel_rfl) (fun _ _ _ h => h) (Or.inl ⟨by rfl, fun wq hSw => by go_simp⟩) (by assumption) ?_
          simp only [Act.put, List.setIfInBounds_toArray, List.set_cons_zero, List.set_cons_succ]
          refine wpAnyH_takeD 50 (i := 9) (v := .pointer (some ⟨q, 3, none⟩)) rfl rfl (by kernel_rfl) (by kernel_rfl) (by kernel_rfl) (fun _ _ _ h => h) (Or.inl ⟨by rfl, fun wq hSw => by go_simp⟩) (by assumption) ?_
          simp only [Act.put, List.setIfInBounds_toArray, List.set_cons_zero, List.set_cons_succ]
          refine wpAnyH_takeD 51 (i := 10) (v := .slice (some ⟨gw, 0, none⟩) ts.length capw) rfl rfl (by kernel_rfl) (by kernel_rfl) (by kernel_rfl) (fun _ _ _ h => h) (Or.inl ⟨by rfl, fun wq hSw => by have k4 := WB.q3 hSw; go_simp⟩) (by assumption) ?_
          simp only [Act.put, List.setIfInBounds_toArray, List.set_cons_zero, List.set_cons_succ]
          refine wpAnyH_takeD 52 (i := 11) (v := .int .i64 (k : Int)) rfl rfl (by kernel_rfl) (by kernel_rfl) (by kernel_rfl) (fun _ _ _ h => h) (Or.inl ⟨by rfl, fun wq hSw => by go_simp⟩) (by assumption) ?_
          simp only [Act.put, List.setIfInBounds_toArray, List.set_cons_zero, List.set_cons_succ]
          refine wpAnyH_takeD 53 (i := 12) (v := .pointer (some ⟨gw, k * 7, none⟩)) rfl rfl (by kernel_rfl) (by kernel_rfl) (by kernel_rfl) (fun _ _ _ h => h) (Or.inl ⟨by rfl, fun wq hSw => by go_simp⟩) (by assumption) ?_
          simp only [Act.put, List.setIfInBounds_toArray, List.set_cons_zero, List.set_cons_succ]
          refine wpAnyH_takeD 54 (i := 13) rfl rfl (by kernel_rfl) (by kernel_rfl) (by kernel_rfl) (fun _ _ _ h => h) (yieldsIf_load_mid (by rfl) _ _ rfl _ _ rfl (talkL x.t x.hw) _ (fun _ hS => WB.w_range hS HX.out) Tryz.underlying54 rfl talk_size) (by assumption) ?_
          simp only [Act.put, List.setIfInBounds_toArray, List.set_cons_zero, List.set_cons_succ]
          refine wpAnyH_ready (rs := [14]) (by kernel_rfl) (by simp) ?_
          refine AllReadyH.cons rfl (fun K hK => ?_) AllReadyH.nil
          rw [if_pos (by rfl)]
          go_simp
          have hx2 := hHeld.tk x (List.mem_of_getElem? HX.out)
          (with_reducible refine (same_t x.t x.hv x.hw x.l _ hx2.1.bys hx2.2.bys).mono ?_)
          rintro e w5 ⟨rfl, hb⟩
          dsimp only
          replace HLO := Lib.hid (HLO.out.trans (hb.mono HLO.out.size))
          have hS2 := hHeld.call hb
          clear hHeld hb hx2
          refine hK.out _ _ hS2 (fun hHeld => ?_)
          clear hK hS2
          refine wpAnyH_takeD 5 (i := 15) (v := .bool true) rfl rfl (by kernel_rfl) (by kernel_rfl) (by kernel_rfl) (fun _ _ _ h => h) (Or.inl ⟨by rfl, fun wq hSw => by go_simp⟩) (by assumption) ?_
          simp only [Act.put, List.setIfInBounds_toArray, List.set_cons_zero, List.set_cons_succ]
          refine wpAnyH_done (by kernel_rfl) ?_ _
          go_wp2_with fail
          go_roundw
          case rel => exact ⟨k + 1, by omega, by go_num, hHeld, HLO.out⟩
          case measure => simp [intOf]; omega
        · have hlt' : ¬ (k : Int) < (ts.length : Int) := by omega
          go_wp2_with fail
          go_ret
          exact ⟨rfl, HLO.out⟩
end Go.Proofs.YtlenlldiimohjaaGreatDoor
namespace Go.Proofs.YtlenlldiimohjaaGreatDoor
open Go.RowKit SumLaw

theorem u64_info : (Tryz.prog.info? 22).map (fun i => (i.zero, i.size, i.bytes)) = some (some (.int .u64 0), 1, 8) := by kernel_rfl
abbrev uL (l : List Int) : List Value := l.map fun n => .int .u64 n
theorem uL_len (l : List Int) : (uL l).length = l.length := List.length_map ..
theorem uL_app (a b : List Int) : uL (a ++ b) = uL a ++ uL b := List.map_append
theorem uL_one (l : List Int) : ∀ u ∈ uL l, u.oneCell' = true := by
  intro u hu
  obtain ⟨c, _, rfl⟩ := List.mem_map.1 hu
  rfl
/-- The value reads as these numbers, below B. -/
def UInts (w : World) (B : Nat) (v : Value) (l : List Int) : Prop := ∃ A cap, v = .slice A l.length cap ∧ l.length ≤ cap ∧ cap ≤ maxLen ∧ Reads w B 1 A l.length (uL l)
theorem UInts.below {w w' : World} {B : Nat} {v : Value} {l : List Int} (h : UInts w B v l) (hb : Below B w w') : UInts w' B v l := by
  obtain ⟨A, cap, e, h1, h2, h3⟩ := h
  exact ⟨A, cap, e, h1, h2, h3.below hb⟩
theorem UInts.more {w : World} {B B' : Nat} {v : Value} {l : List Int} (h : UInts w B v l) (hB : B ≤ B') : UInts w B' v l := by
  obtain ⟨A, cap, e, h1, h2, h3⟩ := h
  exact ⟨A, cap, e, h1, h2, h3.more hB⟩
theorem own_u_cell {w : World} {base g n cap : Nat} {xs : List Int} (h : w.ownsRow base 22 1 (.slice (some ⟨g, 0, none⟩) n cap) n (uL xs)) (j : Nat) (hj : j < xs.length) : w.cell? ⟨g, j, none⟩ = some (.int .u64 (xs.getD j 0)) := by
  have := h.cells (g := g) rfl j (.int .u64 (xs.getD j 0)) (by rw [List.getElem?_map, List.getD_eq_getElem?_getD, List.getElem?_eq_getElem hj]; rfl)
  rwa [Addr.add_lit, Nat.zero_add] at this
theorem ref_sum_own (key : ByteArray) (v : Value) (c : List Int) (base : Nat) (w : World) (h : w.ownsRow base 22 1 v c.length (uL c)) (hk : key.size ≤ maxLen) (hl : c.length ≤ maxLen) :
    Calls Tryz.prog 113 #[.string key, v] w fun e w' => e = .returned (.int .u64 (sumZ key.data.toList c)) ∧ w = w' := by
  have hh := h
  rcases h.2 with ⟨rfl, h0⟩ | ⟨g, cap, cur, rfl, -⟩
  · obtain rfl : c = [] := List.eq_nil_of_length_eq_zero h0
    exact ref_sum_nil key w hk
  · exact ref_sum_calls key g 0 cap c w hk hl (fun j hj => by rw [Nat.zero_add]; exact own_u_cell hh j hj)
theorem reads_two (w : World) (t : TypeId) (a b : Value) : Reads (w.alloc (.cells #[a, b] t)) (w.alloc (.cells #[a, b] t)).heap.size 1 (some ⟨w.heap.size, 0, none⟩) 2 [a, b] := by
  refine ⟨rfl, fun _ => ⟨_, rfl, by rw [World.size_alloc]; exact Nat.lt_succ_self _, fun j u hu => ?_⟩⟩
  rw [Addr.add_lit, World.cell?_alloc_new]
  simpa using hu
theorem drop_getD (a b : List Int) (i : Nat) (h : a.drop i = b.drop i) : a.getD i 0 = b.getD i 0 := by
  have h2 := congrArg (fun l : List Int => l[0]?) h
  simp only [List.getElem?_drop, Nat.add_zero] at h2
  rw [List.getD_eq_getElem?_getD, List.getD_eq_getElem?_getD, h2]
theorem drop_more (a b : List Int) (i : Nat) (h : a.drop i = b.drop i) : a.drop (i + 1) = b.drop (i + 1) := by
  rw [← List.drop_drop, ← List.drop_drop, h]
theorem drop_set (a b : List Int) (i : Nat) (z : Int) (h : a.drop i = b.drop i) : (a.set i z).drop (i + 1) = b.drop (i + 1) := by
  rw [List.drop_set_of_lt (Nat.lt_succ_self i)]
  exact drop_more a b i h
set_option maxRecDepth 100000 in
set_option maxHeartbeats 6400000 in
theorem lsum_calls (key : ByteArray) (lv mv : Value) (l m : List Int) (w : World) (h1 : UInts w w.heap.size lv l) (h2 : UInts w w.heap.size mv m) (hk : key.size ≤ 268435456) (hl : l.length ≤ 268435456) :
    Calls Tryz.prog 82 #[.string key, lv, mv] w fun e w' => e = .returned (.bool true) ∧ Below w.heap.size w w' := by
  obtain ⟨i0, hi0, hz0, hz1, hz2⟩ := info_parts u64_info
  have HI := Lib.hid hi0; clear hi0
  have HZ0 := Lib.hid hz0; clear hz0
  have HZ1 := Lib.hid hz1; clear hz1
  have HZ2 := Lib.hid hz2; clear hz2
  obtain ⟨A, cap, rfl, hlc, hcm, hr1⟩ := h1
  obtain ⟨A2, capm, rfl, hmc, hmm, hr2⟩ := h2
  unfold maxLen at hcm hmm
  have HK := Lib.hid (show key.size ≤ maxLen from by unfold maxLen; omega)
  obtain ⟨n, hn⟩ : ∃ n, l.length = n := ⟨_, rfl⟩
  have HN := Lib.hid hn
  rw [hn] at hl hlc hr1 ⊢
  have HR1 := Lib.hid hr1
  have HR2 := Lib.hid hr2
  clear hk hn hr1 hr2
  go_enter Tryz.func82, Tryz.ntmps82
  go_upto_region 3 with (at_builtin; refine wpList_append_any _ rfl (.tmp 13) (.tmp 14) _ rfl w.heap.size 22 i0 _ 1 8 Tryz.underlying90 HI.out HZ0.out HZ1.out HZ2.out rfl (by omega) (.slice none 0 0) 0 [] rfl ⟨by simp, .inl ⟨rfl, rfl⟩⟩ w.heap.size A n cap (uL l) rfl HR1.out (uL_one l) (by unfold maxLen; omega) (by omega) (Nat.le_refl _) ?_; intro v1 w1 hown hgr hor; rw [Nat.zero_add] at hown; have HO1 := Lib.hid (show w1.ownsRow w.heap.size 22 1 v1 n (uL l) from hown); have HB1 := Lib.hid ((Below.refl w.heap.size w).grown hgr (Nat.le_refl _) (fun k hk => by cases hk)); obtain ⟨B1, d1, rfl, -⟩ := len_of hown; clear hown hgr hor)
  go_upto_region 4 with (at_builtin; refine wpList_append_any _ rfl (.tmp 16) (.tmp 17) _ rfl w.heap.size 22 i0 _ 1 8 Tryz.underlying90 HI.out HZ0.out HZ1.out HZ2.out rfl (by omega) (.slice B1 n d1) n (uL l) rfl (HO1.out.alloc _) _ (some ⟨w1.heap.size, 0, none⟩) 2 2 [.int .u64 77, .int .u64 78] rfl (reads_two w1 22 (.int .u64 77) (.int .u64 78)) (uL_one [77, 78]) (by unfold maxLen; omega) (by omega) (by rw [World.size_alloc]; exact Nat.le_succ_of_le HB1.out.size) ?_; intro v2 w2 hown hgr hor; have HO2 := Lib.hid (show w2.ownsRow w.heap.size 22 1 v2 (n + 2) (uL (l ++ [77, 78])) from (by rw [uL_app]; exact hown)); have HB2 := Lib.hid ((HB1.out.alloc HB1.out.size (Obj.cells #[.int .u64 77, .int .u64 78] 22)).grown hgr (by rw [World.size_alloc]; exact Nat.le_succ_of_le HB1.out.size) (fun k hk => (HO1.out.lt k hk).1)); obtain ⟨g, cap2, rfl, hn2, hm2⟩ := head_of hown (Nat.succ_pos _); clear hown hgr hor)
  unfold maxLen at hm2
  clear HO1 HB1
  go_upto_region 6 with (fail)
  go_loopw [9] (fun r wr => ∃ (k : Nat) (c : List Int), k ≤ 2 ∧ r = .int .i64 (k : Int) ∧ c.length = n ∧ wr.ownsRow w.heap.size 22 1 (.slice (some ⟨g, 0, none⟩) (n + 2) cap2) (n + 2) (uL (c ++ [77, 78])) ∧ Below w.heap.size w wr) (fun r _ => 2 - (intOf r).toNat)
  case atStart => exact ⟨0, l, by omega, rfl, HN.out, HO2.out, HB2.out⟩
  case round =>
    obtain ⟨r, c, hr, rfl, hcn, hown, hbl⟩ := hrel
    clear HO2 HB2
    have HO := Lib.hid hown
    have HB := Lib.hid hbl
    have HCN := Lib.hid hcn
    clear hown hbl hcn
    by_cases hr2 : r < 2
    · have hr2' : (r : Int) < 2 := by omega
      have k77 : wr.cell? ⟨g, n, none⟩ = some (.int .u64 77) := by
        have h := own_u_cell HO.out n (by rw [List.length_append, HCN.out]; show n < n + 2; omega)
        rw [List.getD_eq_getElem?_getD, List.getElem?_append_right (by rw [HCN.out]; exact Nat.le_refl _), HCN.out, Nat.sub_self] at h
        exact h
      have k78 : wr.cell? ⟨g, n + 1, none⟩ = some (.int .u64 78) := by
        have h := own_u_cell HO.out (n + 1) (by rw [List.length_append, HCN.out]; show n + 1 < n + 2; omega)
        rw [List.getD_eq_getElem?_getD, List.getElem?_append_right (by rw [HCN.out]; exact Nat.le_succ _), HCN.out, Nat.add_sub_cancel_left] at h
        exact h
      have HCC := Lib.hid (show ∀ j, j < c.length → wr.cell? ⟨g, 0 + j, none⟩ = some (.int .u64 (c.getD j 0)) from fun j hj => by
        rw [Nat.zero_add]
        have h := own_u_cell HO.out j (by rw [List.length_append]; omega)
        rw [List.getD_eq_getElem?_getD, List.getElem?_append_left hj] at h
        rw [h, List.getD_eq_getElem?_getD])
      have HRC := Lib.hid (show Reads wr wr.heap.size 1 (some ⟨g, 0, none⟩) n (uL c) from ⟨by rw [uL_len, HCN.out, Nat.mul_one], fun _ => ⟨_, rfl, (HO.out.lt g rfl).2, fun j u hu => by
        rw [List.getElem?_map, Option.map_eq_some_iff] at hu
        obtain ⟨z, hz, rfl⟩ := hu
        have hj := (List.getElem?_eq_some_iff.1 hz).1
        rw [Addr.add_lit, HCC.out j hj, List.getD_eq_getElem?_getD, hz]
        rfl⟩⟩)
      have K7 := Lib.hid (And.intro k77 k78)
      clear k77 k78
      go_upto_region 10 with (at_builtin; refine wpList_append_any _ rfl (.tmp 27) (.tmp 28) _ rfl wr.heap.size 22 i0 _ 1 8 Tryz.underlying90 HI.out HZ0.out HZ1.out HZ2.out rfl (by omega) (.slice none 0 0) 0 [] rfl ⟨by simp, .inl ⟨rfl, rfl⟩⟩ wr.heap.size (some ⟨g, 0, none⟩) n cap2 (uL c) rfl HRC.out (uL_one c) (by unfold maxLen; omega) (by omega) (Nat.le_refl _) ?_; intro v3 w3 hown hgr hor; rw [Nat.zero_add] at hown; have HO3 := Lib.hid (show w3.ownsRow wr.heap.size 22 1 v3 n (uL c) from hown); have HB3 := Lib.hid ((Below.refl wr.heap.size wr).grown hgr (Nat.le_refl _) (fun k hk => by cases hk)); obtain ⟨B3, c3, rfl, -⟩ := len_of hown; clear hown hgr hor)
      have HOR := Lib.hid (own_other_b HO.out HB3.out)
      have HBW := Lib.hid (HB.out.trans (HB3.out.mono HB.out.size))
      have hgs := (HO.out.lt g rfl).2
      have k77 : w3.cell? ⟨g, n, none⟩ = some (.int .u64 77) := (HB3.out.cell hgs).trans K7.out.1
      have k78 : w3.cell? ⟨g, n + 1, none⟩ = some (.int .u64 78) := (HB3.out.cell hgs).trans K7.out.2
      have HC3 := Lib.hid (show ∀ j, j < c.length → w3.cell? ⟨g, 0 + j, none⟩ = some (.int .u64 (c.getD j 0)) from fun j hj => (HB3.out.cell hgs).trans (HCC.out j hj))
      have HCM := Lib.hid (show c.length ≤ maxLen from by rw [HCN.out]; unfold maxLen; omega)
      have HGS := Lib.hid hgs
      have HSC := Lib.hid (show Calls Tryz.prog 115 #[.string key, .slice (some ⟨g, 0, none⟩) n cap2] w3 fun e w' => e = .returned (.int .u64 (sumZ key.data.toList c)) ∧ w3 = w' from by
        have h := sum_calls key g 0 cap2 c w3 HK.out HCM.out HC3.out
        rwa [HCN.out] at h)
      have HRS := Lib.hid (show Calls Tryz.prog 113 #[.string key, .slice B3 n c3] w3 fun e w' => e = .returned (.int .u64 (sumZ key.data.toList c)) ∧ w3 = w' from ref_sum_own key _ c wr.heap.size w3 (by rw [HCN.out]; exact HO3.out) HK.out HCM.out)
      clear hgs
      go_upto_region 13 with (first
        | (go_at_call 115; (with_reducible refine HSC.out.mono ?_); rintro e w4 ⟨rfl, rfl⟩)
        | (go_at_call 113; (with_reducible refine HRS.out.mono ?_); rintro e w4 ⟨rfl, rfl⟩))
      clear k77 k78 HSC HRS HC3 HCC HRC K7 HO HB HB3
      have HGB := Lib.hid (show ∀ w' : World, ∀ v : Value, ∀ xs : List Value, w'.ownsRow wr.heap.size 22 1 v n xs → v.ownBlock ≠ some g from fun w' v xs h hh => by have h1 := (h.lt g hh).1; have h2 := HGS.out; omega)
      go_wp2_with fail
      go_loopw [12] (fun r wr2 => ∃ (i : Nat) (c2 : List Int), i ≤ n ∧ r = .int .i64 (i : Int) ∧ c2.length = n ∧ c2.drop i = c.drop i ∧ wr2.ownsRow w.heap.size 22 1 (.slice (some ⟨g, 0, none⟩) (n + 2) cap2) (n + 2) (uL (c2 ++ [77, 78])) ∧ wr2.ownsRow wr.heap.size 22 1 (.slice B3 n c3) n (uL c) ∧ Below w.heap.size w wr2) (fun r _ => n - (intOf r).toNat)
      case atStart => exact ⟨0, c, by omega, rfl, HCN.out, rfl, HOR.out, HO3.out, HBW.out⟩
      case round =>
        obtain ⟨i, c2, hi, rfl, hc2, hdr, how, ho3, hbl⟩ := hrel
        clear HOR HO3 HBW
        have HO := Lib.hid how
        have HO3 := Lib.hid ho3
        have HB := Lib.hid hbl
        have HC2 := Lib.hid hc2
        have HDR := Lib.hid hdr
        clear how ho3 hbl hc2 hdr
        by_cases hin : i < n
        · have hin' : (i : Int) < (n : Int) := by omega
          obtain ⟨g3, rfl⟩ := head_some HO3.out (by omega)
          have HNE := Lib.hid (HGB.out _ _ _ HO3.out)
          obtain ⟨x, hx⟩ : ∃ x, c.getD i 0 = x := ⟨_, rfl⟩
          have hx2 : c2.getD i 0 = x := (drop_getD c2 c i HDR.out).trans hx
          go_upto_region 16 with (fail)
          clear hin'
          have HCX := Lib.hid (show ∀ wq, Below wr.heap.size wr wq → wq.cell? ⟨g, i, none⟩ = some (.int .u64 x) from fun wq hq => (hq.cell (HO.out.lt g rfl).2).trans (by
            have h := own_u_cell HO.out i (by rw [List.length_append, HC2.out]; omega)
            rwa [List.getD_eq_getElem?_getD, List.getElem?_append_left (by rw [HC2.out]; exact hin), ← List.getD_eq_getElem?_getD, hx2] at h))
          have HWX := Lib.hid (show ∀ wq, Below wr.heap.size wr wq → wq.cell? ⟨g3, i, none⟩ = some (.int .u64 x) from fun wq hq => (hq.cell (HO3.out.lt g3 rfl).2).trans (by
            have h := own_u_cell HO3.out i (by rw [HCN.out]; exact hin)
            rwa [hx] at h))
          have hin2 : (i : Int) < (n : Int) := by omega
          have hin3 : (i : Int) < (n : Int) + 2 := by omega
          clear hx hx2
          refine wp_region_held_drew (S := fun wx => Below wr.heap.size wr wx) (by kernel_rfl) (below_drew wr) (fun hHeld => ?_)
          generalize wr.drew = wd at hHeld ⊢
          refine wpAnyH_takeD 61 (i := 0) (v := .slice (some ⟨g, 0, none⟩) n cap2) rfl rfl (by kernel_rfl) (by kernel_rfl) (by kernel_rfl) (fun _ _ _ h => h) (Or.inl ⟨by rfl, fun wq hSw => by go_simp⟩) (by assumption) ?_
          simp only [Act.put, List.setIfInBounds_toArray, List.set_cons_zero, List.set_cons_succ]
          refine wpAnyH_takeD 62 (i := 1) (v := .int .i64 (i : Int)) rfl rfl (by kernel_rfl) (by kernel_rfl) (by kernel_rfl) (fun _ _ _ h => h) (Or.inl ⟨by rfl, fun wq hSw => by go_simp⟩) (by assumption) ?_
          simp only [Act.put, List.setIfInBounds_toArray, List.set_cons_zero, List.set_cons_succ]
          refine wpAnyH_takeD 63 (i := 2) (v := .pointer (some ⟨g, i, none⟩)) rfl rfl (by kernel_rfl) (by kernel_rfl) (by kernel_rfl) (fun _ _ _ h => h) (Or.inl ⟨by rfl, fun wq hSw => by go_simp⟩) (by assumption) ?_
          simp only [Act.put, List.setIfInBounds_toArray, List.set_cons_zero, List.set_cons_succ]
          refine wpAnyH_takeD 64 (i := 3) (v := .int .u64 x) rfl rfl (by kernel_rfl) (by kernel_rfl) (by kernel_rfl) (fun _ _ _ h => h) (Or.inl ⟨by rfl, fun wq hSw => by have k4 := HCX.out wq hSw; go_simp⟩) (by assumption) ?_
          simp only [Act.put, List.setIfInBounds_toArray, List.set_cons_zero, List.set_cons_succ]
          refine wpAnyH_takeD 65 (i := 4) (v := .slice (some ⟨g3, 0, none⟩) n c3) rfl rfl (by kernel_rfl) (by kernel_rfl) (by kernel_rfl) (fun _ _ _ h => h) (Or.inl ⟨by rfl, fun wq hSw => by go_simp⟩) (by assumption) ?_
          simp only [Act.put, List.setIfInBounds_toArray, List.set_cons_zero, List.set_cons_succ]
          refine wpAnyH_takeD 66 (i := 5) (v := .int .i64 (i : Int)) rfl rfl (by kernel_rfl) (by kernel_rfl) (by kernel_rfl) (fun _ _ _ h => h) (Or.inl ⟨by rfl, fun wq hSw => by go_simp⟩) (by assumption) ?_
          simp only [Act.put, List.setIfInBounds_toArray, List.set_cons_zero, List.set_cons_succ]
          refine wpAnyH_takeD 67 (i := 6) (v := .pointer (some ⟨g3, i, none⟩)) rfl rfl (by kernel_rfl) (by kernel_rfl) (by kernel_rfl) (fun _ _ _ h => h) (Or.inl ⟨by rfl, fun wq hSw => by go_simp⟩) (by assumption) ?_
          simp only [Act.put, List.setIfInBounds_toArray, List.set_cons_zero, List.set_cons_succ]
          refine wpAnyH_takeD 68 (i := 7) (v := .int .u64 x) rfl rfl (by kernel_rfl) (by kernel_rfl) (by kernel_rfl) (fun _ _ _ h => h) (Or.inl ⟨by rfl, fun wq hSw => by have k4 := HWX.out wq hSw; go_simp⟩) (by assumption) ?_
          simp only [Act.put, List.setIfInBounds_toArray, List.set_cons_zero, List.set_cons_succ]
          refine wpAnyH_takeD 69 (i := 8) (v := .bool false) rfl rfl (by kernel_rfl) (by kernel_rfl) (by kernel_rfl) (fun _ _ _ h => h) (Or.inl ⟨by rfl, fun wq hSw => by go_simp⟩) (by assumption) ?_
          simp only [Act.put, List.setIfInBounds_toArray, List.set_cons_zero, List.set_cons_succ]
          refine wpAnyH_done (by kernel_rfl) ?_ _
          replace HO := Lib.hid (own_other_b HO.out hHeld)
          replace HO3 := Lib.hid (own_other_b HO3.out hHeld)
          replace HB := Lib.hid (HB.out.trans (hHeld.mono HB.out.size))
          have HKX := Lib.hid (HCX.out wd hHeld)
          clear HCX HWX hHeld
          by_cases him : i < m.length
          · have him' : (i : Int) < (m.length : Int) := by omega
            obtain ⟨ad, rfl, hb, hcell⟩ := HR2.out.2 (by omega)
            obtain ⟨z, hz⟩ : ∃ z, m[i]? = some z := ⟨_, List.getElem?_eq_getElem him⟩
            have km : wd.cell? (ad.add i) = some (.int .u64 z) := (HB.out.cell (by rw [block_of_add]; exact hb)).trans (hcell i _ (by rw [List.getElem?_map, hz]; rfl))
            have kg := HKX.out
            have fg := HO.out.frozenAt i
            have hst := (HO.out.stored i (.int .u64 z)).1
            have HO4 := Lib.hid (show (wd.setCell ⟨g, i, none⟩ (.int .u64 z)).ownsRow w.heap.size 22 1 (.slice (some ⟨g, 0, none⟩) (n + 2) cap2) (n + 2) (uL (c2.set i z ++ [77, 78])) from by
              rw [show uL (c2.set i z ++ [77, 78]) = (uL (c2 ++ [77, 78])).set i (.int .u64 z) from by rw [← List.map_set, List.set_append_left _ _ (by rw [HC2.out]; exact hin)]]
              exact hst)
            have HO5 := Lib.hid (own_other HO3.out (fun hh => HNE.out hh) (setCell_other wd g i (.int .u64 z)))
            have HB5 := Lib.hid (HB.out.setCell (p := ⟨g, i, none⟩) (HO.out.lt g rfl).1 (.int .u64 z))
            have HC5 := Lib.hid (show (c2.set i z).length = n from (List.length_set ..).trans HC2.out)
            have HD5 := Lib.hid (drop_set c2 c i z HDR.out)
            clear hst hcell hz him
            go_wp2_with fail
            go_roundw
            case rel => exact ⟨i + 1, c2.set i z, by omega, by go_num, HC5.out, HD5.out, HO4.out, HO5.out, HB5.out⟩
            case measure => simp [intOf]; omega
          · have him' : ¬ (i : Int) < (m.length : Int) := by omega
            have HD5 := Lib.hid (drop_more c2 c i HDR.out)
            go_wp2_with fail
            go_roundw
            case rel => exact ⟨i + 1, c2, by omega, by go_num, HC2.out, HD5.out, HO.out, HO3.out, HB.out⟩
            case measure => simp [intOf]; omega
        · have hin' : ¬ (i : Int) < (n : Int) := by omega
          go_wp2_with fail
          go_roundw
          case rel => exact ⟨r + 1, c2, by omega, by go_num, HC2.out, HO.out, HB.out⟩
          case measure => simp [intOf]; omega
    · have hr2' : ¬ (r : Int) < 2 := by omega
      go_wp2_with fail
      go_ret
      exact ⟨rfl, HB.out⟩
end Go.Proofs.YtlenlldiimohjaaGreatDoor
namespace Go.Proofs.YtlenlldiimohjaaGreatDoor
open Go.ChangeShapes Go.WideShapes Go.ChangeAt Go.RowKit

theorem refKnown_calls (p : Nat) (L : List Acct) (u : ByteArray) (w : World) (h : RTab w p L) :
    Calls Tryz.prog 26 #[.pointer (some ⟨p, 0, none⟩), .string u] w fun e w' => e = .returned (.bool (known L u)) ∧ w = w' := by
  obtain ⟨v, hb, ha⟩ := h
  obtain ⟨A, c, rfl, hlc, hcm⟩ := ha.len
  have hcell : w.cell? ⟨p, 0, none⟩ = some (.slice A L.length c) := hb.cell 0
  have HA := Lib.hid ha; clear ha hb
  rcases findZ_parts L u with ⟨i, a, hz, -, -, hku, -⟩ | ⟨hz, hku, -⟩
  all_goals
    have HZ := Lib.hid hz; clear hz
    have HK := Lib.hid hku; clear hku
    go_enter Tryz.func26, Tryz.ntmps26
    go_wp2_with fail
    refine (find_calls _ L _ _ HA.out).mono ?_
    rintro e w1 ⟨rfl, rfl⟩
    rw [HZ.out]
    go_wp2_with fail
    go_ret
    exact ⟨by rw [HK.out]; simp, rfl⟩

end Go.Proofs.YtlenlldiimohjaaGreatDoor
