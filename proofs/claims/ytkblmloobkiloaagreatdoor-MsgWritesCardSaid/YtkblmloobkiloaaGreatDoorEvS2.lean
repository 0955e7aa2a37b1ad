
/-
  The evaluator's soundness: what operations read. Conditions: none.
-/
import Derived.Test.YtkblmloobkiloaaGreatDoorEvS1
namespace Go.Proofs.YtkblmloobkiloaaGreatDoor.Ev
open Go.RowKit

/-- The operands stand for what the frame holds. -/
def EvOk (ρ : Env) (fr : AF) (e : Operand → Value) (xs : Array Operand) : Prop := ∀ x ∈ xs, ∀ v, fr.ev x = some v → V ρ v (e x)
section
variable {P : Program} {w0 w : World} {ρ : Env} {s : AS} {fr : AF} {e : Operand → Value}
theorem plain_sound {o : Oper} {r : Next} (hE : EvOk ρ fr e o.op.operands) (hs : ∀ cs b, o.op ≠ .select cs b) (hp : plainB fr o.op.operands.toList = true) (h : prun P (execOp (evG fr) o) = some r) : (execOp e o).run P w = .ok r w := by
  rw [execOp_congr (ρ' := evG fr) o hs]
  · exact prun_run h
  · intro x hx
    have := List.all_eq_true.1 hp x (Array.mem_toList_iff.2 hx)
    obtain ⟨v, hv⟩ := Option.isSome_iff_exists.1 this
    unfold evG
    rw [hv]
    obtain ⟨u, hu, hun⟩ := Option.bind_eq_some_iff.1 hv
    exact (hE x hx u hu).un hun
theorem isAggB_run {t : TypeId} {b : Bool} (h : isAggB P t = some b) : ∃ d, P.underlying t = some d ∧ d.isRow = b := by
  unfold isAggB at h
  obtain ⟨d, hd, h⟩ := Option.bind_eq_some_iff.1 h
  refine ⟨d, hd, ?_⟩
  cases d <;> exact Option.some.inj h
theorem szB_info {t : TypeId} {n : Nat} (h : szB P t = some n) : ∃ i, P.info? t = some i ∧ i.size = n := by
  unfold szB at h
  obtain ⟨i, hi, h⟩ := Option.bind_eq_some_iff.1 h
  exact ⟨i, hi, Option.some.inj h⟩
theorem szB_run {t : TypeId} {n : Nat} (h : szB P t = some n) (w : World) : (sizeOf t).run P w = .ok n w := by
  obtain ⟨i, hi, rfl⟩ := szB_info h
  simp [sizeOf, typeInfo, hi]
theorem isAgg_run {t : TypeId} {b : Bool} (h : isAggB P t = some b) (w : World) : (isAgg t).run P w = .ok b w := by
  obtain ⟨d, hd, rfl⟩ := isAggB_run h
  unfold isAgg
  rw [Sem.run_bind, run_underlying hd w]
  cases d <;> rfl
theorem cell_of {b : Nat} {arr : List Value} {t : TypeId} {fr : Nat × Nat} (h : w.heap[b]? = some (.cells arr.toArray t fr)) (k : Nat) : w.cell? ⟨b, k, none⟩ = arr[k]? := by
  unfold World.cell?
  rw [h]
  simp
theorem mid_of {b off n : Nat} {l rest : List Value} {t : TypeId} {fr : Nat × Nat} (h : w.heap[b]? = some (.cells (l ++ rest).toArray t fr)) : w.rangeAt b off ((l.drop off).take n) := fun j v hv => by
  rw [cell_of h]
  rw [List.getElem?_take] at hv
  split at hv
  · rw [List.getElem?_drop] at hv
    rw [List.getElem?_append_left (List.getElem?_eq_some_iff.1 hv).1]
    exact hv
  · cases hv
theorem apart_load {b off : Nat} {cs : List AV} {l rest : List Value} {t e : TypeId} {f : Nat × Nat} {v : AV} (hb : w.heap[b]? = some (.cells (l ++ rest).toArray e f)) (hv : Vs ρ cs l) (h : apart P t cs off = some v) : ∃ a, (Instr.loadAt t (.pointer (some ⟨b, off, none⟩))).run P w = .ok a w ∧ V ρ v a := by
  unfold apart at h
  obtain ⟨g, hg, h⟩ := Option.bind_eq_some_iff.1 h
  cases g with
  | true =>
    obtain ⟨n, hn, h⟩ := Option.bind_eq_some_iff.1 h
    obtain ⟨r, hr, h⟩ := Option.bind_eq_some_iff.1 h
    obtain rfl := Option.some.inj h
    obtain ⟨r', k1, rfl, k3⟩ := hv.cut hr
    obtain ⟨d, hd, hd2⟩ := isAggB_run hg
    obtain ⟨i, hi, hi2⟩ := szB_info hn
    exact ⟨_, run_loadAt_mid w b off t _ d (mid_of hb) hd hd2 (by rw [hi, k3, Option.map_some, hi2]), .agg k1⟩
  | false =>
    obtain ⟨a, ha, hva⟩ := hv.get h
    refine ⟨a, ?_, hva⟩
    have hc : w.cell? ⟨b, off, none⟩ = some a := by rw [cell_of hb, List.getElem?_append_left (List.getElem?_eq_some_iff.1 ha).1]; exact ha
    simp [Instr.loadAt, Instr.sureAddr, loadVar, Sem.run_bind, isAgg_run hg, run_load, hc]
theorem aload_sound {t : TypeId} {p v : AV} {a : Value} (hR : R P w0 ρ s w) (hp : V ρ p a) (h : aload P s t p = some v) : ∃ b, (Instr.loadAt t a).run P w = .ok b w ∧ V ρ v b := by
  cases hp with
  | ptr hi =>
    unfold aload at h
    dsimp only at h
    split at h
    · rename_i cs e' o f hg
      obtain ⟨b, x, obj, h1, h2, h3, l, rest, fz, rfl, k1, -⟩ := hR.ob _ _ hg
      rw [hi] at h1
      obtain ⟨rfl, rfl⟩ := Prod.mk.inj (Option.some.inj h1)
      exact apart_load h3 k1 h
    · cases h
  | _ => cases h
theorem apart_part {off : Nat} {cs : List AV} {l : List Value} {t : TypeId} {v : AV} (hv : Vs ρ cs l) (h : apart P t cs off = some v) : ∃ a, (part t l.toArray off).run P w = .ok a w ∧ V ρ v a := by
  unfold apart at h
  obtain ⟨g, hg, h⟩ := Option.bind_eq_some_iff.1 h
  cases g with
  | true =>
    obtain ⟨n, hn, h⟩ := Option.bind_eq_some_iff.1 h
    obtain ⟨r, hr, h⟩ := Option.bind_eq_some_iff.1 h
    obtain rfl := Option.some.inj h
    obtain ⟨r', k1, rfl, k3⟩ := hv.cut hr
    refine ⟨.agg ((l.drop off).take n).toArray, ?_, .agg k1⟩
    simp [part, Sem.run_bind, isAgg_run hg, szB_run hn, List.take_drop]
  | false =>
    obtain ⟨a, ha, hva⟩ := hv.get h
    refine ⟨a, ?_, hva⟩
    simp [part, Sem.run_bind, isAgg_run hg, ha]
/-- Numbered values. -/
inductive Ps (ρ : Env) : List (Nat × AV) → List (Nat × Value) → Prop
  | nil : Ps ρ [] []
  | cons {i : Nat} {v : AV} {u : Value} {l : List (Nat × AV)} {r : List (Nat × Value)} : V ρ v u → Ps ρ l r → Ps ρ ((i, v) :: l) ((i, u) :: r)
theorem splice_eq (l us : List Value) (off : Nat) (h : off + us.length ≤ l.length) : (us.toArray.zipIdx.foldl (fun cs (c, j) => cs.setIfInBounds (off + j) c) l.toArray) = (l.take off ++ us ++ l.drop (off + us.length)).toArray := by
  have hz : us.toArray.zipIdx.foldl (fun cs (x : Value × Nat) => cs.setIfInBounds (off + x.2) x.1) l.toArray = (us.zipIdx 0).foldl (fun cs (x : Value × Nat) => cs.setIfInBounds (off + x.2) x.1) l.toArray := by
    rw [← Array.foldl_toList]
    simp
  obtain ⟨h1, h2⟩ := Great.foldl_set off us 0 l.toArray
  have hz2 : (us.toArray.zipIdx.foldl (fun cs (c, j) => cs.setIfInBounds (off + j) c) l.toArray) = (us.zipIdx 0).foldl (fun cs (x : Value × Nat) => cs.setIfInBounds (off + x.2) x.1) l.toArray := hz
  rw [hz2]
  apply Array.ext'
  apply List.ext_getElem?
  intro k
  have h3 := h2 k
  rw [← Array.getElem?_toList] at h3
  rw [h3]
  simp only [Nat.add_zero, List.size_toArray, List.getElem?_toArray]
  have ht : (l.take off).length = off := by rw [List.length_take]; omega
  split
  · rename_i hk
    rw [List.append_assoc, List.getElem?_append_right (by omega), ht, List.getElem?_append_left (by omega)]
  · rename_i hk
    by_cases hk1 : k < off
    · rw [List.append_assoc, List.getElem?_append_left (by omega), List.getElem?_take, if_pos hk1]
    · by_cases hk2 : k < off + us.length
      · rw [List.getElem?_eq_none (by omega), List.getElem?_eq_none (by simp; omega)]
      · rw [List.getElem?_append_right (by simp; omega), List.getElem?_drop]
        congr 1
        simp
        omega
theorem fill_sound (place : Nat → Option (Nat × Nat)) : ∀ {ps : List (Nat × AV)} {qs : List (Nat × Value)} {cs r : List AV} {l : List Value}, Ps ρ ps qs → Vs ρ cs l → fillA place cs ps = some r → ∃ l', Instr.fill place l.toArray qs = some l'.toArray ∧ Vs ρ r l'
  | _, _, cs, r, l, .nil, hv, h => ⟨l, rfl, by obtain rfl := Option.some.inj h; exact hv⟩
  | _, _, cs, r, l, .cons (i := i) (v := v) (u := u) huv hs, hv, h => by
    unfold fillA at h
    obtain ⟨p, hp, h⟩ := Option.bind_eq_some_iff.1 h
    split at h
    · rename_i hb
      obtain ⟨c, hc, h⟩ := Option.bind_eq_some_iff.1 h
      obtain ⟨k1, k2⟩ := hv.set huv.cells hc
      have hsz : u.cells.size = p.2 := by
        have := Nat.eq_of_beq_eq_true hb
        rw [huv.cells.len] at this
        simpa using this
      obtain ⟨l', m1, m2⟩ := fill_sound place hs k1 h
      refine ⟨l', ?_, m2⟩
      unfold Instr.fill
      rw [hp]
      obtain ⟨off, size⟩ := p
      have hsz : u.cells.size = size := hsz
      have k2 : off + u.cells.toList.length ≤ l.length := k2
      dsimp only
      rw [if_neg]
      · rw [← m1]
        congr 1
        exact splice_eq l u.cells.toList off k2
      · simp at k2
        simp [hsz]
        omega
    · cases h
theorem evs_sound {xs : List Operand} {l : List AV} (hE : ∀ x ∈ xs, ∀ v, fr.ev x = some v → V ρ v (e x)) (h : evs fr xs = some l) : Vs ρ l (xs.map e) := by
  induction xs generalizing l with
  | nil => obtain rfl := Option.some.inj h; exact .nil
  | cons x xs ih =>
    unfold evs at h
    obtain ⟨v, hv, h⟩ := Option.bind_eq_some_iff.1 h
    obtain ⟨r, hr, h⟩ := Option.bind_eq_some_iff.1 h
    obtain rfl := Option.some.inj h
    exact .cons (hE x (List.mem_cons_self ..) v hv) (ih (fun y hy => hE y (List.mem_cons_of_mem _ hy)) hr)
theorem evsP_sound {xs : List (Nat × Operand)} {l : List (Nat × AV)} (hE : ∀ p ∈ xs, ∀ v, fr.ev p.2 = some v → V ρ v (e p.2)) (h : evsP fr xs = some l) : Ps ρ l (xs.map fun p => (p.1, e p.2)) := by
  induction xs generalizing l with
  | nil => obtain rfl := Option.some.inj h; exact .nil
  | cons x xs ih =>
    obtain ⟨i, x⟩ := x
    unfold evsP at h
    obtain ⟨v, hv, h⟩ := Option.bind_eq_some_iff.1 h
    obtain ⟨r, hr, h⟩ := Option.bind_eq_some_iff.1 h
    obtain rfl := Option.some.inj h
    exact .cons (hE _ (List.mem_cons_self ..) v hv) (ih (fun y hy => hE y (List.mem_cons_of_mem _ hy)) hr)
theorem zero_run {t : TypeId} {z : List AV} (h : zeroCellsB P t = some z) : ∃ i v, P.info? t = some i ∧ i.zero = some v ∧ Vs ρ z v.cells.toList ∧ ∀ w, (zeroValue t).run P w = .ok v w := by
  unfold zeroCellsB at h
  obtain ⟨i, hi, h⟩ := Option.bind_eq_some_iff.1 h
  obtain ⟨v, hv, h⟩ := Option.bind_eq_some_iff.1 h
  obtain rfl := Option.some.inj h
  exact ⟨i, v, hi, hv, Vs.gs _, fun w => by simp [zeroValue, typeInfo, hi, hv]⟩
theorem natOf_val {v : AV} {a : Value} {n : Nat} (hv : V ρ v a) (h : natOf v = some n) : ∃ k, a = .int k (Int.ofNat n) := by
  unfold natOf at h
  split at h
  · obtain rfl := Option.some.inj h
    cases hv
    exact ⟨_, rfl⟩
  · cases h
theorem build_sound {t : TypeId} {ps : List (Nat × AV)} {qs : Array (Nat × Value)} {z r : List AV} {d : TypeDesc} (hp : Ps ρ ps qs.toList) (hz : zeroCellsB P t = some z) (hd : P.underlying t = some d) (h : buildB P d z ps = some r) : ∃ l, (Instr.build t qs).run P w = .ok (.agg l.toArray) w ∧ Vs ρ r l := by
  obtain ⟨it, v, hi, hv, hvs, -⟩ := zero_run hz
  cases d with
  | struct fs =>
    obtain ⟨pl, hpl, h⟩ := Option.bind_eq_some_iff.1 h
    obtain ⟨l, h1, h2⟩ := fill_sound _ hp hvs h
    refine ⟨l, run_build w t qs _ ?_, h2⟩
    unfold Program.built
    simp only [hi, hd, hv, hpl]
    simpa using h1
  | array n e =>
    obtain ⟨m, hm, h⟩ := Option.bind_eq_some_iff.1 h
    obtain ⟨ie, hie, rfl⟩ := szB_info hm
    obtain ⟨l, h1, h2⟩ := fill_sound _ hp hvs h
    refine ⟨l, run_build w t qs _ ?_, h2⟩
    unfold Program.built
    simp only [hi, hd, hv, hie]
    simpa using h1
  | _ => cases h
theorem struct_run {t : TypeId} {fs : Array Field} (hd : P.underlying t = some (.struct fs)) {f : Nat} {fd : Field} (hf : fs[f]? = some fd) {n : Nat} (hn : szB P fd.type = some (n + 1)) (b off : Nat) : (Instr.fieldAt t (.pointer (some ⟨b, off, none⟩)) f).run P w = .ok (.pointer (some ⟨b, off + fd.offset, none⟩)) w := by
  simp [Instr.fieldAt, run_underlying hd, hf, Instr.sureAddr, fieldPlace, szB_run hn, Addr.add_mid]
theorem index_run {t el : TypeId} {len off k n b cap : Nat} {kd : IntKind} (hd : P.underlying t = some (.slice el)) (hk : k + 1 ≤ len) (hn : szB P el = some n) : (Instr.indexAt t (.slice (some ⟨b, off, none⟩) len cap) (.int kd (Int.ofNat k))).run P w = .ok (.pointer (some ⟨b, off + k * n, none⟩)) w := by
  have h1 : (0 : Int) ≤ Int.ofNat k ∧ (Int.ofNat k) < (len : Int) := ⟨Int.natCast_nonneg k, by show (k : Int) < len; omega⟩
  simp [Instr.indexAt, asIntOf, run_underlying hd, szB_run hn, Addr.add_mid]
  omega
theorem index_run' {t el : TypeId} {len off k n b : Nat} {kd : IntKind} (hd : P.underlying t = some (.array len el)) (hk : k + 1 ≤ len) (hn : szB P el = some n) : (Instr.indexAt t (.pointer (some ⟨b, off, none⟩)) (.int kd (Int.ofNat k))).run P w = .ok (.pointer (some ⟨b, off + k * n, none⟩)) w := by
  simp [Instr.indexAt, asIntOf, Instr.sureAddr, run_underlying hd, szB_run hn, Addr.add_mid]
  omega
theorem bound_run {kd : IntKind} {n y : Nat} (c : BoundsCode) (h : n ≤ y) : (Instr.sliceBound (.int kd (Int.ofNat n)) y c).run P w = .ok n w := by
  simp [Instr.sliceBound, asIntOf]
  omega
theorem bounds_run {lo hi : Option Value} {len cap h l : Nat} (hh : (hi = none ∧ h = len) ∨ (∃ k, hi = some (.int k (Int.ofNat h)) ∧ h ≤ cap)) (hl : (lo = none ∧ l = 0) ∨ (∃ k, lo = some (.int k (Int.ofNat l)) ∧ l ≤ h)) : (Instr.sliceBounds true len cap lo hi none).run P w = .ok (l, h, cap) w := by
  rcases hh with ⟨rfl, rfl⟩ | ⟨k, rfl, hk⟩ <;> rcases hl with ⟨rfl, rfl⟩ | ⟨k', rfl, hk'⟩
  · simp [Instr.sliceBounds]
  · simp [Instr.sliceBounds, bound_run _ hk', -Int.ofNat_eq_natCast]
  · simp [Instr.sliceBounds, bound_run _ hk, -Int.ofNat_eq_natCast]
  · simp [Instr.sliceBounds, bound_run _ hk, bound_run _ hk', -Int.ofNat_eq_natCast]
theorem call_builtin {dst : Option Tmp} {b : Builtin} {xs : Array Operand} {ts : Array TypeId} {type : TypeId} {pos : String} {after : Array Edge} {guard : Option (Nat × Bool)} : execOp e ⟨dst, .call ⟨.builtin b, xs, ts⟩, type, pos, after, guard⟩ = builtin b ts type (xs.map fun | .const _ => true | _ => false) (xs.map e) := rfl
theorem addr_beq (b u v : Nat) : ((⟨b, u, none⟩ : Addr) == ⟨b, v, none⟩) = Nat.beq u v := by
  cases h : Nat.beq u v
  · have := Nat.ne_of_beq_eq_false h
    simp [this]
  · have := Nat.eq_of_beq_eq_true h
    simp [this]
theorem equal_eq (t : TypeId) (x y : Value) : Op.equal t x y = Op.equalIn (9999 + 1) t x y := rfl
theorem eqB_run {t : TypeId} {d : TypeDesc} {a b : AV} {x y : Value} {r : Bool} (hd : P.underlying t = some d) (ha : V ρ a x) (hb : V ρ b y) (h : eqB P d a b = some r) (op : BinOp) (p q : Operand) (ho : op = .eql ∨ op = .neq) :
    (do eqGuard op t p q x y; binOp op t x y : Sem Value).run P w = .ok (.bool (if op = .neq then !r else r)) w := by
  have key : (Op.equal t x y).run P w = .ok r w ∧ (∀ o, eqGuard o t p q x y = pure ()) ∧ (binOp .eql t x y = do pure (.bool (← Op.equal t x y))) ∧ (binOp .neq t x y = do pure (.bool (!(← Op.equal t x y)))) := by
    unfold eqB at h
    split at h
    · obtain rfl := Option.some.inj h
      cases ha; cases hb
      refine ⟨by rw [equal_eq, Op.equalIn]; simp [run_underlying hd], fun o => by cases o <;> rfl, rfl, rfl⟩
    · obtain rfl := Option.some.inj h
      cases ha; cases hb
      refine ⟨by rw [equal_eq, Op.equalIn]; simp [run_underlying hd], fun o => by cases o <;> rfl, rfl, rfl⟩
    · split at h
      · rename_i n hij hn
        obtain rfl := Option.some.inj h
        obtain rfl := Nat.eq_of_beq_eq_true hij
        obtain ⟨b1, x1, h1, rfl⟩ := ha.ptr'
        obtain ⟨b2, x2, h2, rfl⟩ := hb.ptr'
        rw [h1] at h2
        obtain ⟨rfl, rfl⟩ := Prod.mk.inj (Option.some.inj h2)
        refine ⟨?_, fun o => by cases o <;> rfl, rfl, rfl⟩
        rw [equal_eq, Op.equalIn]
        simp [run_underlying hd, szB_run hn, sameAddr, addr_beq]
      · cases h
    · obtain rfl := Option.some.inj h
      cases ha; cases hb
      refine ⟨by rw [equal_eq, Op.equalIn]; simp [run_underlying hd], fun o => by cases o <;> rfl, rfl, rfl⟩
    · obtain rfl := Option.some.inj h
      cases ha; cases hb
      refine ⟨by rw [equal_eq, Op.equalIn]; simp [run_underlying hd], fun o => by cases o <;> rfl, rfl, rfl⟩
    · obtain rfl := Option.some.inj h
      cases ha; cases hb
      refine ⟨by rw [equal_eq, Op.equalIn]; simp [run_underlying hd], fun o => by cases o <;> rfl, rfl, rfl⟩
    · obtain rfl := Option.some.inj h
      cases ha; cases hb
      refine ⟨by rw [equal_eq, Op.equalIn]; simp [run_underlying hd], fun o => by cases o <;> rfl, rfl, rfl⟩
    · obtain rfl := Option.some.inj h
      cases ha; cases hb
      refine ⟨by rw [equal_eq, Op.equalIn]; simp [run_underlying hd], fun o => by cases o <;> rfl, rfl, rfl⟩
    · obtain rfl := Option.some.inj h
      cases ha; cases hb
      refine ⟨by rw [equal_eq, Op.equalIn]; simp [run_underlying hd], fun o => by cases o <;> rfl, rfl, rfl⟩
    · cases h
  obtain ⟨h1, h2, h3, h4⟩ := key
  rcases ho with rfl | rfl
  · simp [h2, h3, h1]
  · simp [h2, h4, h1]
theorem aread_sound (hR : R P w0 ρ s w) {o : Oper} (hE : EvOk ρ fr e o.op.operands) {v : AV} (h : aread P fr s o.op = some v) : ∃ a, (execOp e o).run P w = .ok (.value a) w ∧ V ρ v a := by
  obtain ⟨dst, op, type, pos, after, guard⟩ := o
  dsimp only at h hE
  unfold aread at h
  split at h
  · exact ⟨_, rfl, hE _ (by simp [Op.operands]) v h⟩
  · exact ⟨_, rfl, hE _ (by simp [Op.operands]) v h⟩
  · rename_i c a b
    obtain ⟨cv, hc, h⟩ := Option.bind_eq_some_iff.1 h
    have kc := hE c (by simp [Op.operands]) cv hc
    split at h
    · have hc : e c = .bool true := kc.g'
      exact ⟨e a, by simp [execOp, hc, asBool], hE _ (by simp [Op.operands]) v h⟩
    · have hc : e c = .bool false := kc.g'
      exact ⟨e b, by simp [execOp, hc, asBool], hE _ (by simp [Op.operands]) v h⟩
    · cases h
  · rename_i t x
    obtain ⟨p, hp, h⟩ := Option.bind_eq_some_iff.1 h
    obtain ⟨b, h1, h2⟩ := aload_sound hR (hE x (by simp [Op.operands]) p hp) h
    exact ⟨b, by simp [execOp, h1], h2⟩
  · rename_i x
    obtain ⟨p, hp, h⟩ := Option.bind_eq_some_iff.1 h
    have kx := hE x (by simp [Op.operands]) p hp
    split at h
    · obtain rfl := Option.some.inj h
      obtain ⟨b1, x1, h1, hx⟩ := kx.ptr'
      exact ⟨_, by simp [execOp, hx], .ptr h1⟩
    · obtain rfl := Option.some.inj h
      obtain ⟨y, z, h1, h2, hx⟩ := kx.fn'
      exact ⟨_, by simp [execOp, hx], .fn h1 h2⟩
    · cases h
  · rename_i t x f
    obtain ⟨p, hp, h⟩ := Option.bind_eq_some_iff.1 h
    have kx := hE x (by simp [Op.operands]) p hp
    split at h
    · obtain ⟨d, hd, h⟩ := Option.bind_eq_some_iff.1 h
      split at h
      · obtain ⟨fd, hf, h⟩ := Option.bind_eq_some_iff.1 h
        obtain ⟨n, hn, h⟩ := Option.bind_eq_some_iff.1 h
        split at h
        · cases h
        · obtain rfl := Option.some.inj h
          obtain ⟨b1, x1, h1, hx⟩ := kx.ptr'
          exact ⟨_, by simp [execOp, hx, struct_run hd hf hn], .ptr h1⟩
      · cases h
    · cases h
  · rename_i t x f
    obtain ⟨p, hp, h⟩ := Option.bind_eq_some_iff.1 h
    have kx := hE x (by simp [Op.operands]) p hp
    split at h
    · obtain ⟨d, hd, h⟩ := Option.bind_eq_some_iff.1 h
      split at h
      · obtain ⟨fd, hf, h⟩ := Option.bind_eq_some_iff.1 h
        obtain ⟨l, hl, hx⟩ := kx.agg'
        obtain ⟨a, h1, h2⟩ := apart_part (w := w) hl h
        exact ⟨a, by simp [execOp, hx, Instr.field, run_underlying hd, hf, asAgg, h1], h2⟩
      · cases h
    · cases h
  · rename_i t x ix
    obtain ⟨p, hp, h⟩ := Option.bind_eq_some_iff.1 h
    obtain ⟨q, hq, h⟩ := Option.bind_eq_some_iff.1 h
    obtain ⟨k, hk, h⟩ := Option.bind_eq_some_iff.1 h
    have kx := hE x (by simp [Op.operands]) p hp
    obtain ⟨kd, hi⟩ := natOf_val (hE ix (by simp [Op.operands]) q hq) hk
    split at h
    · obtain ⟨d, hd, h⟩ := Option.bind_eq_some_iff.1 h
      split at h
      · split at h
        · rename_i hlt
          obtain ⟨n, hn, h⟩ := Option.bind_eq_some_iff.1 h
          obtain rfl := Option.some.inj h
          obtain ⟨b1, x1, h1, hx⟩ := kx.sl'
          exact ⟨_, by simp only [execOp, hx, hi]; rw [Sem.run_bind, index_run hd (Nat.le_of_ble_eq_true hlt) hn]; rfl, .ptr h1⟩
        · cases h
      · cases h
    · obtain ⟨d, hd, h⟩ := Option.bind_eq_some_iff.1 h
      split at h
      · split at h
        · rename_i hlt
          obtain ⟨n, hn, h⟩ := Option.bind_eq_some_iff.1 h
          obtain rfl := Option.some.inj h
          obtain ⟨b1, x1, h1, hx⟩ := kx.ptr'
          exact ⟨_, by simp only [execOp, hx, hi]; rw [Sem.run_bind, index_run' hd (Nat.le_of_ble_eq_true hlt) hn]; rfl, .ptr h1⟩
        · cases h
      · cases h
    · cases h
  · rename_i x k
    obtain ⟨p, hp, h⟩ := Option.bind_eq_some_iff.1 h
    have kx := hE x (by simp [Op.operands]) p hp
    split at h
    · obtain ⟨l, hl, hx⟩ := kx.tup'
      obtain ⟨a, h1, h2⟩ := hl.get h
      exact ⟨a, by simp [execOp, hx, Instr.extract, h1], h2⟩
    · cases h
  · rename_i t ps
    obtain ⟨l, hl, h⟩ := Option.bind_eq_some_iff.1 h
    obtain ⟨z, hz, h⟩ := Option.bind_eq_some_iff.1 h
    obtain ⟨d, hd, h⟩ := Option.bind_eq_some_iff.1 h
    obtain ⟨r, hr, h⟩ := Option.bind_eq_some_iff.1 h
    obtain rfl := Option.some.inj h
    have kp := evsP_sound (ρ := ρ) (e := e) (fun p hp => hE p.2 (by simp [Op.operands]; exact ⟨p.1, by simpa using hp⟩)) hl
    obtain ⟨l', h1, h2⟩ := build_sound (w := w) (qs := ps.map fun (i, x) => (i, e x)) (by simpa using kp) hz hd hr
    exact ⟨_, by simp only [execOp]; rw [Sem.run_bind, h1]; rfl, .agg h2⟩
  · rename_i t x
    obtain ⟨p, hp, h⟩ := Option.bind_eq_some_iff.1 h
    obtain ⟨d, hd, h⟩ := Option.bind_eq_some_iff.1 h
    have kx := hE x (by simp [Op.operands]) p hp
    split at h
    · cases h
    · rename_i hni
      obtain rfl := Option.some.inj h
      refine ⟨.iface t (e x), ?_, .ifc kx⟩
      cases d <;> first | exact absurd rfl (hni _) | simp [execOp, Instr.makeInterface, run_underlying hd]
  · rename_i f a b
    obtain ⟨x, hx, h⟩ := Option.bind_eq_some_iff.1 h
    obtain ⟨y, hy, h⟩ := Option.bind_eq_some_iff.1 h
    obtain rfl := Option.some.inj h
    have k1 := evs_sound (ρ := ρ) (e := e) (fun z hz => hE z (by simp [Op.operands]; left; simpa using hz)) hx
    have k2 := evs_sound (ρ := ρ) (e := e) (fun z hz => hE z (by simp [Op.operands]; right; simpa using hz)) hy
    exact ⟨_, rfl, by have := V.fn (f := f) k1 k2; simpa [← Array.toList_map] using this⟩
  · rename_i t x lo hi
    obtain ⟨p, hp, h⟩ := Option.bind_eq_some_iff.1 h
    have kx := hE x (by simp [Op.operands]) p hp
    split at h
    · rename_i i off len cap
      obtain ⟨d, hd, h⟩ := Option.bind_eq_some_iff.1 h
      split at h
      · obtain ⟨n, hn, h⟩ := Option.bind_eq_some_iff.1 h
        obtain ⟨hh, hhi, h⟩ := Option.bind_eq_some_iff.1 h
        obtain ⟨l, hlo, h⟩ := Option.bind_eq_some_iff.1 h
        split at h
        · rename_i h1 h2
          obtain ⟨b1, x1, hi1, hx⟩ := kx.sl'
          have kh : (hi.map e = none ∧ hh = len) ∨ (∃ k, hi.map e = some (.int k (Int.ofNat hh)) ∧ hh ≤ cap + x1) := by
            cases hi with
            | none => exact .inl ⟨rfl, (Option.some.inj hhi).symm⟩
            | some y =>
              obtain ⟨q, hq, hhi⟩ := Option.bind_eq_some_iff.1 hhi
              obtain ⟨k, hk⟩ := natOf_val (hE y (by simp [Op.operands]) q hq) hhi
              have h2 := Nat.le_of_ble_eq_true h2
              exact .inr ⟨k, by rw [Option.map_some, hk], by omega⟩
          have kl : (lo.map e = none ∧ l = 0) ∨ (∃ k, lo.map e = some (.int k (Int.ofNat l)) ∧ l ≤ hh) := by
            cases lo with
            | none => exact .inl ⟨rfl, (Option.some.inj hlo).symm⟩
            | some y =>
              obtain ⟨q, hq, hlo⟩ := Option.bind_eq_some_iff.1 hlo
              obtain ⟨k, hk⟩ := natOf_val (hE y (by simp [Op.operands]) q hq) hlo
              exact .inr ⟨k, by rw [Option.map_some, hk], Nat.le_of_ble_eq_true h1⟩
          have hr : (execOp e ⟨dst, .slice t x lo hi none, type, pos, after, guard⟩).run P w = .ok (.value (.slice (if cap + x1 = l then some ⟨b1, off, none⟩ else some ⟨b1, off + l * n, none⟩) (hh - l) (cap + x1 - l))) w := by
            simp only [execOp, hx]
            simp [Instr.sliceAt, Instr.slice, run_underlying hd, bounds_run kh kl, szB_run hn, Addr.add_mid]
          split at h
          · obtain rfl := Option.some.inj h
            refine ⟨_, hr, ?_⟩
            have e1 : (if cap + x1 = 0 then some (⟨b1, off, none⟩ : Addr) else some ⟨b1, off + 0 * n, none⟩) = some ⟨b1, off, none⟩ := by simp
            rw [e1]
            exact .sl hi1
          · rename_i k
            split at h
            · rename_i hk
              have hk := Nat.le_of_ble_eq_true hk
              obtain rfl := Option.some.inj h
              refine ⟨_, hr, ?_⟩
              rw [if_neg (by omega), show cap + x1 - (k + 1) = (cap - (k + 1)) + x1 from by omega]
              exact .sl hi1
            · cases h
        · cases h
      · cases h
    · cases h
  · rename_i xs ts
    split at h
    · rename_i x hxs
      have hxs : xs = #[x] := by apply Array.ext'; rw [hxs]
      subst hxs
      obtain ⟨p, hp, h⟩ := Option.bind_eq_some_iff.1 h
      have kx := hE x (by simp [Op.operands, Call.operands]) p hp
      split at h
      · obtain ⟨t, ht, h⟩ := Option.bind_eq_some_iff.1 h
        obtain ⟨d, hd, h⟩ := Option.bind_eq_some_iff.1 h
        split at h
        · obtain rfl := Option.some.inj h
          obtain ⟨b1, x1, h1, hx⟩ := kx.sl'
          exact ⟨_, by rw [call_builtin]; simp [builtin, Builtin.len_, ht, hx, run_underlying hd]; rfl, .g _⟩
        · cases h
      · cases h
    · cases h
  · rename_i xs ts
    split at h
    · rename_i x hxs
      have hxs : xs = #[x] := by apply Array.ext'; rw [hxs]
      subst hxs
      obtain ⟨p, hp, h⟩ := Option.bind_eq_some_iff.1 h
      have kx := hE x (by simp [Op.operands, Call.operands]) p hp
      split at h
      · split at h
        · rename_i hg
          obtain ⟨t, ht, h⟩ := Option.bind_eq_some_iff.1 h
          obtain ⟨d, hd, h⟩ := Option.bind_eq_some_iff.1 h
          split at h
          · obtain rfl := Option.some.inj h
            obtain ⟨b1, x1, h1, hx⟩ := kx.sl'
            obtain ⟨b2, x2, obj, h2, -, -, l, rest, fz, -, -, h3, -⟩ := hR.ob _ _ hg
            rw [h1] at h2
            obtain ⟨rfl, rfl⟩ := Prod.mk.inj (Option.some.inj h2)
            obtain ⟨-, rfl⟩ := h3 rfl
            exact ⟨_, by rw [call_builtin]; simp [builtin, Builtin.cap_, ht, hx, run_underlying hd]; rfl, .g _⟩
          · cases h
        · cases h
      · cases h
    · cases h
  · rename_i t x y u
    obtain ⟨a, ha, h⟩ := Option.bind_eq_some_iff.1 h
    obtain ⟨b, hb, h⟩ := Option.bind_eq_some_iff.1 h
    obtain ⟨d, hd, h⟩ := Option.bind_eq_some_iff.1 h
    obtain ⟨r, hr, h⟩ := Option.bind_eq_some_iff.1 h
    obtain rfl := Option.some.inj h
    have k := eqB_run (w := w) hd (hE x (by simp [Op.operands]) a ha) (hE y (by simp [Op.operands]) b hb) hr .eql x y (.inl rfl)
    exact ⟨.bool r, by simp only [execOp]; rw [Sem.run_bind, k]; rfl, .g _⟩
  · rename_i t x y u
    obtain ⟨a, ha, h⟩ := Option.bind_eq_some_iff.1 h
    obtain ⟨b, hb, h⟩ := Option.bind_eq_some_iff.1 h
    obtain ⟨d, hd, h⟩ := Option.bind_eq_some_iff.1 h
    obtain ⟨r, hr, h⟩ := Option.bind_eq_some_iff.1 h
    obtain rfl := Option.some.inj h
    have k := eqB_run (w := w) hd (hE x (by simp [Op.operands]) a ha) (hE y (by simp [Op.operands]) b hb) hr .neq x y (.inr rfl)
    exact ⟨.bool (!r), by simp only [execOp]; rw [Sem.run_bind, k]; rfl, .g _⟩
  · cases h
theorem aval_sound (hR : R P w0 ρ s w) {o : Oper} (hE : EvOk ρ fr e o.op.operands) {v : AV} (h : aval P fr s o = some v) : ∃ a, (execOp e o).run P w = .ok (.value a) w ∧ V ρ v a := by
  unfold aval at h
  split at h
  · rename_i hm hp
    split at h
    · rename_i u hu
      obtain rfl := Option.some.inj h
      refine ⟨u, plain_sound hE (fun cs b hs => ?_) hp hu, .g u⟩
      rw [hs] at hm
      cases hm
    · cases h
  · exact aread_sound hR hE h
end
end Go.Proofs.YtkblmloobkiloaaGreatDoor.Ev
