
/-
  Where the laws of layer 7 stand: two Talks in blocks of the law's own, and bytes that came out behind them. No function of the program is walked here.
-/
import Derived.Test.YtlenlldiimohjaaGreatDoorAKeepL
import Derived.Test.YtlenlldiimohjaaGreatDoorATab
namespace Go.Proofs.YtlenlldiimohjaaGreatDoor
open Go.RowKit SumLaw

/-- Bytes that came out behind block q. -/
def BL (w : World) (q : Nat) (ls : List (Value × List UInt8)) : Prop := ∀ p ∈ ls, Bys w w.heap.size p.1 p.2 ∧ ∀ k, p.1.ownBlock = some k → q < k
theorem BL.nil_ (w : World) (q : Nat) : BL w q [] := fun _ h => by cases h
/-- Two Talks, at q and r; w1 is the world behind the table. -/
def FS (w1 : World) (q r : Nat) (t : Tk) (ht : Value) (v : Tk) (hv : Value) (ls : List (Value × List UInt8)) (w : World) : Prop :=
  Below w1.heap.size w1 w ∧ (w1.heap.size ≤ q ∧ q < r) ∧ TBlk w q t ht ∧ TBlk w r v hv ∧ BL w r ls
section
variable {w1 w w' : World} {q r g : Nat} {t u v : Tk} {ht hu hv : Value} {ls : List (Value × List UInt8)} {L : List Acct}
theorem FS.low (h : FS w1 q r t ht v hv ls w) : Below w1.heap.size w1 w := h.1
theorem FS.le (h : FS w1 q r t ht v hv ls w) : w1.heap.size ≤ w.heap.size := h.1.size
theorem FS.tab (h : FS w1 q r t ht v hv ls w) (hp : PTab w1 g L) : PTab w g L := hp.below h.1
theorem FS.tz (h : FS w1 q r t ht v hv ls w) (hp : TZ w1) : TZ w := hp.below h.1 (Nat.le_refl _)
theorem FS.sv (h : FS w1 q r t ht v hv ls w) (hp : SV w1) : SV w := hp.below h.1 (Nat.le_refl _)
theorem FS.tb (h : FS w1 q r t ht v hv ls w) : TBlk w q t ht := h.2.2.1
theorem FS.vb (h : FS w1 q r t ht v hv ls w) : TBlk w r v hv := h.2.2.2.1
theorem FS.bys (h : FS w1 q r t ht v hv ls w) {p : Value × List UInt8} (hp : p ∈ ls) : Bys w w.heap.size p.1 p.2 := (h.2.2.2.2 p hp).1
theorem FS.call (h : FS w1 q r t ht v hv ls w) (hb : Below w.heap.size w w') : FS w1 q r t ht v hv ls w' :=
  ⟨h.1.trans (hb.mono h.1.size), h.2.1, h.2.2.1.below hb, h.2.2.2.1.below hb, fun p hp => ⟨((h.2.2.2.2 p hp).1.below hb).more hb.size, (h.2.2.2.2 p hp).2⟩⟩
theorem FS.add (h : FS w1 q r t ht v hv ls w) {b : Value} {l : List UInt8} (hb : Bys w w.heap.size b l) (hn : ∀ k, b.ownBlock = some k → r < k) : FS w1 q r t ht v hv ((b, l) :: ls) w :=
  ⟨h.1, h.2.1, h.2.2.1, h.2.2.2.1, fun p hp => by
    rcases List.mem_cons.1 hp with rfl | hp
    · exact ⟨hb, hn⟩
    · exact h.2.2.2.2 p hp⟩
theorem FS.new_ (h : FS w1 q r t ht v hv ls w) {b : Value} (hn : ∀ k, b.ownBlock = some k → w.heap.size ≤ k) : ∀ k, b.ownBlock = some k → r < k := fun k hk => Nat.lt_of_lt_of_le (Blk.lt h.2.2.2.1) (hn k hk)
theorem FS.stq (h : FS w1 q r t ht v hv ls w) (hx : TBlk w' q u hu) (ho : ∀ i, i ≠ q → w'.heap[i]? = w.heap[i]?) (hbl : ∀ B (x : World), Below B x w → B ≤ q → Below B x w') : FS w1 q r u hu v hv ls w' := by
  have hb : Below w1.heap.size w1 w' := hbl _ _ h.1 h.2.1.1
  have hsz : w.heap.size ≤ w'.heap.size := by
    rcases Nat.lt_or_ge w'.heap.size w.heap.size with hlt | hge
    · exfalso
      have hl := Blk.lt hx
      have hne : w'.heap.size ≠ q := by omega
      have h3 := ho w'.heap.size hne
      rw [Array.getElem?_eq_none (Nat.le_refl _), Array.getElem?_eq_getElem hlt] at h3
      cases h3
    · exact hge
  exact ⟨hb, h.2.1, hx, (ho r (by have := h.2.1.2; omega)).trans h.2.2.2.1, fun p hp => ⟨((h.2.2.2.2 p hp).1.far (fun hc => by have := (h.2.2.2.2 p hp).2 q hc; have := h.2.1.2; omega) ho).more hsz, (h.2.2.2.2 p hp).2⟩⟩
theorem FS.str (h : FS w1 q r t ht v hv ls w) (hx : TBlk w' r u hu) (ho : ∀ i, i ≠ r → w'.heap[i]? = w.heap[i]?) (hbl : ∀ B (x : World), Below B x w → B ≤ r → Below B x w') : FS w1 q r t ht u hu ls w' := by
  have hb : Below w1.heap.size w1 w' := hbl _ _ h.1 (by have := h.2.1; omega)
  have hsz : w.heap.size ≤ w'.heap.size := by
    rcases Nat.lt_or_ge w'.heap.size w.heap.size with hlt | hge
    · exfalso
      have hl := Blk.lt hx
      have hne : w'.heap.size ≠ r := by omega
      have h3 := ho w'.heap.size hne
      rw [Array.getElem?_eq_none (Nat.le_refl _), Array.getElem?_eq_getElem hlt] at h3
      cases h3
    · exact hge
  exact ⟨hb, h.2.1, (ho q (by have := h.2.1.2; omega)).trans h.2.2.1, hx, fun p hp => ⟨((h.2.2.2.2 p hp).1.far (fun hc => by have := (h.2.2.2.2 p hp).2 r hc; omega) ho).more hsz, (h.2.2.2.2 p hp).2⟩⟩
end
theorem line33 (k u t : ByteArray) (a : Int) (n : Nat) : (lineS k u t a n).data.toList.length = 33 := by
  rw [lineS_list, List.length_append, List.length_append, hexN_len, hexN_len]
  rfl
/-- What the client says to a Talk that has told its hello. -/
theorem writes_line (k tree : ByteArray) (cuts : List Int) (mine a theirs : Nat) (hm : mine < 18446744073709551616) (ha : a < 18446744073709551616) (ht : theirs < 18446744073709551616) :
    writesF (tabL k) cuts (lineS k ⟨#[117]⟩ tree (a : Int) theirs).data.toList.length 0 ⟨⟨#[117]⟩, tree, (mine : Int), 0, 2, 0⟩ [] (lineS k ⟨#[117]⟩ tree (a : Int) theirs).data.toList = ⟨if mine = a then ⟨⟨#[117]⟩, tree, (mine : Int), (theirs : Int), 3, 0⟩ else ⟨⟨#[117]⟩, tree, (mine : Int), 0, 5, 0⟩, [], true⟩ := by
  have hl := line33 k ⟨#[117]⟩ tree (a : Int) theirs
  rw [write_line (tabL k) cuts ⟨⟨#[117]⟩, tree, (mine : Int), 0, 2, 0⟩ rfl _ 0 [] _ (by rw [hl]; rfl) (fun h => by rw [h] at hl; cases hl) (Nat.le_refl _), List.nil_append]
  have h := heard_line (L := tabL k) (t := ⟨⟨#[117]⟩, tree, (mine : Int), 0, 2, 0⟩) (key := k) (a := (a : Int)) (theirs := theirs) 0 (key_tab k) ht ⟨by omega, by omega⟩ ⟨by show (0 : Int) ≤ (mine : Int); omega, by show (mine : Int) < _; omega⟩
  rw [h]
  by_cases hc : mine = a
  · subst hc
    rw [if_pos rfl, if_pos rfl]
  · rw [if_neg hc, if_neg (show ¬ ((mine : Int) = (a : Int)) by omega)]
theorem helloS_inj {a b : Nat} (ha : a < 18446744073709551616) (hb : b < 18446744073709551616) (h : helloS a = helloS b) : a = b := by
  have h1 := congrArg (fun s : ByteArray => s.data.toList) h
  simp only [helloS_list, List.append_assoc] at h1
  have h2 := List.append_cancel_left h1
  exact hexN_inj 16 (by omega) (by omega) (List.append_cancel_right h2)
theorem begin_u (k tree : ByteArray) (ours : Int) (hk : keyOk k) : beginS (tabL k) ⟨#[117]⟩ tree ours = (⟨⟨#[117]⟩, tree, ours, 0, 1, 0⟩, 0) := by
  unfold beginS
  rw [if_neg (by rw [known_u]; decide), key_tab, if_neg hk.2]
theorem keys_small {k : ByteArray} (hk : keyOk k) (u : ByteArray) : (keyOfUser (tabL k) u).size ≤ 32 := by
  have h1 := (key_no hk.1).1
  unfold keyOfUser tabL
  split
  · exact Nat.zero_le _
  · rename_i a ha
    have hm := List.mem_of_find?_eq_some ha
    rcases List.mem_cons.1 hm with rfl | hm
    · exact Nat.zero_le _
    · rw [List.mem_singleton] at hm
      subst hm
      exact h1
/-- The world behind two Begins. -/
theorem FS.start {w1 w2 w3 w4 w5 : World} {t v : Tk} {ht hv : Value} {O O' : Obj} (hb2 : Below w1.heap.size w1 w2) (hs : TBlk w3 w2.heap.size t ht) (hbl : ∀ B (x : World), Below B x (w2.alloc O) → B ≤ w2.heap.size → Below B x w3) (hb4 : Below w3.heap.size w3 w4)
    (hs5 : TBlk w5 w4.heap.size v hv) (ho5 : ∀ i, i ≠ w4.heap.size → w5.heap[i]? = (w4.alloc O').heap[i]?) (hbl5 : ∀ B (x : World), Below B x (w4.alloc O') → B ≤ w4.heap.size → Below B x w5) : FS w1 w2.heap.size w4.heap.size t ht v hv [] w5 := by
  have h3 : Below w1.heap.size w1 w3 := hbl _ _ (hb2.alloc hb2.size _) hb2.size
  have h4 : Below w1.heap.size w1 w4 := h3.trans (hb4.mono h3.size)
  have hlt : w2.heap.size < w4.heap.size := Nat.lt_of_lt_of_le (Blk.lt hs) hb4.size
  exact ⟨hbl5 _ _ (h4.alloc h4.size _) h4.size, ⟨hb2.size, hlt⟩, (ho5 _ (by omega)).trans (Blk.alloc (hs.below hb4) _), hs5, BL.nil_ _ _⟩
theorem FS.al {w1 w : World} {q r : Nat} {t v : Tk} {ht hv : Value} {ls : List (Value × List UInt8)} (h : FS w1 q r t ht v hv ls w) (o : Obj) : FS w1 q r t ht v hv ls (w.alloc o) := h.call ((Below.refl _ _).alloc (Nat.le_refl _) o)
theorem FS.hd {w1 w : World} {q r : Nat} {t v : Tk} {ht hv : Value} {b : Value} {l : List UInt8} {ls : List (Value × List UInt8)} (h : FS w1 q r t ht v hv ((b, l) :: ls) w) : Bys w w.heap.size b l := h.bys (.head _)
theorem FS.tl {w1 w : World} {q r : Nat} {t v : Tk} {ht hv : Value} {p : Value × List UInt8} {ls : List (Value × List UInt8)} (h : FS w1 q r t ht v hv (p :: ls) w) : FS w1 q r t ht v hv ls w := ⟨h.1, h.2.1, h.2.2.1, h.2.2.2.1, fun x hx => h.2.2.2.2 x (.tail _ hx)⟩
theorem cuts_one (w : World) (t : TypeId) (c : Int) (hc : -9223372036854775808 ≤ c ∧ c ≤ 9223372036854775807) : Cuts (w.alloc (Obj.cells #[.int .i64 c] t)) (w.alloc (Obj.cells #[.int .i64 c] t)).heap.size (.slice (some ⟨w.heap.size, 0, none⟩) 1 1) [c] := by
  refine ⟨⟨_, 1, rfl, Nat.le_refl _, ?_⟩, by show 1 ≤ 9223372036854775807; decide, fun x hx => by
    rw [List.mem_singleton] at hx
    subst hx
    exact hc⟩
  rw [World.size_alloc]
  exact reads_new w t (.int .i64 c)
section
variable {k : ByteArray} {g : Nat} {w : World}
/-- Begin, of the law's user. -/
theorem beginU_calls (tree : ByteArray) (ours : Int) (hp : PTab w g (tabL k)) (hk : keyOk k) :
    Calls Tryz.prog 14 #[.pointer (some ⟨g, 0, none⟩), .string ⟨#[117]⟩, .string tree, .int .u64 ours] w fun e w' => e = .returned (.tuple #[talkV ⟨⟨#[117]⟩, tree, ours, 0, 1, 0⟩ (.slice none 0 0), .int .i64 0]) ∧ Below w.heap.size w w' := by
  have h := begin_calls g (tabL k) ⟨#[117]⟩ tree ours w hp (by decide)
  rw [begin_u k tree ours hk] at h
  exact h
/-- The hello is read. -/
theorem hello_reads (tree : ByteArray) (ours : Nat) (hv cv : Value) (cuts : List Int) (hp : PTab w g (tabL k)) (hk : keyOk k) (htz : TZ w) (h : Bys w w.heap.size hv []) (hc : Cuts w w.heap.size cv cuts) (ht : tree.size ≤ 268435456) (ho : ours < 18446744073709551616) :
    Calls Tryz.prog 20 #[.pointer (some ⟨g, 0, none⟩), talkV ⟨⟨#[117]⟩, tree, (ours : Int), 0, 1, 0⟩ hv, cv] w fun e w' => (∃ hu av, e = .returned (.tuple #[talkV ⟨⟨#[117]⟩, tree, (ours : Int), 0, 2, 0⟩ hu, av, .bool true]) ∧ Bys w' w'.heap.size hu [] ∧ Bys w' w'.heap.size av (helloS ours).data.toList ∧ ∀ k, av.ownBlock = some k → w.heap.size ≤ k) ∧ Below w.heap.size w w' := by
  have h := reads_calls g (tabL k) ⟨⟨#[117]⟩, tree, (ours : Int), 0, 1, 0⟩ hv cv cuts w hp htz h hc (by show (⟨#[117]⟩ : ByteArray).size ≤ _; decide) ht (keys_small hk) ⟨by show (0 : Int) ≤ (ours : Int); omega, by show (ours : Int) < _; omega⟩
  rw [reads_hello] at h
  exact h
/-- The proof is read. -/
theorem proof_reads (tree : ByteArray) (ours theirs : Nat) (hv cv : Value) (cuts : List Int) (hp : PTab w g (tabL k)) (hk : keyOk k) (htz : TZ w) (h : Bys w w.heap.size hv []) (hc : Cuts w w.heap.size cv cuts) (ht : tree.size ≤ 268435456) (ho : ours < 18446744073709551616) :
    Calls Tryz.prog 20 #[.pointer (some ⟨g, 0, none⟩), talkV ⟨⟨#[117]⟩, tree, (ours : Int), (theirs : Int), 3, 0⟩ hv, cv] w fun e w' => (∃ hu av, e = .returned (.tuple #[talkV ⟨⟨#[117]⟩, tree, (ours : Int), (theirs : Int), 4, 0⟩ hu, av, .bool true]) ∧ Bys w' w'.heap.size hu [] ∧ Bys w' w'.heap.size av (shownS (shN k ⟨#[117]⟩ tree 2 (ours : Int) (theirs : Int))).data.toList ∧ ∀ k, av.ownBlock = some k → w.heap.size ≤ k) ∧ Below w.heap.size w w' := by
  have h := reads_calls g (tabL k) ⟨⟨#[117]⟩, tree, (ours : Int), (theirs : Int), 3, 0⟩ hv cv cuts w hp htz h hc (by show (⟨#[117]⟩ : ByteArray).size ≤ _; decide) ht (keys_small hk) ⟨by show (0 : Int) ≤ (ours : Int); omega, by show (ours : Int) < _; omega⟩
  rw [reads_proof, key_tab] at h
  exact h
/-- The hello is answered. -/
theorem hello_answers (tree : ByteArray) (ours theirs : Nat) (v : Value) (hk : keyOk k) (h : Bys w w.heap.size v (helloS ours).data.toList) (htz : TZ w) (hsv : SV w) (ht : tree.size ≤ 268435456) (ho : ours < 18446744073709551616) (h64 : theirs < 18446744073709551616) :
    Calls Tryz.prog 21 #[.string k, .string ⟨#[117]⟩, .string tree, v, .int .u64 (theirs : Int)] w fun e w' => (∃ r, e = .returned (.tuple #[r, .int .i64 0]) ∧ Bys w' w'.heap.size r (lineS k ⟨#[117]⟩ tree (ours : Int) theirs).data.toList ∧ ∀ k, r.ownBlock = some k → w.heap.size ≤ k) ∧ Below w.heap.size w w' := by
  have h := authAnswer_calls k ⟨#[117]⟩ tree v (helloS ours).data.toList theirs w.heap.size w h (Nat.le_refl _) htz hsv h64 (by have := (key_no hk.1).1; unfold maxLen; omega) (by decide) (by unfold maxLen; omega)
  rw [heard25_hello ours ho] at h
  exact h
/-- The answer is told. -/
theorem line_writes (tree : ByteArray) (mine a theirs : Nat) (hv bv cv : Value) (cuts : List Int) (hp : PTab w g (tabL k)) (hk : keyOk k) (htz : TZ w) (hsv : SV w) (h : Bys w w.heap.size hv []) (hb : Bys w w.heap.size bv (lineS k ⟨#[117]⟩ tree (a : Int) theirs).data.toList) (hc : Cuts w w.heap.size cv cuts) (ht : tree.size ≤ 268435456)
    (hm : mine < 18446744073709551616) (ha : a < 18446744073709551616) (h64 : theirs < 18446744073709551616) (T : Tk) (hT : (if mine = a then ⟨⟨#[117]⟩, tree, (mine : Int), (theirs : Int), 3, 0⟩ else ⟨⟨#[117]⟩, tree, (mine : Int), 0, 5, 0⟩ : Tk) = T) :
    Calls Tryz.prog 22 #[.pointer (some ⟨g, 0, none⟩), talkV ⟨⟨#[117]⟩, tree, (mine : Int), 0, 2, 0⟩ hv, bv, cv] w fun e w' => (∃ hu, e = .returned (.tuple #[talkV T hu, .bool true]) ∧ Bys w' w'.heap.size hu []) ∧ Below w.heap.size w w' := by
  have hl := line33 k ⟨#[117]⟩ tree (a : Int) theirs
  have h := writes_calls g (tabL k) ⟨⟨#[117]⟩, tree, (mine : Int), 0, 2, 0⟩ hv bv cv cuts [] _ w hp htz hsv h (by decide) hb (by rw [hl]; decide) hc (by show (⟨#[117]⟩ : ByteArray).size ≤ _; decide) ht (keys_small hk)
  rw [writes_line k tree cuts mine a theirs hm ha h64, hT] at h
  exact h
theorem own_line_writes (tree : ByteArray) (mine theirs : Nat) (hv bv cv : Value) (cuts : List Int) (hp : PTab w g (tabL k)) (hk : keyOk k) (htz : TZ w) (hsv : SV w) (h : Bys w w.heap.size hv []) (hb : Bys w w.heap.size bv (lineS k ⟨#[117]⟩ tree (mine : Int) theirs).data.toList) (hc : Cuts w w.heap.size cv cuts) (ht : tree.size ≤ 268435456)
    (hm : mine < 18446744073709551616) (h64 : theirs < 18446744073709551616) :
    Calls Tryz.prog 22 #[.pointer (some ⟨g, 0, none⟩), talkV ⟨⟨#[117]⟩, tree, (mine : Int), 0, 2, 0⟩ hv, bv, cv] w fun e w' => (∃ hu, e = .returned (.tuple #[talkV ⟨⟨#[117]⟩, tree, (mine : Int), (theirs : Int), 3, 0⟩ hu, .bool true]) ∧ Bys w' w'.heap.size hu []) ∧ Below w.heap.size w w' :=
  line_writes tree mine mine theirs hv bv cv cuts hp hk htz hsv h hb hc ht hm hm h64 _ (if_pos rfl)
/-- The proof is confirmed. -/
theorem two_confirms (tree : ByteArray) (a b theirs : Nat) (v pv : Value) (hk : keyOk k) (h : Bys w w.heap.size v (helloS a).data.toList) (hp : Bys w w.heap.size pv (shownS (shN k ⟨#[117]⟩ tree 2 (b : Int) (theirs : Int))).data.toList) (htz : TZ w) (hsv : SV w) (ht : tree.size ≤ 268435456)
    (ha : a < 18446744073709551616) (hb : b < 18446744073709551616) (h64 : theirs < 18446744073709551616) (c : Bool) (hc : decide (a = b) = c) :
    Calls Tryz.prog 23 #[.string k, .string ⟨#[117]⟩, .string tree, v, .int .u64 (theirs : Int), pv] w fun e w' => e = .returned (.bool c) ∧ Below w.heap.size w w' := by
  have h := confirms_calls k ⟨#[117]⟩ tree v pv _ _ (theirs : Int) w.heap.size w h hp (Nat.le_refl _) htz hsv (by have := (key_no hk.1).1; unfold maxLen; omega) (by decide) (by unfold maxLen; omega)
  rw [confS_two ha hb ⟨by omega, by omega⟩, hc] at h
  exact h
theorem own_confirms (tree : ByteArray) (a theirs : Nat) (v pv : Value) (hk : keyOk k) (h : Bys w w.heap.size v (helloS a).data.toList) (hp : Bys w w.heap.size pv (shownS (shN k ⟨#[117]⟩ tree 2 (a : Int) (theirs : Int))).data.toList) (htz : TZ w) (hsv : SV w) (ht : tree.size ≤ 268435456)
    (ha : a < 18446744073709551616) (h64 : theirs < 18446744073709551616) :
    Calls Tryz.prog 23 #[.string k, .string ⟨#[117]⟩, .string tree, v, .int .u64 (theirs : Int), pv] w fun e w' => e = .returned (.bool true) ∧ Below w.heap.size w w' :=
  two_confirms tree a a theirs v pv hk h hp htz hsv ht ha ha h64 true (decide_eq_true rfl)
end
theorem Cuts.more {w : World} {B B' : Nat} {v : Value} {l : List Int} (h : Cuts w B v l) (hB : B ≤ B') : Cuts w B' v l := by
  obtain ⟨⟨A, cap, e, h1, h2⟩, h3⟩ := h
  exact ⟨⟨A, cap, e, h1, h2.more hB⟩, h3⟩
/-- One Talk, at q. -/
def FT (w1 : World) (q : Nat) (t : Tk) (ht : Value) (ls : List (Value × List UInt8)) (w : World) : Prop := Below w1.heap.size w1 w ∧ w1.heap.size ≤ q ∧ TBlk w q t ht ∧ BL w q ls
section
variable {w1 w w' : World} {q g : Nat} {t u : Tk} {ht hu : Value} {ls : List (Value × List UInt8)} {L : List Acct}
theorem FT.low (h : FT w1 q t ht ls w) : Below w1.heap.size w1 w := h.1
theorem FT.tab (h : FT w1 q t ht ls w) (hp : PTab w1 g L) : PTab w g L := hp.below h.1
theorem FT.tz (h : FT w1 q t ht ls w) (hp : TZ w1) : TZ w := hp.below h.1 (Nat.le_refl _)
theorem FT.sv (h : FT w1 q t ht ls w) (hp : SV w1) : SV w := hp.below h.1 (Nat.le_refl _)
theorem FT.cuts (h : FT w1 q t ht ls w) {v : Value} {l : List Int} (hp : Cuts w1 w1.heap.size v l) : Cuts w w.heap.size v l := (hp.below h.1).more h.1.size
theorem FT.tb (h : FT w1 q t ht ls w) : TBlk w q t ht := h.2.2.1
theorem FT.bys (h : FT w1 q t ht ls w) {p : Value × List UInt8} (hp : p ∈ ls) : Bys w w.heap.size p.1 p.2 := (h.2.2.2 p hp).1
theorem FT.call (h : FT w1 q t ht ls w) (hb : Below w.heap.size w w') : FT w1 q t ht ls w' :=
  ⟨h.1.trans (hb.mono h.1.size), h.2.1, h.2.2.1.below hb, fun p hp => ⟨((h.2.2.2 p hp).1.below hb).more hb.size, (h.2.2.2 p hp).2⟩⟩
theorem FT.al (h : FT w1 q t ht ls w) (o : Obj) : FT w1 q t ht ls (w.alloc o) := h.call ((Below.refl _ _).alloc (Nat.le_refl _) o)
theorem FT.add (h : FT w1 q t ht ls w) {b : Value} {l : List UInt8} (hb : Bys w w.heap.size b l) (hn : ∀ k, b.ownBlock = some k → q < k) : FT w1 q t ht ((b, l) :: ls) w :=
  ⟨h.1, h.2.1, h.2.2.1, fun p hp => by
    rcases List.mem_cons.1 hp with rfl | hp
    · exact ⟨hb, hn⟩
    · exact h.2.2.2 p hp⟩
theorem FT.new_ (h : FT w1 q t ht ls w) {b : Value} (hn : ∀ k, b.ownBlock = some k → w.heap.size ≤ k) : ∀ k, b.ownBlock = some k → q < k := fun k hk => Nat.lt_of_lt_of_le (Blk.lt h.2.2.1) (hn k hk)
theorem size_kept {w w' : World} {q : Nat} (hq : q < w'.heap.size) (ho : ∀ i, i ≠ q → w'.heap[i]? = w.heap[i]?) : w.heap.size ≤ w'.heap.size := by
  rcases Nat.lt_or_ge w'.heap.size w.heap.size with hlt | hge
  · exfalso
    have h3 := ho w'.heap.size (by omega)
    rw [Array.getElem?_eq_none (Nat.le_refl _), Array.getElem?_eq_getElem hlt] at h3
    cases h3
  · exact hge
theorem FT.st (h : FT w1 q t ht ls w) (hx : TBlk w' q u hu) (ho : ∀ i, i ≠ q → w'.heap[i]? = w.heap[i]?) (hbl : ∀ B (x : World), Below B x w → B ≤ q → Below B x w') : FT w1 q u hu ls w' :=
  ⟨hbl _ _ h.1 h.2.1, h.2.1, hx, fun p hp => ⟨((h.2.2.2 p hp).1.far (fun hc => by have := (h.2.2.2 p hp).2 q hc; omega) ho).more (size_kept (Blk.lt hx) ho), (h.2.2.2 p hp).2⟩⟩
theorem FT.start {w1 w2 w3 : World} {t : Tk} {ht : Value} {O : Obj} (hb2 : Below w1.heap.size w1 w2) (hs : TBlk w3 w2.heap.size t ht) (hbl : ∀ B (x : World), Below B x (w2.alloc O) → B ≤ w2.heap.size → Below B x w3) : FT w1 w2.heap.size t ht [] w3 :=
  ⟨hbl _ _ (hb2.alloc hb2.size _) hb2.size, hb2.size, hs, BL.nil_ _ _⟩
theorem FT.hd {b : Value} {l : List UInt8} (h : FT w1 q t ht ((b, l) :: ls) w) : Bys w w.heap.size b l := h.bys (.head _)
theorem FT.tl {p : Value × List UInt8} (h : FT w1 q t ht (p :: ls) w) : FT w1 q t ht ls w := ⟨h.1, h.2.1, h.2.2.1, fun x hx => h.2.2.2 x (.tail _ hx)⟩
end
theorem u64_nat {n : Int} (h : (Lit.int .u64 n).wf = true) : ∃ k : Nat, n = (k : Int) ∧ k < 18446744073709551616 := by
  have h2 := u64_wf h
  exact ⟨n.toNat, by omega, by omega⟩
end Go.Proofs.YtlenlldiimohjaaGreatDoor
