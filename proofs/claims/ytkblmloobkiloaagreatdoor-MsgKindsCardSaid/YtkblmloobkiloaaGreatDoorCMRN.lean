/-
  vergerref03: layout, Answer, Name, Kind; msg.Answer.
-/
import Derived.Test.YtkblmloobkiloaaGreatDoorQ25
namespace Go.Proofs.YtkblmloobkiloaaGreatDoor
open Go.RowKit

/-- A field's letter. -/
def Fld.let_ : Fld → UInt8
  | .msize => 109
  | .version => 118
  | .afid => 97
  | .uname => 117
  | .aname => 110
  | .ename => 101
  | .oldtag => 111
  | .fid => 102
  | .newfid => 119
  | .names => 78
  | .qids => 81
  | .qid => 113
  | .mode => 100
  | .iounit => 105
  | .name => 99
  | .perm => 112
  | .offset => 79
  | .count => 67
  | .data => 68
  | .stat => 83
def layS (k : Nat) : ByteArray := ofL (((kindF k).getD []).map Fld.let_)
def ansS (k : Nat) : Nat × Bool := if (kindF k).isSome && k % 2 == 0 then (k + 1, true) else (0, false)
theorem kind_cases (k : Nat) : k = 100 ∨ k = 101 ∨ k = 102 ∨ k = 103 ∨ k = 104 ∨ k = 105 ∨ k = 107 ∨ k = 108 ∨ k = 109 ∨ k = 110 ∨ k = 111 ∨ k = 112 ∨ k = 113 ∨ k = 114 ∨ k = 115 ∨ k = 116 ∨ k = 117 ∨ k = 118 ∨ k = 119 ∨ k = 120 ∨ k = 121 ∨ k = 122 ∨ k = 123 ∨ k = 124 ∨ k = 125 ∨ k = 126 ∨ k = 127 ∨ kindF k = none := by
  unfold kindF
  split <;> simp_all
theorem kind_no {k : Nat} (h : kindF k = none) : k ≠ 100 ∧ k ≠ 101 ∧ k ≠ 102 ∧ k ≠ 103 ∧ k ≠ 104 ∧ k ≠ 105 ∧ k ≠ 107 ∧ k ≠ 108 ∧ k ≠ 109 ∧ k ≠ 110 ∧ k ≠ 111 ∧ k ≠ 112 ∧ k ≠ 113 ∧ k ≠ 114 ∧ k ≠ 115 ∧ k ≠ 116 ∧ k ≠ 117 ∧ k ≠ 118 ∧ k ≠ 119 ∧ k ≠ 120 ∧ k ≠ 121 ∧ k ≠ 122 ∧ k ≠ 123 ∧ k ≠ 124 ∧ k ≠ 125 ∧ k ≠ 126 ∧ k ≠ 127 := by
  refine ⟨?_, ?_, ?_, ?_, ?_, ?_, ?_, ?_, ?_, ?_, ?_, ?_, ?_, ?_, ?_, ?_, ?_, ?_, ?_, ?_, ?_, ?_, ?_, ?_, ?_, ?_, ?_⟩ <;> (rintro rfl; cases h)
theorem kindN_no {k : Nat} (h : kindF k = none) : kindN k = [] := by
  have := kind_no h
  unfold kindN
  split <;> first | rfl | omega
theorem kindOf_hit {k : Nat} {s : List UInt8} (h : kindN k = s) (hs : s ≠ []) : kindOf s = some k := by
  cases hk : kindF k with
  | none => exact absurd (h.symm.trans (kindN_no hk)) hs
  | some fs => rw [← h]; exact (kindN_of hk).1
theorem kindOf_miss {s : List UInt8} (h : ∀ j, j < 28 → kindN (100 + j) = s → s = []) : kindOf s = none := by
  cases hk : kindOf s with
  | none => rfl
  | some k =>
    obtain ⟨h1, h2, fs, hf⟩ := kindOf_some hk
    obtain ⟨-, -, h3, h4⟩ := kindF_well hf
    refine absurd (h (k - 100) (by omega) ?_) h2
    rw [show 100 + (k - 100) = k by omega]
    exact h1
set_option maxRecDepth 100000 in
set_option maxHeartbeats 6400000 in
theorem layout_calls (k : Nat) (hk : k < 256) (w : World) : Calls Tryz.prog 48 #[.int .u8 (k : Int)] w fun e w' => e = .returned (.tuple #[.string (layS k), .bool (kindF k).isSome]) ∧ w = w' := by
  rcases kind_cases k with rfl | rfl | rfl | rfl | rfl | rfl | rfl | rfl | rfl | rfl | rfl | rfl | rfl | rfl | rfl | rfl | rfl | rfl | rfl | rfl | rfl | rfl | rfl | rfl | rfl | rfl | rfl | hn
  · as_aux_lemma =>
      rw [show layS 100 = ⟨#[109, 118]⟩ from rfl, show (kindF 100).isSome = true from rfl]
      change Calls Tryz.prog 48 #[.int .u8 100] w _
      go_enter Tryz.func48, Tryz.ntmps48
      go_wp2_with fail
      refine bodyPost_ret (v := .tuple #[.string ⟨#[109, 118]⟩, .bool true]) (by simp [results, Tryz.results48]) rfl ⟨rfl, rfl⟩
  · as_aux_lemma =>
      rw [show layS 101 = ⟨#[109, 118]⟩ from rfl, show (kindF 101).isSome = true from rfl]
      change Calls Tryz.prog 48 #[.int .u8 101] w _
      go_enter Tryz.func48, Tryz.ntmps48
      go_wp2_with fail
      refine bodyPost_ret (v := .tuple #[.string ⟨#[109, 118]⟩, .bool true]) (by simp [results, Tryz.results48]) rfl ⟨rfl, rfl⟩
  · as_aux_lemma =>
      rw [show layS 102 = ⟨#[97, 117, 110]⟩ from rfl, show (kindF 102).isSome = true from rfl]
      change Calls Tryz.prog 48 #[.int .u8 102] w _
      go_enter Tryz.func48, Tryz.ntmps48
      go_wp2_with fail
      refine bodyPost_ret (v := .tuple #[.string ⟨#[97, 117, 110]⟩, .bool true]) (by simp [results, Tryz.results48]) rfl ⟨rfl, rfl⟩
  · as_aux_lemma =>
      rw [show layS 103 = ⟨#[113]⟩ from rfl, show (kindF 103).isSome = true from rfl]
      change Calls Tryz.prog 48 #[.int .u8 103] w _
      go_enter Tryz.func48, Tryz.ntmps48
      go_wp2_with fail
      refine bodyPost_ret (v := .tuple #[.string ⟨#[113]⟩, .bool true]) (by simp [results, Tryz.results48]) rfl ⟨rfl, rfl⟩
  · as_aux_lemma =>
      rw [show layS 104 = ⟨#[102, 97, 117, 110]⟩ from rfl, show (kindF 104).isSome = true from rfl]
      change Calls Tryz.prog 48 #[.int .u8 104] w _
      go_enter Tryz.func48, Tryz.ntmps48
      go_wp2_with fail
      refine bodyPost_ret (v := .tuple #[.string ⟨#[102, 97, 117, 110]⟩, .bool true]) (by simp [results, Tryz.results48]) rfl ⟨rfl, rfl⟩
  · as_aux_lemma =>
      rw [show layS 105 = ⟨#[113]⟩ from rfl, show (kindF 105).isSome = true from rfl]
      change Calls Tryz.prog 48 #[.int .u8 105] w _
      go_enter Tryz.func48, Tryz.ntmps48
      go_wp2_with fail
      refine bodyPost_ret (v := .tuple #[.string ⟨#[113]⟩, .bool true]) (by simp [results, Tryz.results48]) rfl ⟨rfl, rfl⟩
  · as_aux_lemma =>
      rw [show layS 107 = ⟨#[101]⟩ from rfl, show (kindF 107).isSome = true from rfl]
      change Calls Tryz.prog 48 #[.int .u8 107] w _
      go_enter Tryz.func48, Tryz.ntmps48
      go_wp2_with fail
      refine bodyPost_ret (v := .tuple #[.string ⟨#[101]⟩, .bool true]) (by simp [results, Tryz.results48]) rfl ⟨rfl, rfl⟩
  · as_aux_lemma =>
      rw [show layS 108 = ⟨#[111]⟩ from rfl, show (kindF 108).isSome = true from rfl]
      change Calls Tryz.prog 48 #[.int .u8 108] w _
      go_enter Tryz.func48, Tryz.ntmps48
      go_wp2_with fail
      refine bodyPost_ret (v := .tuple #[.string ⟨#[111]⟩, .bool true]) (by simp [results, Tryz.results48]) rfl ⟨rfl, rfl⟩
  · as_aux_lemma =>
      rw [show layS 109 = ⟨#[]⟩ from rfl, show (kindF 109).isSome = true from rfl]
      change Calls Tryz.prog 48 #[.int .u8 109] w _
      go_enter Tryz.func48, Tryz.ntmps48
      go_wp2_with fail
      refine bodyPost_ret (v := .tuple #[.string ⟨#[]⟩, .bool true]) (by simp [results, Tryz.results48]) rfl ⟨rfl, rfl⟩
  · as_aux_lemma =>
      rw [show layS 110 = ⟨#[102, 119, 78]⟩ from rfl, show (kindF 110).isSome = true from rfl]
      change Calls Tryz.prog 48 #[.int .u8 110] w _
      go_enter Tryz.func48, Tryz.ntmps48
      go_wp2_with fail
      refine bodyPost_ret (v := .tuple #[.string ⟨#[102, 119, 78]⟩, .bool true]) (by simp [results, Tryz.results48]) rfl ⟨rfl, rfl⟩
  · as_aux_lemma =>
      rw [show layS 111 = ⟨#[81]⟩ from rfl, show (kindF 111).isSome = true from rfl]
      change Calls Tryz.prog 48 #[.int .u8 111] w _
      go_enter Tryz.func48, Tryz.ntmps48
      go_wp2_with fail
      refine bodyPost_ret (v := .tuple #[.string ⟨#[81]⟩, .bool true]) (by simp [results, Tryz.results48]) rfl ⟨rfl, rfl⟩
  · as_aux_lemma =>
      rw [show layS 112 = ⟨#[102, 100]⟩ from rfl, show (kindF 112).isSome = true from rfl]
      change Calls Tryz.prog 48 #[.int .u8 112] w _
      go_enter Tryz.func48, Tryz.ntmps48
      go_wp2_with fail
      refine bodyPost_ret (v := .tuple #[.string ⟨#[102, 100]⟩, .bool true]) (by simp [results, Tryz.results48]) rfl ⟨rfl, rfl⟩
  · as_aux_lemma =>
      rw [show layS 113 = ⟨#[113, 105]⟩ from rfl, show (kindF 113).isSome = true from rfl]
      change Calls Tryz.prog 48 #[.int .u8 113] w _
      go_enter Tryz.func48, Tryz.ntmps48
      go_wp2_with fail
      refine bodyPost_ret (v := .tuple #[.string ⟨#[113, 105]⟩, .bool true]) (by simp [results, Tryz.results48]) rfl ⟨rfl, rfl⟩
  · as_aux_lemma =>
      rw [show layS 114 = ⟨#[102, 99, 112, 100]⟩ from rfl, show (kindF 114).isSome = true from rfl]
      change Calls Tryz.prog 48 #[.int .u8 114] w _
      go_enter Tryz.func48, Tryz.ntmps48
      go_wp2_with fail
      refine bodyPost_ret (v := .tuple #[.string ⟨#[102, 99, 112, 100]⟩, .bool true]) (by simp [results, Tryz.results48]) rfl ⟨rfl, rfl⟩
  · as_aux_lemma =>
      rw [show layS 115 = ⟨#[113, 105]⟩ from rfl, show (kindF 115).isSome = true from rfl]
      change Calls Tryz.prog 48 #[.int .u8 115] w _
      go_enter Tryz.func48, Tryz.ntmps48
      go_wp2_with fail
      refine bodyPost_ret (v := .tuple #[.string ⟨#[113, 105]⟩, .bool true]) (by simp [results, Tryz.results48]) rfl ⟨rfl, rfl⟩
  · as_aux_lemma =>
      rw [show layS 116 = ⟨#[102, 79, 67]⟩ from rfl, show (kindF 116).isSome = true from rfl]
      change Calls Tryz.prog 48 #[.int .u8 116] w _
      go_enter Tryz.func48, Tryz.ntmps48
      go_wp2_with fail
      refine bodyPost_ret (v := .tuple #[.string ⟨#[102, 79, 67]⟩, .bool true]) (by simp [results, Tryz.results48]) rfl ⟨rfl, rfl⟩
  · as_aux_lemma =>
      rw [show layS 117 = ⟨#[68]⟩ from rfl, show (kindF 117).isSome = true from rfl]
      change Calls Tryz.prog 48 #[.int .u8 117] w _
      go_enter Tryz.func48, Tryz.ntmps48
      go_wp2_with fail
      refine bodyPost_ret (v := .tuple #[.string ⟨#[68]⟩, .bool true]) (by simp [results, Tryz.results48]) rfl ⟨rfl, rfl⟩
  · as_aux_lemma =>
      rw [show layS 118 = ⟨#[102, 79, 68]⟩ from rfl, show (kindF 118).isSome = true from rfl]
      change Calls Tryz.prog 48 #[.int .u8 118] w _
      go_enter Tryz.func48, Tryz.ntmps48
      go_wp2_with fail
      refine bodyPost_ret (v := .tuple #[.string ⟨#[102, 79, 68]⟩, .bool true]) (by simp [results, Tryz.results48]) rfl ⟨rfl, rfl⟩
  · as_aux_lemma =>
      rw [show layS 119 = ⟨#[67]⟩ from rfl, show (kindF 119).isSome = true from rfl]
      change Calls Tryz.prog 48 #[.int .u8 119] w _
      go_enter Tryz.func48, Tryz.ntmps48
      go_wp2_with fail
      refine bodyPost_ret (v := .tuple #[.string ⟨#[67]⟩, .bool true]) (by simp [results, Tryz.results48]) rfl ⟨rfl, rfl⟩
  · as_aux_lemma =>
      rw [show layS 120 = ⟨#[102]⟩ from rfl, show (kindF 120).isSome = true from rfl]
      change Calls Tryz.prog 48 #[.int .u8 120] w _
      go_enter Tryz.func48, Tryz.ntmps48
      go_wp2_with fail
      refine bodyPost_ret (v := .tuple #[.string ⟨#[102]⟩, .bool true]) (by simp [results, Tryz.results48]) rfl ⟨rfl, rfl⟩
  · as_aux_lemma =>
      rw [show layS 121 = ⟨#[]⟩ from rfl, show (kindF 121).isSome = true from rfl]
      change Calls Tryz.prog 48 #[.int .u8 121] w _
      go_enter Tryz.func48, Tryz.ntmps48
      go_wp2_with fail
      refine bodyPost_ret (v := .tuple #[.string ⟨#[]⟩, .bool true]) (by simp [results, Tryz.results48]) rfl ⟨rfl, rfl⟩
  · as_aux_lemma =>
      rw [show layS 122 = ⟨#[102]⟩ from rfl, show (kindF 122).isSome = true from rfl]
      change Calls Tryz.prog 48 #[.int .u8 122] w _
      go_enter Tryz.func48, Tryz.ntmps48
      go_wp2_with fail
      refine bodyPost_ret (v := .tuple #[.string ⟨#[102]⟩, .bool true]) (by simp [results, Tryz.results48]) rfl ⟨rfl, rfl⟩
  · as_aux_lemma =>
      rw [show layS 123 = ⟨#[]⟩ from rfl, show (kindF 123).isSome = true from rfl]
      change Calls Tryz.prog 48 #[.int .u8 123] w _
      go_enter Tryz.func48, Tryz.ntmps48
      go_wp2_with fail
      refine bodyPost_ret (v := .tuple #[.string ⟨#[]⟩, .bool true]) (by simp [results, Tryz.results48]) rfl ⟨rfl, rfl⟩
  · as_aux_lemma =>
      rw [show layS 124 = ⟨#[102]⟩ from rfl, show (kindF 124).isSome = true from rfl]
      change Calls Tryz.prog 48 #[.int .u8 124] w _
      go_enter Tryz.func48, Tryz.ntmps48
      go_wp2_with fail
      refine bodyPost_ret (v := .tuple #[.string ⟨#[102]⟩, .bool true]) (by simp [results, Tryz.results48]) rfl ⟨rfl, rfl⟩
  · as_aux_lemma =>
      rw [show layS 125 = ⟨#[83]⟩ from rfl, show (kindF 125).isSome = true from rfl]
      change Calls Tryz.prog 48 #[.int .u8 125] w _
      go_enter Tryz.func48, Tryz.ntmps48
      go_wp2_with fail
      refine bodyPost_ret (v := .tuple #[.string ⟨#[83]⟩, .bool true]) (by simp [results, Tryz.results48]) rfl ⟨rfl, rfl⟩
  · as_aux_lemma =>
      rw [show layS 126 = ⟨#[102, 83]⟩ from rfl, show (kindF 126).isSome = true from rfl]
      change Calls Tryz.prog 48 #[.int .u8 126] w _
      go_enter Tryz.func48, Tryz.ntmps48
      go_wp2_with fail
      refine bodyPost_ret (v := .tuple #[.string ⟨#[102, 83]⟩, .bool true]) (by simp [results, Tryz.results48]) rfl ⟨rfl, rfl⟩
  · as_aux_lemma =>
      rw [show layS 127 = ⟨#[]⟩ from rfl, show (kindF 127).isSome = true from rfl]
      change Calls Tryz.prog 48 #[.int .u8 127] w _
      go_enter Tryz.func48, Tryz.ntmps48
      go_wp2_with fail
      refine bodyPost_ret (v := .tuple #[.string ⟨#[]⟩, .bool true]) (by simp [results, Tryz.results48]) rfl ⟨rfl, rfl⟩
  · as_aux_lemma =>
      rw [show layS k = ⟨#[]⟩ from by unfold layS; rw [hn]; rfl, show (kindF k).isSome = false from by rw [hn]; rfl]
      obtain ⟨h100, h101, h102, h103, h104, h105, h107, h108, h109, h110, h111, h112, h113, h114, h115, h116, h117, h118, h119, h120, h121, h122, h123, h124, h125, h126, h127⟩ := kind_no hn
      have g100 : ((k : Int) == 100) = false := by rw [beq_eq_false_iff_ne]; omega
      have g101 : ((k : Int) == 101) = false := by rw [beq_eq_false_iff_ne]; omega
      have g102 : ((k : Int) == 102) = false := by rw [beq_eq_false_iff_ne]; omega
      have g103 : ((k : Int) == 103) = false := by rw [beq_eq_false_iff_ne]; omega
      have g104 : ((k : Int) == 104) = false := by rw [beq_eq_false_iff_ne]; omega
      have g105 : ((k : Int) == 105) = false := by rw [beq_eq_false_iff_ne]; omega
      have g107 : ((k : Int) == 107) = false := by rw [beq_eq_false_iff_ne]; omega
      have g108 : ((k : Int) == 108) = false := by rw [beq_eq_false_iff_ne]; omega
      have g109 : ((k : Int) == 109) = false := by rw [beq_eq_false_iff_ne]; omega
      have g110 : ((k : Int) == 110) = false := by rw [beq_eq_false_iff_ne]; omega
      have g111 : ((k : Int) == 111) = false := by rw [beq_eq_false_iff_ne]; omega
      have g112 : ((k : Int) == 112) = false := by rw [beq_eq_false_iff_ne]; omega
      have g113 : ((k : Int) == 113) = false := by rw [beq_eq_false_iff_ne]; omega
      have g114 : ((k : Int) == 114) = false := by rw [beq_eq_false_iff_ne]; omega
      have g115 : ((k : Int) == 115) = false := by rw [beq_eq_false_iff_ne]; omega
      have g116 : ((k : Int) == 116) = false := by rw [beq_eq_false_iff_ne]; omega
      have g117 : ((k : Int) == 117) = false := by rw [beq_eq_false_iff_ne]; omega
      have g118 : ((k : Int) == 118) = false := by rw [beq_eq_false_iff_ne]; omega
      have g119 : ((k : Int) == 119) = false := by rw [beq_eq_false_iff_ne]; omega
      have g120 : ((k : Int) == 120) = false := by rw [beq_eq_false_iff_ne]; omega
      have g121 : ((k : Int) == 121) = false := by rw [beq_eq_false_iff_ne]; omega
      have g122 : ((k : Int) == 122) = false := by rw [beq_eq_false_iff_ne]; omega
      have g123 : ((k : Int) == 123) = false := by rw [beq_eq_false_iff_ne]; omega
      have g124 : ((k : Int) == 124) = false := by rw [beq_eq_false_iff_ne]; omega
      have g125 : ((k : Int) == 125) = false := by rw [beq_eq_false_iff_ne]; omega
      have g126 : ((k : Int) == 126) = false := by rw [beq_eq_false_iff_ne]; omega
      have g127 : ((k : Int) == 127) = false := by rw [beq_eq_false_iff_ne]; omega
      clear h100 h101 h102 h103 h104 h105 h107 h108 h109 h110 h111 h112 h113 h114 h115 h116 h117 h118 h119 h120 h121 h122 h123 h124 h125 h126 h127
      have hw : wrap64 (k : Int) = (k : Int) := IntWalk.wrap64_in _ (by omega)
      go_enter Tryz.func48, Tryz.ntmps48
      go_wp2_with fail
      refine bodyPost_ret (v := .tuple #[.string ⟨#[]⟩, .bool false]) (by simp [results, Tryz.results48]) rfl ⟨rfl, rfl⟩
def refNames : List ByteArray := [⟨#[118, 101, 114, 115, 105, 111, 110]⟩, ⟨#[97, 117, 116, 104]⟩, ⟨#[97, 116, 116, 97, 99, 104]⟩, ⟨#[101, 114, 114, 111, 114]⟩, ⟨#[102, 108, 117, 115, 104]⟩, ⟨#[119, 97, 108, 107]⟩, ⟨#[111, 112, 101, 110]⟩, ⟨#[99, 114, 101, 97, 116, 101]⟩, ⟨#[114, 101, 97, 100]⟩, ⟨#[119, 114, 105, 116, 101]⟩, ⟨#[99, 108, 117, 110, 107]⟩, ⟨#[114, 101, 109, 111, 118, 101]⟩, ⟨#[115, 116, 97, 116]⟩, ⟨#[119, 115, 116, 97, 116]⟩]
def letT (k : Nat) : ByteArray := if k % 2 = 0 then ⟨#[84]⟩ else ⟨#[82]⟩
theorem kindN_ref {k : Nat} {fs : List Fld} (h : kindF k = some fs) : 100 ≤ k ∧ k < 128 ∧ ∃ x, refNames[(k - 100) / 2]? = some x ∧ x.size ≤ 10 ∧ letT k ++ x = ofL (kindN k) := by
  rcases kind_cases k with rfl | rfl | rfl | rfl | rfl | rfl | rfl | rfl | rfl | rfl | rfl | rfl | rfl | rfl | rfl | rfl | rfl | rfl | rfl | rfl | rfl | rfl | rfl | rfl | rfl | rfl | rfl | hn
  all_goals first
    | exact ⟨by decide, by decide, _, rfl, by decide, by kernel_rfl⟩
    | (rw [hn] at h; cases h)
set_option maxRecDepth 100000 in
set_option maxHeartbeats 6400000 in
theorem refName_calls (k : Nat) (hk : k < 256) (w : World) : Calls Tryz.prog 36 #[.int .u8 (k : Int)] w fun e w' => e = .returned (.string (ofL (kindN k))) ∧ Below w.heap.size w w' := by
  have hup : Below w.heap.size w (w.alloc (.cells (strL refNames).toArray 9)) := (Below.refl _ _).alloc (Nat.le_refl _) _
  have HUP := Lib.hid hup
  have HN := Lib.hid (Blk.new w 9 (strL refNames).toArray)
  have HLAY := Lib.hid (fun w1 => layout_calls k hk w1)
  clear hup
  go_enter Tryz.func36, Tryz.ntmps36
  go_upto_region 2 with (fail)
  change Code.wp _ _ _ _ (w.alloc (.cells (strL refNames).toArray 9))
  generalize w.alloc (.cells (strL refNames).toArray 9) = w1 at HUP HN ⊢
  generalize hz : w.heap.size = z at HN ⊢
  have HZ := Lib.hid hz
  clear hz
  go_wp2_with fail
  refine (HLAY.out w1).mono ?_
  rintro e w' ⟨rfl, rfl⟩
  clear HLAY
  cases hf : kindF k with
  | none =>
    rw [show (none : Option (List Fld)).isSome = false from rfl]
    have HR := Lib.hid (kindN_no hf)
    clear hf
    go_wp2_with fail
    refine bodyPost_ret (v := .string ⟨#[]⟩) (by simp [results, Tryz.results36]) rfl ⟨by rw [HR.out]; rfl, ?_⟩
    exact HUP.out
  | some fs =>
    obtain ⟨h1, h2, x, hx, hxs, hr⟩ := kindN_ref hf
    rw [show (some fs : Option (List Fld)).isSome = true from rfl]
    have HR := Lib.hid hr
    have kx : w1.cell? ⟨z, (k - 100) / 2, none⟩ = some (.string x) := (Blk.cell HN.out ((k - 100) / 2)).trans (by rw [List.getElem?_toArray, strL, List.getElem?_map, hx]; rfl)
    have hw0 : wrap64 (k : Int) = (k : Int) := IntWalk.wrap64_in _ (by omega)
    have hw1 : (k : Int) - 100 = (((k - 100 : Nat)) : Int) := by omega
    generalize hn : k - 100 = n at *
    have hnl : n < 28 := by omega
    obtain ⟨P, hP⟩ : ∃ P, P = letT k ++ x := ⟨_, rfl⟩
    rw [← hP] at HR
    clear hf hx hr
    by_cases hpar : k % 2 = 0
    · have hm : Int.tmod ((k : Int) - 100) 2 = 0 := by rw [hw1]; show ((n % 2 : Nat) : Int) = 0; omega
      have hq : Int.tdiv ((k : Int) - 100) 2 = ((n / 2 : Nat) : Int) := by rw [hw1]; rfl
      have hlt : n / 2 < 14 := by omega
      have ha : ∀ w, (Op.stringOp .add (⟨#[84]⟩ : ByteArray) x).run Tryz.prog w = .ok (.string P) w := fun w => by
        rw [hP, letT, if_pos hpar]
        exact run_string_add_sum w _ _ (by have : (⟨#[84]⟩ : ByteArray).size = 1 := rfl; omega)
      have hk1 : 100 ≤ k ∧ k < 128 := by omega
      have h1 := hk1.1
      have h2 := hk1.2
      clear hP hpar hn hw1 hk1
      generalize n / 2 = q at *
      go_wp2_with fail
      refine bodyPost_ret (v := .string P) (by simp [results, Tryz.results36]) rfl ⟨by rw [HR.out], ?_⟩
      exact HUP.out
    · have hm : Int.tmod ((k : Int) - 100) 2 = 1 := by rw [hw1]; show ((n % 2 : Nat) : Int) = 1; omega
      have hq : Int.tdiv ((k : Int) - 100) 2 = ((n / 2 : Nat) : Int) := by rw [hw1]; rfl
      have hlt : n / 2 < 14 := by omega
      have ha : ∀ w, (Op.stringOp .add (⟨#[82]⟩ : ByteArray) x).run Tryz.prog w = .ok (.string P) w := fun w => by
        rw [hP, letT, if_neg hpar]
        exact run_string_add_sum w _ _ (by have : (⟨#[82]⟩ : ByteArray).size = 1 := rfl; omega)
      have hk1 : 100 ≤ k ∧ k < 128 := by omega
      have h1 := hk1.1
      have h2 := hk1.2
      clear hP hpar hn hw1 hk1
      generalize n / 2 = q at *
      go_wp2_with fail
      refine bodyPost_ret (v := .string P) (by simp [results, Tryz.results36]) rfl ⟨by rw [HR.out], ?_⟩
      exact HUP.out
set_option maxRecDepth 100000 in
set_option maxHeartbeats 6400000 in
theorem refAnswer_calls (k : Nat) (hk : k < 256) (w : World) : Calls Tryz.prog 34 #[.int .u8 (k : Int)] w fun e w' => e = .returned (.tuple #[.int .u8 ((ansS k).1 : Int), .bool (ansS k).2]) ∧ w = w' := by
  have hl := layout_calls k hk w
  go_enter Tryz.func34, Tryz.ntmps34
  go_wp2_with fail
  refine hl.mono ?_
  clear hl
  rintro e w' ⟨rfl, rfl⟩
  have hw0 : wrap64 (k : Int) = (k : Int) := IntWalk.wrap64_in _ (by omega)
  cases hf : kindF k with
  | none =>
    have HR := Lib.hid (show ansS k = (0, false) from by unfold ansS; rw [hf]; rfl)
    rw [show (none : Option (List Fld)).isSome = false from rfl]
    go_wp2_with fail
    refine bodyPost_ret (v := .tuple #[.int .u8 0, .bool false]) (by simp [results, Tryz.results34]) rfl ⟨by rw [HR.out] <;> rfl, rfl⟩
  | some fs =>
    obtain ⟨h1, h2, -⟩ := kindN_ref hf
    rw [show (some fs : Option (List Fld)).isSome = true from rfl]
    by_cases hpar : k % 2 = 0
    · have hm : Int.tmod (k : Int) 2 = 0 := by show ((k % 2 : Nat) : Int) = 0; omega
      have hw1 : IntKind.u8.wrap ((k : Int) + 1) = ((k + 1 : Nat) : Int) := by rw [IntKind.wrap_u8]; omega
      have HR := Lib.hid (show ansS k = (k + 1, true) from by unfold ansS; rw [hf]; simp [hpar])
      clear hf hpar
      go_wp2_with fail
      refine bodyPost_ret (v := .tuple #[.int .u8 ((k + 1 : Nat) : Int), .bool true]) (by simp [results, Tryz.results34]) rfl ⟨by rw [HR.out] <;> rfl, rfl⟩
    · have hm : Int.tmod (k : Int) 2 = 1 := by show ((k % 2 : Nat) : Int) = 1; omega
      have HR := Lib.hid (show ansS k = (0, false) from by unfold ansS; rw [hf]; simp [hpar])
      clear hf hpar
      go_wp2_with fail
      refine bodyPost_ret (v := .tuple #[.int .u8 0, .bool false]) (by simp [results, Tryz.results34]) rfl ⟨by rw [HR.out] <;> rfl, rfl⟩
set_option maxRecDepth 100000 in
set_option maxHeartbeats 6400000 in
theorem refKind_calls (s : ByteArray) (w : World) : Calls Tryz.prog 38 #[.string s] w fun e w' => KindR s e ∧ Below w.heap.size w w' := by
  go_enter Tryz.func38, Tryz.ntmps38
  go_upto_region 2 with (fail)
  go_loopw [4, 5] (fun i _ wr => ∃ k : Nat, k ≤ 28 ∧ i = .int .i64 ((100 + k : Nat) : Int) ∧ Below w.heap.size w wr ∧ ∀ j, j < k → kindN (100 + j) = s.data.toList → s.data.toList = []) (fun i _ _ => 28 - ((intOf i).toNat - 100))
  case atStart => exact ⟨0, by omega, rfl, Below.refl _ _, fun j hj => absurd hj (Nat.not_lt_zero j)⟩
  case round =>
    obtain ⟨k, hk, rfl, hb, hno⟩ := hrel
    have HB := Lib.hid hb
    have HNO := Lib.hid hno
    clear hb hno
    by_cases hlt : k < 28
    · have hw8 : IntKind.u8.wrap ((100 + k : Nat) : Int) = ((100 + k : Nat) : Int) := by rw [IntKind.wrap_u8]; omega
      have hw64 : wrap64 (((100 + k : Nat) : Int) + 1) = ((100 + (k + 1) : Nat) : Int) := by rw [IntWalk.wrap64_in _ (by omega)]; omega
      have hlk : ((100 + k : Nat) : Int) < 128 := by omega
      have HNM := Lib.hid (fun w => refName_calls (100 + k) (by omega) w)
      obtain ⟨X, hX⟩ : ∃ X, X = ofL (kindN (100 + k)) := ⟨_, rfl⟩
      have HX := Lib.hid (show X.data.toList = kindN (100 + k) from by rw [hX]; simp [ofL])
      rw [← hX] at HNM
      clear hX
      generalize hn : 100 + k = n at *
      have HN := Lib.hid hn
      clear hn
      go_wp2_with fail
      refine (HNM.out wr).mono ?_
      rintro e w2 ⟨rfl, hb⟩
      have HB2 := Lib.hid (HB.out.trans (hb.mono HB.out.size))
      clear hb HNM
      by_cases he : X.toList = []
      · have he0 : (X.toList == []) = true := by rw [beq_iff_eq]; exact he
        have he1 : X.toList.isEmpty = true := by rw [he]; rfl
        have HE := Lib.hid he
        clear he
        go_wp2_with fail
        go_roundw
        case rel =>
          refine ⟨k + 1, by omega, by have := HN.out; congr 1; omega, HB2.out, fun j hj hjs => ?_⟩
          rcases Nat.lt_succ_iff_lt_or_eq.1 hj with h | h
          · exact HNO.out j h hjs
          · rw [h, HN.out, ← HX.out, ← ByteArray.toList_eq, HE.out] at hjs
            exact hjs.symm
        case measure => have := HN.out; simp [intOf]; omega
      · have he0 : (X.toList == []) = false := by rw [beq_eq_false_iff_ne]; exact he
        have he1 : X.toList.isEmpty = false := by cases h : X.toList with | nil => exact absurd h he | cons _ _ => rfl
        have HE := Lib.hid he
        clear he
        by_cases hxs : X = s
        · have HXS := Lib.hid hxs
          subst hxs
          go_wp2_with fail
          refine bodyPost_ret (v := .tuple #[.int .u8 (n : Int), .bool true]) (by simp [results, Tryz.results38]) rfl ⟨?_, ?_⟩
          · unfold KindR
            rw [kindOf_hit HX.out.symm (by rw [← ByteArray.toList_eq]; exact HE.out)]
          · exact HB2.out
        · have hxq : (X.toList == s.toList) = false := by rw [beq_str]; exact decide_eq_false hxs
          have HXS := Lib.hid hxs
          clear hxs
          go_wp2_with fail
          go_roundw
          case rel =>
            refine ⟨k + 1, by omega, by have := HN.out; congr 1; omega, HB2.out, fun j hj hjs => ?_⟩
            rcases Nat.lt_succ_iff_lt_or_eq.1 hj with h | h
            · exact HNO.out j h hjs
            · rw [h, HN.out, ← HX.out] at hjs
              exact absurd (ByteArray.ext (Array.toList_inj.1 hjs)) HXS.out
          case measure => have := HN.out; simp [intOf]; omega
    · have hkk : k = 28 := by omega
      subst hkk
      have HKO := Lib.hid (kindOf_miss HNO.out)
      clear hlt hk
      go_wp2_with fail
      refine bodyPost_ret (v := .tuple #[.int .u8 0, .bool false]) (by simp [results, Tryz.results38]) rfl ⟨?_, ?_⟩
      · unfold KindR
        rw [HKO.out]
      · exact HB.out
theorem kindN_head {k : Nat} {fs : List Fld} (h : kindF k = some fs) : ∃ r, kindN k = (if k % 2 = 0 then 84 else 82) :: r := by
  rcases kind_cases k with rfl | rfl | rfl | rfl | rfl | rfl | rfl | rfl | rfl | rfl | rfl | rfl | rfl | rfl | rfl | rfl | rfl | rfl | rfl | rfl | rfl | rfl | rfl | rfl | rfl | rfl | rfl | hn
  all_goals first
    | exact ⟨_, rfl⟩
    | (rw [hn] at h; cases h)
set_option maxRecDepth 100000 in
set_option maxHeartbeats 6400000 in
theorem answer_calls (k : Nat) (hk : k < 256) (w : World) : Calls Tryz.prog 33 #[.int .u8 (k : Int)] w fun e w' => e = .returned (.tuple #[.int .u8 ((ansS k).1 : Int), .bool (ansS k).2]) ∧ Below w.heap.size w w' := by
  have HRO := Lib.hid (rowOf_in k w)
  go_enter Tryz.func33, Tryz.ntmps33
  go_wp2_with fail
  refine HRO.out.mono ?_
  rintro e w1 ⟨hb, hrow⟩
  unfold RowS at hrow
  have HB := Lib.hid hb
  clear hb HRO
  cases hf : kindF k with
  | none =>
    rw [hf] at hrow
    subst hrow
    have HR := Lib.hid (show ansS k = (0, false) from by unfold ansS; rw [hf]; rfl)
    clear hf
    have HU := Lib.hid (show Below w.heap.size w (w1.alloc (.cells #[.int .u8 0, .string ⟨#[]⟩, .slice none 0 0] 79)) from HB.out.alloc HB.out.size _)
    go_wp2_with fail
    refine bodyPost_ret (v := .tuple #[.int .u8 0, .bool false]) (by simp [results, Tryz.results33]) rfl ⟨by rw [HR.out] <;> rfl, ?_⟩
    exact HU.out
  | some fs =>
    rw [hf] at hrow
    obtain ⟨v, rfl, hfl⟩ := hrow
    obtain ⟨A, c, rfl, -⟩ := hfl
    obtain ⟨r, hr⟩ := kindN_head hf
    obtain ⟨h1, h2, -⟩ := kindN_ref hf
    by_cases hpar : k % 2 = 0
    · have HR := Lib.hid (show ansS k = (k + 1, true) from by unfold ansS; rw [hf]; simp [hpar])
      have hw1 : IntKind.u8.wrap ((k : Int) + 1) = ((k + 1 : Nat) : Int) := by rw [IntKind.wrap_u8]; omega
      rw [if_pos hpar] at hr
      rw [hr]
      clear hpar hf hr hk
      have HU := Lib.hid (show Below w.heap.size w (w1.alloc (.cells #[.int .u8 (k : Int), .string (ofL (84 :: r)), .slice A fs.length c] 79)) from HB.out.alloc HB.out.size _)
      have HBK := Lib.hid (Blk.new w1 79 #[.int .u8 (k : Int), .string (ofL (84 :: r)), .slice A fs.length c])
      have hs0 : (ofL (84 :: r)).size = r.length + 1 := ofL_size _
      have hs1 : ∀ h : 0 < (ofL (84 :: r)).size, (ofL (84 :: r))[0]'h = 84 := fun _ => rfl
      go_upto_region 2 with (fail)
      generalize w1.alloc (.cells #[.int .u8 (k : Int), .string (ofL (84 :: r)), .slice A fs.length c] 79) = w2 at HU HBK ⊢
      generalize w1.heap.size = z at HBK ⊢
      have k1 : w2.cell? ⟨z, 1, none⟩ = some (.string (ofL (84 :: r))) := HBK.out.cell 1
      generalize ofL (84 :: r) = X at *
      go_wp2_with fail
      refine bodyPost_ret (v := .tuple #[.int .u8 ((k + 1 : Nat) : Int), .bool true]) (by simp [results, Tryz.results33]) rfl ⟨by rw [HR.out] <;> rfl, ?_⟩
      exact HU.out
    · have HR := Lib.hid (show ansS k = (0, false) from by unfold ansS; rw [hf]; simp [hpar])
      have hw1 : IntKind.u8.wrap ((k : Int) + 1) = ((k + 1 : Nat) : Int) := by rw [IntKind.wrap_u8]; omega
      rw [if_neg hpar] at hr
      rw [hr]
      clear hpar hf hr hk
      have HU := Lib.hid (show Below w.heap.size w (w1.alloc (.cells #[.int .u8 (k : Int), .string (ofL (82 :: r)), .slice A fs.length c] 79)) from HB.out.alloc HB.out.size _)
      have HBK := Lib.hid (Blk.new w1 79 #[.int .u8 (k : Int), .string (ofL (82 :: r)), .slice A fs.length c])
      have hs0 : (ofL (82 :: r)).size = r.length + 1 := ofL_size _
      have hs1 : ∀ h : 0 < (ofL (82 :: r)).size, (ofL (82 :: r))[0]'h = 82 := fun _ => rfl
      go_upto_region 2 with (fail)
      generalize w1.alloc (.cells #[.int .u8 (k : Int), .string (ofL (82 :: r)), .slice A fs.length c] 79) = w2 at HU HBK ⊢
      generalize w1.heap.size = z at HBK ⊢
      have k1 : w2.cell? ⟨z, 1, none⟩ = some (.string (ofL (82 :: r))) := HBK.out.cell 1
      generalize ofL (82 :: r) = X at *
      go_wp2_with fail
      refine bodyPost_ret (v := .tuple #[.int .u8 0, .bool false]) (by simp [results, Tryz.results33]) rfl ⟨by rw [HR.out] <;> rfl, ?_⟩
      exact HU.out
end Go.Proofs.YtkblmloobkiloaaGreatDoor
