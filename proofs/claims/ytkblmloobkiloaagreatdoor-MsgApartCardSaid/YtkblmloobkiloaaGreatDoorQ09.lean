/-
  MF: what the laws of package msg need of them.
-/
import Derived.Test.YtkblmloobkiloaaGreatDoorQ08
import Derived.Laws.EntriesVeiled
namespace Go.Proofs.YtkblmloobkiloaaGreatDoor
open Go.RowKit

abbrev cap1 (b : Nat) : Array Value := #[.pointer (some ⟨b, 0, none⟩)]
abbrev fv (k : Nat) (c : Array Value) : Value := .func (.func k) #[] c
def Fld.kg : Fld → Nat
  | .msize => 126
  | .version => 132
  | .afid => 126
  | .uname => 132
  | .aname => 132
  | .ename => 132
  | .oldtag => 126
  | .fid => 126
  | .newfid => 126
  | .names => 207
  | .qids => 220
  | .qid => 126
  | .mode => 126
  | .iounit => 126
  | .name => 132
  | .perm => 126
  | .offset => 126
  | .count => 126
  | .data => 126
  | .stat => 233
def Fld.kp : Fld → Nat
  | .msize => 127
  | .version => 134
  | .afid => 127
  | .uname => 134
  | .aname => 134
  | .ename => 134
  | .oldtag => 143
  | .fid => 127
  | .newfid => 127
  | .names => 210
  | .qids => 221
  | .qid => 170
  | .mode => 148
  | .iounit => 127
  | .name => 134
  | .perm => 127
  | .offset => 153
  | .count => 127
  | .data => 160
  | .stat => 234
def Fld.kt : Fld → Nat
  | .msize => 128
  | .version => 136
  | .afid => 128
  | .uname => 136
  | .aname => 136
  | .ename => 136
  | .oldtag => 144
  | .fid => 128
  | .newfid => 128
  | .names => 212
  | .qids => 224
  | .qid => 172
  | .mode => 149
  | .iounit => 128
  | .name => 136
  | .perm => 128
  | .offset => 155
  | .count => 128
  | .data => 162
  | .stat => 236
def Fld.km : Fld → Nat
  | .msize => 129
  | .version => 138
  | .afid => 129
  | .uname => 138
  | .aname => 138
  | .ename => 138
  | .oldtag => 145
  | .fid => 129
  | .newfid => 129
  | .names => 214
  | .qids => 227
  | .qid => 174
  | .mode => 150
  | .iounit => 129
  | .name => 138
  | .perm => 129
  | .offset => 157
  | .count => 129
  | .data => 164
  | .stat => 238
def Fld.kr : Fld → Nat
  | .msize => 130
  | .version => 139
  | .afid => 130
  | .uname => 139
  | .aname => 139
  | .ename => 139
  | .oldtag => 146
  | .fid => 130
  | .newfid => 130
  | .names => 216
  | .qids => 229
  | .qid => 175
  | .mode => 151
  | .iounit => 130
  | .name => 139
  | .perm => 130
  | .offset => 158
  | .count => 130
  | .data => 166
  | .stat => 239
def Fld.ks : Fld → Nat
  | .msize => 131
  | .version => 141
  | .afid => 131
  | .uname => 141
  | .aname => 141
  | .ename => 141
  | .oldtag => 147
  | .fid => 131
  | .newfid => 131
  | .names => 218
  | .qids => 231
  | .qid => 177
  | .mode => 152
  | .iounit => 131
  | .name => 141
  | .perm => 131
  | .offset => 159
  | .count => 131
  | .data => 168
  | .stat => 241
/-- The function that leads to a field. -/
def Fld.ka : Fld → Nat
  | .msize => 75
  | .afid => 76
  | .fid => 77
  | .newfid => 78
  | .iounit => 79
  | .perm => 80
  | .count => 81
  | .version => 83
  | .uname => 84
  | .aname => 85
  | .ename => 86
  | .name => 87
  | _ => 0
def Fld.wordS : Fld → ByteArray
  | .msize => ⟨#[109, 115, 105, 122, 101]⟩
  | .version => ⟨#[118, 101, 114, 115, 105, 111, 110]⟩
  | .afid => ⟨#[97, 102, 105, 100]⟩
  | .uname => ⟨#[117, 110, 97, 109, 101]⟩
  | .aname => ⟨#[97, 110, 97, 109, 101]⟩
  | .ename => ⟨#[101, 110, 97, 109, 101]⟩
  | .oldtag => ⟨#[111, 108, 100, 116, 97, 103]⟩
  | .fid => ⟨#[102, 105, 100]⟩
  | .newfid => ⟨#[110, 101, 119, 102, 105, 100]⟩
  | .names => ⟨#[110, 97, 109, 101, 115]⟩
  | .qids => ⟨#[113, 105, 100, 115]⟩
  | .qid => ⟨#[113, 105, 100]⟩
  | .mode => ⟨#[109, 111, 100, 101]⟩
  | .iounit => ⟨#[105, 111, 117, 110, 105, 116]⟩
  | .name => ⟨#[110, 97, 109, 101]⟩
  | .perm => ⟨#[112, 101, 114, 109]⟩
  | .offset => ⟨#[111, 102, 102, 115, 101, 116]⟩
  | .count => ⟨#[99, 111, 117, 110, 116]⟩
  | .data => ⟨#[100, 97, 116, 97]⟩
  | .stat => ⟨#[115, 116, 97, 116]⟩
theorem wordS_eq (f : Fld) : f.wordS = ofL f.word := by cases f <;> rfl
/-- Is a field one of four bytes, or a text? Its functions have captured the way to it. -/
def Fld.far : Fld → Bool
  | .msize | .afid | .fid | .newfid | .iounit | .perm | .count | .version | .uname | .aname | .ename | .name => true
  | _ => false
def Fld.cap (f : Fld) (b : Nat) : Array Value := if f.far then cap1 b else #[]
def Fld.gcap (f : Fld) (b : Nat) : Array Value := if f.isText then cap1 b else #[]
abbrev fldL (f : Fld) (b : Nat) : List Value := [.string f.wordS, fv f.kg (f.gcap b), fv f.kp (f.cap b), fv f.kt (f.cap b), fv f.km (f.cap b), fv f.kr (f.cap b), fv f.ks (f.cap b)]
abbrev fldZ : List Value := [.string ⟨#[]⟩, .nilFunc, .nilFunc, .nilFunc, .nilFunc, .nilFunc, .nilFunc]
/-- What a field's functions have captured. -/
def FCap (w : World) (f : Fld) (b : Nat) : Prop := (f.isText = true → Blk w b 138 #[fv f.ka #[]]) ∧ (f.far = true → f.isText = false → Blk w b 135 #[fv f.ka #[]])
theorem fld_size : (Tryz.prog.info? 90).map (·.size) = some 7 := by kernel_rfl
theorem over_fld (a b c d e f g : Value) : over fldZ.toArray 0 [a, b, c, d, e, f, g] = #[a, b, c, d, e, f, g] := by kernel_rfl
theorem results_fld {fn : Func} {tmps : Array Value} {w : World} {q i : Nat} {l : List Value} (hr : fn.results = #[.cell i 90]) (hl : l.length = 7) (h2 : tmps.getD i undef = .pointer (some ⟨q, 0, none⟩)) (hk : Blk w q 90 l.toArray) :
    (results fn tmps).run Tryz.prog w = .ok (.agg l.toArray) w := by
  have h2' : tmps[i]?.getD undef = .pointer (some ⟨q, 0, none⟩) := by simpa using h2
  have hl7 : (loadVar 90 ⟨q, 0, none⟩).run Tryz.prog w = .ok (.agg l.toArray) w :=
    run_loadVar_mid w q 0 90 l _ (Blk.range hk 0 l (by simp)) Tryz.underlying90 rfl (by rw [hl]; exact fld_size)
  simp [results, hr, h2', asAddr, hl7]
theorem fld_cells (s : ByteArray) (a b c d e f : Nat) (x y : Array Value) : ([Value.string s, fv a x, fv b y, fv c y, fv d y, fv e y, fv f y] : List Value).toArray.all (·.oneCell') = true := by simp [Value.oneCell']

set_option maxRecDepth 100000 in
set_option maxHeartbeats 1600000 in
theorem number32F_calls (s : ByteArray) (k : Nat) (w : World) :
    Calls Tryz.prog 74 #[.string s, fv k #[]] w fun e w' => e = .returned (.agg #[.string s, fv 126 #[], fv 127 (cap1 w.heap.size), fv 128 (cap1 w.heap.size), fv 129 (cap1 w.heap.size), fv 130 (cap1 w.heap.size), fv 131 (cap1 w.heap.size)]) ∧ Below w.heap.size w w' ∧ Blk w' w.heap.size 135 #[fv k #[]] := by
  have hmf : ∀ (fn : Fn) (first cap : Array Value) (w : World), (Instr.makeFunc fn first cap).run Tryz.prog w = .ok (.func fn first cap) w := fun _ _ _ _ => rfl
  go_enter Tryz.func74, Tryz.ntmps74
  go_upto_region 1 with (fail)
  have HC := Lib.hid ((Blk.new w 135 #[fv k #[]]).alloc (.cells fldZ.toArray 90))
  have HN := Lib.hid (show Blk ((w.alloc (.cells #[fv k #[]] 135)).alloc (.cells fldZ.toArray 90)) (w.heap.size + 1) 90 fldZ.toArray from by
    have h := Blk.new (w.alloc (.cells #[fv k #[]] 135)) 90 fldZ.toArray
    rw [World.size_alloc] at h
    exact h)
  have HB := Lib.hid (((Below.refl w.heap.size w).alloc (Nat.le_refl _) (.cells #[fv k #[]] 135)).alloc (by simp) (.cells fldZ.toArray 90))
  change Code.wp _ _ _ _ ((w.alloc (.cells #[fv k #[]] 135)).alloc (.cells fldZ.toArray 90))
  generalize (w.alloc (.cells #[fv k #[]] 135)).alloc (.cells fldZ.toArray 90) = w1 at HC HN HB ⊢
  have HCL := Lib.hid (show ([.string s, fv 126 #[], fv 127 (cap1 w.heap.size), fv 128 (cap1 w.heap.size), fv 129 (cap1 w.heap.size), fv 130 (cap1 w.heap.size), fv 131 (cap1 w.heap.size)] : List Value).toArray.all (·.oneCell') = true from by simp [Value.oneCell'])
  go_wp2_with (refine wstK HN.out 0 [.string s, fv 126 #[], fv 127 (cap1 w.heap.size), fv 128 (cap1 w.heap.size), fv 129 (cap1 w.heap.size), fv 130 (cap1 w.heap.size), fv 131 (cap1 w.heap.size)] _ (over_fld _ _ _ _ _ _ _) (Nat.le_refl 7) HCL.out rfl _ _ _ rfl rfl rfl fld_size ?_; intro w2 hs ho; have HX := Lib.hid hs; have HO := Lib.hid (ho (fun i => i = w.heap.size + 1) rfl w1 (Off.refl _ _)); clear hs ho)
  refine bodyPost_ret (results_fld rfl rfl rfl HX.out) rfl ⟨rfl, HB.out.trans (HO.out.below (fun i hi => by omega) HB.out.size), HO.out.blk HC.out (by omega)⟩
set_option maxRecDepth 100000 in
set_option maxHeartbeats 1600000 in
theorem textF_calls (s : ByteArray) (k : Nat) (w : World) :
    Calls Tryz.prog 82 #[.string s, fv k #[]] w fun e w' => e = .returned (.agg #[.string s, fv 132 (cap1 w.heap.size), fv 134 (cap1 w.heap.size), fv 136 (cap1 w.heap.size), fv 138 (cap1 w.heap.size), fv 139 (cap1 w.heap.size), fv 141 (cap1 w.heap.size)]) ∧ Below w.heap.size w w' ∧ Blk w' w.heap.size 138 #[fv k #[]] := by
  have hmf : ∀ (fn : Fn) (first cap : Array Value) (w : World), (Instr.makeFunc fn first cap).run Tryz.prog w = .ok (.func fn first cap) w := fun _ _ _ _ => rfl
  go_enter Tryz.func82, Tryz.ntmps82
  go_upto_region 1 with (fail)
  have HC := Lib.hid ((Blk.new w 138 #[fv k #[]]).alloc (.cells fldZ.toArray 90))
  have HN := Lib.hid (show Blk ((w.alloc (.cells #[fv k #[]] 138)).alloc (.cells fldZ.toArray 90)) (w.heap.size + 1) 90 fldZ.toArray from by
    have h := Blk.new (w.alloc (.cells #[fv k #[]] 138)) 90 fldZ.toArray
    rw [World.size_alloc] at h
    exact h)
  have HB := Lib.hid (((Below.refl w.heap.size w).alloc (Nat.le_refl _) (.cells #[fv k #[]] 138)).alloc (by simp) (.cells fldZ.toArray 90))
  change Code.wp _ _ _ _ ((w.alloc (.cells #[fv k #[]] 138)).alloc (.cells fldZ.toArray 90))
  generalize (w.alloc (.cells #[fv k #[]] 138)).alloc (.cells fldZ.toArray 90) = w1 at HC HN HB ⊢
  have HCL := Lib.hid (show ([.string s, fv 132 (cap1 w.heap.size), fv 134 (cap1 w.heap.size), fv 136 (cap1 w.heap.size), fv 138 (cap1 w.heap.size), fv 139 (cap1 w.heap.size), fv 141 (cap1 w.heap.size)] : List Value).toArray.all (·.oneCell') = true from by simp [Value.oneCell'])
  go_wp2_with (refine wstK HN.out 0 [.string s, fv 132 (cap1 w.heap.size), fv 134 (cap1 w.heap.size), fv 136 (cap1 w.heap.size), fv 138 (cap1 w.heap.size), fv 139 (cap1 w.heap.size), fv 141 (cap1 w.heap.size)] _ (over_fld _ _ _ _ _ _ _) (Nat.le_refl 7) HCL.out rfl _ _ _ rfl rfl rfl fld_size ?_; intro w2 hs ho; have HX := Lib.hid hs; have HO := Lib.hid (ho (fun i => i = w.heap.size + 1) rfl w1 (Off.refl _ _)); clear hs ho)
  refine bodyPost_ret (results_fld rfl rfl rfl HX.out) rfl ⟨rfl, HB.out.trans (HO.out.below (fun i hi => by omega) HB.out.size), HO.out.blk HC.out (by omega)⟩
set_option maxRecDepth 100000 in
set_option maxHeartbeats 1600000 in
theorem listField_names (w : World) : Calls Tryz.prog 179 #[.int .u8 9] w fun e w' => e = .returned (.agg #[.string ⟨#[110, 97, 109, 101, 115]⟩, fv 207 #[], fv 210 #[], fv 212 #[], fv 214 #[], fv 216 #[], fv 218 #[]]) ∧ Below w.heap.size w w' := by
  have hmf : ∀ (fn : Fn) (first cap : Array Value) (w : World), (Instr.makeFunc fn first cap).run Tryz.prog w = .ok (.func fn first cap) w := fun _ _ _ _ => rfl
  have HN := Lib.hid (Blk.new w 90 fldZ.toArray)
  have HB := Lib.hid ((Below.refl w.heap.size w).alloc (Nat.le_refl _) (.cells fldZ.toArray 90))
  have HCL := Lib.hid (show ([.string ⟨#[110, 97, 109, 101, 115]⟩, fv 207 #[], fv 210 #[], fv 212 #[], fv 214 #[], fv 216 #[], fv 218 #[]] : List Value).toArray.all (·.oneCell') = true from by simp [Value.oneCell'])
  go_enter Tryz.func179, Tryz.ntmps179
  go_upto_region 1 with (fail)
  change Code.wp _ _ _ _ (w.alloc (.cells fldZ.toArray 90))
  generalize w.alloc (.cells fldZ.toArray 90) = w1 at HN HB ⊢
  go_wp2_with (refine wstK HN.out 0 [.string ⟨#[110, 97, 109, 101, 115]⟩, fv 207 #[], fv 210 #[], fv 212 #[], fv 214 #[], fv 216 #[], fv 218 #[]] _ (over_fld _ _ _ _ _ _ _) (Nat.le_refl 7) HCL.out rfl _ _ _ rfl rfl rfl fld_size ?_; intro w2 hs ho; have HX := Lib.hid hs; have HO := Lib.hid (ho (fun i => i = w.heap.size) rfl w1 (Off.refl _ _)); clear hs ho)
  exact bodyPost_ret (results_fld rfl rfl rfl HX.out) rfl ⟨rfl, HB.out.trans (HO.out.below (fun i hi => by omega) HB.out.size)⟩
set_option maxRecDepth 100000 in
set_option maxHeartbeats 1600000 in
theorem listField_qids (w : World) : Calls Tryz.prog 179 #[.int .u8 10] w fun e w' => e = .returned (.agg #[.string ⟨#[113, 105, 100, 115]⟩, fv 220 #[], fv 221 #[], fv 224 #[], fv 227 #[], fv 229 #[], fv 231 #[]]) ∧ Below w.heap.size w w' := by
  have hmf : ∀ (fn : Fn) (first cap : Array Value) (w : World), (Instr.makeFunc fn first cap).run Tryz.prog w = .ok (.func fn first cap) w := fun _ _ _ _ => rfl
  have HN := Lib.hid (Blk.new w 90 fldZ.toArray)
  have HB := Lib.hid ((Below.refl w.heap.size w).alloc (Nat.le_refl _) (.cells fldZ.toArray 90))
  have HCL := Lib.hid (show ([.string ⟨#[113, 105, 100, 115]⟩, fv 220 #[], fv 221 #[], fv 224 #[], fv 227 #[], fv 229 #[], fv 231 #[]] : List Value).toArray.all (·.oneCell') = true from by simp [Value.oneCell'])
  go_enter Tryz.func179, Tryz.ntmps179
  go_upto_region 1 with (fail)
  change Code.wp _ _ _ _ (w.alloc (.cells fldZ.toArray 90))
  generalize w.alloc (.cells fldZ.toArray 90) = w1 at HN HB ⊢
  go_wp2_with (refine wstK HN.out 0 [.string ⟨#[113, 105, 100, 115]⟩, fv 220 #[], fv 221 #[], fv 224 #[], fv 227 #[], fv 229 #[], fv 231 #[]] _ (over_fld _ _ _ _ _ _ _) (Nat.le_refl 7) HCL.out rfl _ _ _ rfl rfl rfl fld_size ?_; intro w2 hs ho; have HX := Lib.hid hs; have HO := Lib.hid (ho (fun i => i = w.heap.size) rfl w1 (Off.refl _ _)); clear hs ho)
  exact bodyPost_ret (results_fld rfl rfl rfl HX.out) rfl ⟨rfl, HB.out.trans (HO.out.below (fun i hi => by omega) HB.out.size)⟩
set_option maxRecDepth 100000 in
set_option maxHeartbeats 1600000 in
theorem listField_stat (w : World) : Calls Tryz.prog 179 #[.int .u8 19] w fun e w' => e = .returned (.agg #[.string ⟨#[115, 116, 97, 116]⟩, fv 233 #[], fv 234 #[], fv 236 #[], fv 238 #[], fv 239 #[], fv 241 #[]]) ∧ Below w.heap.size w w' := by
  have hmf : ∀ (fn : Fn) (first cap : Array Value) (w : World), (Instr.makeFunc fn first cap).run Tryz.prog w = .ok (.func fn first cap) w := fun _ _ _ _ => rfl
  have HN := Lib.hid (Blk.new w 90 fldZ.toArray)
  have HB := Lib.hid ((Below.refl w.heap.size w).alloc (Nat.le_refl _) (.cells fldZ.toArray 90))
  have HCL := Lib.hid (show ([.string ⟨#[115, 116, 97, 116]⟩, fv 233 #[], fv 234 #[], fv 236 #[], fv 238 #[], fv 239 #[], fv 241 #[]] : List Value).toArray.all (·.oneCell') = true from by simp [Value.oneCell'])
  go_enter Tryz.func179, Tryz.ntmps179
  go_upto_region 1 with (fail)
  change Code.wp _ _ _ _ (w.alloc (.cells fldZ.toArray 90))
  generalize w.alloc (.cells fldZ.toArray 90) = w1 at HN HB ⊢
  go_wp2_with (refine wstK HN.out 0 [.string ⟨#[115, 116, 97, 116]⟩, fv 233 #[], fv 234 #[], fv 236 #[], fv 238 #[], fv 239 #[], fv 241 #[]] _ (over_fld _ _ _ _ _ _ _) (Nat.le_refl 7) HCL.out rfl _ _ _ rfl rfl rfl fld_size ?_; intro w2 hs ho; have HX := Lib.hid hs; have HO := Lib.hid (ho (fun i => i = w.heap.size) rfl w1 (Off.refl _ _)); clear hs ho)
  exact bodyPost_ret (results_fld rfl rfl rfl HX.out) rfl ⟨rfl, HB.out.trans (HO.out.below (fun i hi => by omega) HB.out.size)⟩
set_option maxRecDepth 100000 in
set_option maxHeartbeats 1600000 in
theorem otherField_oldtag (w : World) : Calls Tryz.prog 88 #[.int .u8 6] w fun e w' => e = .returned (.agg #[.string ⟨#[111, 108, 100, 116, 97, 103]⟩, fv 126 #[], fv 143 #[], fv 144 #[], fv 145 #[], fv 146 #[], fv 147 #[]]) ∧ Below w.heap.size w w' := by
  have hmf : ∀ (fn : Fn) (first cap : Array Value) (w : World), (Instr.makeFunc fn first cap).run Tryz.prog w = .ok (.func fn first cap) w := fun _ _ _ _ => rfl
  have HN := Lib.hid (Blk.new w 90 fldZ.toArray)
  have HB := Lib.hid ((Below.refl w.heap.size w).alloc (Nat.le_refl _) (.cells fldZ.toArray 90))
  have HCL := Lib.hid (show ([.string ⟨#[111, 108, 100, 116, 97, 103]⟩, fv 126 #[], fv 143 #[], fv 144 #[], fv 145 #[], fv 146 #[], fv 147 #[]] : List Value).toArray.all (·.oneCell') = true from by simp [Value.oneCell'])
  go_enter Tryz.func88, Tryz.ntmps88
  go_upto_region 1 with (fail)
  change Code.wp _ _ _ _ (w.alloc (.cells fldZ.toArray 90))
  generalize w.alloc (.cells fldZ.toArray 90) = w1 at HN HB ⊢
  go_wp2_with (refine wstK HN.out 0 [.string ⟨#[111, 108, 100, 116, 97, 103]⟩, fv 126 #[], fv 143 #[], fv 144 #[], fv 145 #[], fv 146 #[], fv 147 #[]] _ (over_fld _ _ _ _ _ _ _) (Nat.le_refl 7) HCL.out rfl _ _ _ rfl rfl rfl fld_size ?_; intro w2 hs ho; have HX := Lib.hid hs; have HO := Lib.hid (ho (fun i => i = w.heap.size) rfl w1 (Off.refl _ _)); clear hs ho)
  exact bodyPost_ret (results_fld rfl rfl rfl HX.out) rfl ⟨rfl, HB.out.trans (HO.out.below (fun i hi => by omega) HB.out.size)⟩
set_option maxRecDepth 100000 in
set_option maxHeartbeats 1600000 in
theorem otherField_mode (w : World) : Calls Tryz.prog 88 #[.int .u8 12] w fun e w' => e = .returned (.agg #[.string ⟨#[109, 111, 100, 101]⟩, fv 126 #[], fv 148 #[], fv 149 #[], fv 150 #[], fv 151 #[], fv 152 #[]]) ∧ Below w.heap.size w w' := by
  have hmf : ∀ (fn : Fn) (first cap : Array Value) (w : World), (Instr.makeFunc fn first cap).run Tryz.prog w = .ok (.func fn first cap) w := fun _ _ _ _ => rfl
  have HN := Lib.hid (Blk.new w 90 fldZ.toArray)
  have HB := Lib.hid ((Below.refl w.heap.size w).alloc (Nat.le_refl _) (.cells fldZ.toArray 90))
  have HCL := Lib.hid (show ([.string ⟨#[109, 111, 100, 101]⟩, fv 126 #[], fv 148 #[], fv 149 #[], fv 150 #[], fv 151 #[], fv 152 #[]] : List Value).toArray.all (·.oneCell') = true from by simp [Value.oneCell'])
  go_enter Tryz.func88, Tryz.ntmps88
  go_upto_region 1 with (fail)
  change Code.wp _ _ _ _ (w.alloc (.cells fldZ.toArray 90))
  generalize w.alloc (.cells fldZ.toArray 90) = w1 at HN HB ⊢
  go_wp2_with (refine wstK HN.out 0 [.string ⟨#[109, 111, 100, 101]⟩, fv 126 #[], fv 148 #[], fv 149 #[], fv 150 #[], fv 151 #[], fv 152 #[]] _ (over_fld _ _ _ _ _ _ _) (Nat.le_refl 7) HCL.out rfl _ _ _ rfl rfl rfl fld_size ?_; intro w2 hs ho; have HX := Lib.hid hs; have HO := Lib.hid (ho (fun i => i = w.heap.size) rfl w1 (Off.refl _ _)); clear hs ho)
  exact bodyPost_ret (results_fld rfl rfl rfl HX.out) rfl ⟨rfl, HB.out.trans (HO.out.below (fun i hi => by omega) HB.out.size)⟩
set_option maxRecDepth 100000 in
set_option maxHeartbeats 1600000 in
theorem otherField_offset (w : World) : Calls Tryz.prog 88 #[.int .u8 16] w fun e w' => e = .returned (.agg #[.string ⟨#[111, 102, 102, 115, 101, 116]⟩, fv 126 #[], fv 153 #[], fv 155 #[], fv 157 #[], fv 158 #[], fv 159 #[]]) ∧ Below w.heap.size w w' := by
  have hmf : ∀ (fn : Fn) (first cap : Array Value) (w : World), (Instr.makeFunc fn first cap).run Tryz.prog w = .ok (.func fn first cap) w := fun _ _ _ _ => rfl
  have HN := Lib.hid (Blk.new w 90 fldZ.toArray)
  have HB := Lib.hid ((Below.refl w.heap.size w).alloc (Nat.le_refl _) (.cells fldZ.toArray 90))
  have HCL := Lib.hid (show ([.string ⟨#[111, 102, 102, 115, 101, 116]⟩, fv 126 #[], fv 153 #[], fv 155 #[], fv 157 #[], fv 158 #[], fv 159 #[]] : List Value).toArray.all (·.oneCell') = true from by simp [Value.oneCell'])
  go_enter Tryz.func88, Tryz.ntmps88
  go_upto_region 1 with (fail)
  change Code.wp _ _ _ _ (w.alloc (.cells fldZ.toArray 90))
  generalize w.alloc (.cells fldZ.toArray 90) = w1 at HN HB ⊢
  go_wp2_with (refine wstK HN.out 0 [.string ⟨#[111, 102, 102, 115, 101, 116]⟩, fv 126 #[], fv 153 #[], fv 155 #[], fv 157 #[], fv 158 #[], fv 159 #[]] _ (over_fld _ _ _ _ _ _ _) (Nat.le_refl 7) HCL.out rfl _ _ _ rfl rfl rfl fld_size ?_; intro w2 hs ho; have HX := Lib.hid hs; have HO := Lib.hid (ho (fun i => i = w.heap.size) rfl w1 (Off.refl _ _)); clear hs ho)
  exact bodyPost_ret (results_fld rfl rfl rfl HX.out) rfl ⟨rfl, HB.out.trans (HO.out.below (fun i hi => by omega) HB.out.size)⟩
set_option maxRecDepth 100000 in
set_option maxHeartbeats 1600000 in
theorem otherField_data (w : World) : Calls Tryz.prog 88 #[.int .u8 18] w fun e w' => e = .returned (.agg #[.string ⟨#[100, 97, 116, 97]⟩, fv 126 #[], fv 160 #[], fv 162 #[], fv 164 #[], fv 166 #[], fv 168 #[]]) ∧ Below w.heap.size w w' := by
  have hmf : ∀ (fn : Fn) (first cap : Array Value) (w : World), (Instr.makeFunc fn first cap).run Tryz.prog w = .ok (.func fn first cap) w := fun _ _ _ _ => rfl
  have HN := Lib.hid (Blk.new w 90 fldZ.toArray)
  have HB := Lib.hid ((Below.refl w.heap.size w).alloc (Nat.le_refl _) (.cells fldZ.toArray 90))
  have HCL := Lib.hid (show ([.string ⟨#[100, 97, 116, 97]⟩, fv 126 #[], fv 160 #[], fv 162 #[], fv 164 #[], fv 166 #[], fv 168 #[]] : List Value).toArray.all (·.oneCell') = true from by simp [Value.oneCell'])
  go_enter Tryz.func88, Tryz.ntmps88
  go_upto_region 1 with (fail)
  change Code.wp _ _ _ _ (w.alloc (.cells fldZ.toArray 90))
  generalize w.alloc (.cells fldZ.toArray 90) = w1 at HN HB ⊢
  go_wp2_with (refine wstK HN.out 0 [.string ⟨#[100, 97, 116, 97]⟩, fv 126 #[], fv 160 #[], fv 162 #[], fv 164 #[], fv 166 #[], fv 168 #[]] _ (over_fld _ _ _ _ _ _ _) (Nat.le_refl 7) HCL.out rfl _ _ _ rfl rfl rfl fld_size ?_; intro w2 hs ho; have HX := Lib.hid hs; have HO := Lib.hid (ho (fun i => i = w.heap.size) rfl w1 (Off.refl _ _)); clear hs ho)
  exact bodyPost_ret (results_fld rfl rfl rfl HX.out) rfl ⟨rfl, HB.out.trans (HO.out.below (fun i hi => by omega) HB.out.size)⟩
set_option maxRecDepth 100000 in
set_option maxHeartbeats 1600000 in
theorem otherField_qid (w : World) : Calls Tryz.prog 88 #[.int .u8 11] w fun e w' => e = .returned (.agg #[.string ⟨#[113, 105, 100]⟩, fv 126 #[], fv 170 #[], fv 172 #[], fv 174 #[], fv 175 #[], fv 177 #[]]) ∧ Below w.heap.size w w' := by
  have hmf : ∀ (fn : Fn) (first cap : Array Value) (w : World), (Instr.makeFunc fn first cap).run Tryz.prog w = .ok (.func fn first cap) w := fun _ _ _ _ => rfl
  have HN := Lib.hid (Blk.new w 90 fldZ.toArray)
  have HB := Lib.hid ((Below.refl w.heap.size w).alloc (Nat.le_refl _) (.cells fldZ.toArray 90))
  have HCL := Lib.hid (show ([.string ⟨#[113, 105, 100]⟩, fv 126 #[], fv 170 #[], fv 172 #[], fv 174 #[], fv 175 #[], fv 177 #[]] : List Value).toArray.all (·.oneCell') = true from by simp [Value.oneCell'])
  go_enter Tryz.func88, Tryz.ntmps88
  go_upto_region 1 with (fail)
  change Code.wp _ _ _ _ (w.alloc (.cells fldZ.toArray 90))
  generalize w.alloc (.cells fldZ.toArray 90) = w1 at HN HB ⊢
  go_wp2_with (refine wstK HN.out 0 [.string ⟨#[113, 105, 100]⟩, fv 126 #[], fv 170 #[], fv 172 #[], fv 174 #[], fv 175 #[], fv 177 #[]] _ (over_fld _ _ _ _ _ _ _) (Nat.le_refl 7) HCL.out rfl _ _ _ rfl rfl rfl fld_size ?_; intro w2 hs ho; have HX := Lib.hid hs; have HO := Lib.hid (ho (fun i => i = w.heap.size) rfl w1 (Off.refl _ _)); clear hs ho)
  exact bodyPost_ret (results_fld rfl rfl rfl HX.out) rfl ⟨rfl, HB.out.trans (HO.out.below (fun i hi => by omega) HB.out.size)⟩
set_option maxRecDepth 100000 in
set_option maxHeartbeats 1600000 in
theorem otherField_names (w : World) : Calls Tryz.prog 88 #[.int .u8 9] w fun e w' => e = .returned (.agg #[.string ⟨#[110, 97, 109, 101, 115]⟩, fv 207 #[], fv 210 #[], fv 212 #[], fv 214 #[], fv 216 #[], fv 218 #[]]) ∧ Below w.heap.size w w' := by
  have hmf : ∀ (fn : Fn) (first cap : Array Value) (w : World), (Instr.makeFunc fn first cap).run Tryz.prog w = .ok (.func fn first cap) w := fun _ _ _ _ => rfl
  have HN := Lib.hid (Blk.new w 90 fldZ.toArray)
  have HB := Lib.hid ((Below.refl w.heap.size w).alloc (Nat.le_refl _) (.cells fldZ.toArray 90))
  have hsz : (w.alloc (.cells fldZ.toArray 90)).heap.size = w.heap.size + 1 := World.size_alloc _ _
  go_enter Tryz.func88, Tryz.ntmps88
  go_upto_region 1 with (fail)
  change Code.wp _ _ _ _ (w.alloc (.cells fldZ.toArray 90))
  generalize w.alloc (.cells fldZ.toArray 90) = w1 at HN HB hsz ⊢
  go_wp2_with fail
  refine (listField_names w1).mono ?_
  rintro e w2 ⟨rfl, hb⟩
  have HN2 := Lib.hid (HN.out.below hb (by omega))
  have HB2 := Lib.hid (HB.out.trans (hb.mono (by omega)))
  have hs2 : w.heap.size + 1 ≤ w2.heap.size := by have := hb.size; omega
  clear hb HN HB
  have HCL := Lib.hid (show ([.string ⟨#[110, 97, 109, 101, 115]⟩, fv 207 #[], fv 210 #[], fv 212 #[], fv 214 #[], fv 216 #[], fv 218 #[]] : List Value).toArray.all (·.oneCell') = true from by simp [Value.oneCell'])
  go_wp2_with (refine wstK HN2.out 0 [.string ⟨#[110, 97, 109, 101, 115]⟩, fv 207 #[], fv 210 #[], fv 212 #[], fv 214 #[], fv 216 #[], fv 218 #[]] _ (over_fld _ _ _ _ _ _ _) (Nat.le_refl 7) HCL.out rfl _ _ _ rfl rfl rfl fld_size ?_; intro w3 hs ho; have HX := Lib.hid hs; have HO := Lib.hid (ho (fun i => i = w.heap.size) rfl w2 (Off.refl _ _)); clear hs ho)
  have hend := HB2.out.trans (HO.out.below (B := w.heap.size) (fun i hi => by omega) (by omega))
  exact bodyPost_ret (results_fld rfl rfl rfl HX.out) rfl ⟨rfl, hend⟩
set_option maxRecDepth 100000 in
set_option maxHeartbeats 1600000 in
theorem otherField_qids (w : World) : Calls Tryz.prog 88 #[.int .u8 10] w fun e w' => e = .returned (.agg #[.string ⟨#[113, 105, 100, 115]⟩, fv 220 #[], fv 221 #[], fv 224 #[], fv 227 #[], fv 229 #[], fv 231 #[]]) ∧ Below w.heap.size w w' := by
  have hmf : ∀ (fn : Fn) (first cap : Array Value) (w : World), (Instr.makeFunc fn first cap).run Tryz.prog w = .ok (.func fn first cap) w := fun _ _ _ _ => rfl
  have HN := Lib.hid (Blk.new w 90 fldZ.toArray)
  have HB := Lib.hid ((Below.refl w.heap.size w).alloc (Nat.le_refl _) (.cells fldZ.toArray 90))
  have hsz : (w.alloc (.cells fldZ.toArray 90)).heap.size = w.heap.size + 1 := World.size_alloc _ _
  go_enter Tryz.func88, Tryz.ntmps88
  go_upto_region 1 with (fail)
  change Code.wp _ _ _ _ (w.alloc (.cells fldZ.toArray 90))
  generalize w.alloc (.cells fldZ.toArray 90) = w1 at HN HB hsz ⊢
  go_wp2_with fail
  refine (listField_qids w1).mono ?_
  rintro e w2 ⟨rfl, hb⟩
  have HN2 := Lib.hid (HN.out.below hb (by omega))
  have HB2 := Lib.hid (HB.out.trans (hb.mono (by omega)))
  have hs2 : w.heap.size + 1 ≤ w2.heap.size := by have := hb.size; omega
  clear hb HN HB
  have HCL := Lib.hid (show ([.string ⟨#[113, 105, 100, 115]⟩, fv 220 #[], fv 221 #[], fv 224 #[], fv 227 #[], fv 229 #[], fv 231 #[]] : List Value).toArray.all (·.oneCell') = true from by simp [Value.oneCell'])
  go_wp2_with (refine wstK HN2.out 0 [.string ⟨#[113, 105, 100, 115]⟩, fv 220 #[], fv 221 #[], fv 224 #[], fv 227 #[], fv 229 #[], fv 231 #[]] _ (over_fld _ _ _ _ _ _ _) (Nat.le_refl 7) HCL.out rfl _ _ _ rfl rfl rfl fld_size ?_; intro w3 hs ho; have HX := Lib.hid hs; have HO := Lib.hid (ho (fun i => i = w.heap.size) rfl w2 (Off.refl _ _)); clear hs ho)
  have hend := HB2.out.trans (HO.out.below (B := w.heap.size) (fun i hi => by omega) (by omega))
  exact bodyPost_ret (results_fld rfl rfl rfl HX.out) rfl ⟨rfl, hend⟩
set_option maxRecDepth 100000 in
set_option maxHeartbeats 1600000 in
theorem otherField_stat (w : World) : Calls Tryz.prog 88 #[.int .u8 19] w fun e w' => e = .returned (.agg #[.string ⟨#[115, 116, 97, 116]⟩, fv 233 #[], fv 234 #[], fv 236 #[], fv 238 #[], fv 239 #[], fv 241 #[]]) ∧ Below w.heap.size w w' := by
  have hmf : ∀ (fn : Fn) (first cap : Array Value) (w : World), (Instr.makeFunc fn first cap).run Tryz.prog w = .ok (.func fn first cap) w := fun _ _ _ _ => rfl
  have HN := Lib.hid (Blk.new w 90 fldZ.toArray)
  have HB := Lib.hid ((Below.refl w.heap.size w).alloc (Nat.le_refl _) (.cells fldZ.toArray 90))
  have hsz : (w.alloc (.cells fldZ.toArray 90)).heap.size = w.heap.size + 1 := World.size_alloc _ _
  go_enter Tryz.func88, Tryz.ntmps88
  go_upto_region 1 with (fail)
  change Code.wp _ _ _ _ (w.alloc (.cells fldZ.toArray 90))
  generalize w.alloc (.cells fldZ.toArray 90) = w1 at HN HB hsz ⊢
  go_wp2_with fail
  refine (listField_stat w1).mono ?_
  rintro e w2 ⟨rfl, hb⟩
  have HN2 := Lib.hid (HN.out.below hb (by omega))
  have HB2 := Lib.hid (HB.out.trans (hb.mono (by omega)))
  have hs2 : w.heap.size + 1 ≤ w2.heap.size := by have := hb.size; omega
  clear hb HN HB
  have HCL := Lib.hid (show ([.string ⟨#[115, 116, 97, 116]⟩, fv 233 #[], fv 234 #[], fv 236 #[], fv 238 #[], fv 239 #[], fv 241 #[]] : List Value).toArray.all (·.oneCell') = true from by simp [Value.oneCell'])
  go_wp2_with (refine wstK HN2.out 0 [.string ⟨#[115, 116, 97, 116]⟩, fv 233 #[], fv 234 #[], fv 236 #[], fv 238 #[], fv 239 #[], fv 241 #[]] _ (over_fld _ _ _ _ _ _ _) (Nat.le_refl 7) HCL.out rfl _ _ _ rfl rfl rfl fld_size ?_; intro w3 hs ho; have HX := Lib.hid hs; have HO := Lib.hid (ho (fun i => i = w.heap.size) rfl w2 (Off.refl _ _)); clear hs ho)
  have hend := HB2.out.trans (HO.out.below (B := w.heap.size) (fun i hi => by omega) (by omega))
  exact bodyPost_ret (results_fld rfl rfl rfl HX.out) rfl ⟨rfl, hend⟩
set_option maxRecDepth 100000 in
set_option maxHeartbeats 1600000 in
theorem fieldOf_oldtag (w : World) : Calls Tryz.prog 44 #[.int .u8 6] w fun e w' => e = .returned (.agg #[.string ⟨#[111, 108, 100, 116, 97, 103]⟩, fv 126 #[], fv 143 #[], fv 144 #[], fv 145 #[], fv 146 #[], fv 147 #[]]) ∧ Below w.heap.size w w' := by
  have hmf : ∀ (fn : Fn) (first cap : Array Value) (w : World), (Instr.makeFunc fn first cap).run Tryz.prog w = .ok (.func fn first cap) w := fun _ _ _ _ => rfl
  have HN := Lib.hid (Blk.new w 90 fldZ.toArray)
  have HB := Lib.hid ((Below.refl w.heap.size w).alloc (Nat.le_refl _) (.cells fldZ.toArray 90))
  have hsz : (w.alloc (.cells fldZ.toArray 90)).heap.size = w.heap.size + 1 := World.size_alloc _ _
  go_enter Tryz.func44, Tryz.ntmps44
  go_upto_region 1 with (fail)
  change Code.wp _ _ _ _ (w.alloc (.cells fldZ.toArray 90))
  generalize w.alloc (.cells fldZ.toArray 90) = w1 at HN HB hsz ⊢
  go_wp2_with fail
  refine (otherField_oldtag w1).mono ?_
  rintro e w2 ⟨rfl, hb⟩
  have HN2 := Lib.hid (HN.out.below hb (by omega))
  have HB2 := Lib.hid (HB.out.trans (hb.mono (by omega)))
  have hs2 : w.heap.size + 1 ≤ w2.heap.size := by have := hb.size; omega
  clear hb HN HB
  have HCL := Lib.hid (show ([.string ⟨#[111, 108, 100, 116, 97, 103]⟩, fv 126 #[], fv 143 #[], fv 144 #[], fv 145 #[], fv 146 #[], fv 147 #[]] : List Value).toArray.all (·.oneCell') = true from by simp [Value.oneCell'])
  go_wp2_with (refine wstK HN2.out 0 [.string ⟨#[111, 108, 100, 116, 97, 103]⟩, fv 126 #[], fv 143 #[], fv 144 #[], fv 145 #[], fv 146 #[], fv 147 #[]] _ (over_fld _ _ _ _ _ _ _) (Nat.le_refl 7) HCL.out rfl _ _ _ rfl rfl rfl fld_size ?_; intro w3 hs ho; have HX := Lib.hid hs; have HO := Lib.hid (ho (fun i => i = w.heap.size) rfl w2 (Off.refl _ _)); clear hs ho)
  have hend := HB2.out.trans (HO.out.below (B := w.heap.size) (fun i hi => by omega) (by omega))
  exact bodyPost_ret (results_fld rfl rfl rfl HX.out) rfl ⟨rfl, hend⟩
set_option maxRecDepth 100000 in
set_option maxHeartbeats 1600000 in
theorem fieldOf_names (w : World) : Calls Tryz.prog 44 #[.int .u8 9] w fun e w' => e = .returned (.agg #[.string ⟨#[110, 97, 109, 101, 115]⟩, fv 207 #[], fv 210 #[], fv 212 #[], fv 214 #[], fv 216 #[], fv 218 #[]]) ∧ Below w.heap.size w w' := by
  have hmf : ∀ (fn : Fn) (first cap : Array Value) (w : World), (Instr.makeFunc fn first cap).run Tryz.prog w = .ok (.func fn first cap) w := fun _ _ _ _ => rfl
  have HN := Lib.hid (Blk.new w 90 fldZ.toArray)
  have HB := Lib.hid ((Below.refl w.heap.size w).alloc (Nat.le_refl _) (.cells fldZ.toArray 90))
  have hsz : (w.alloc (.cells fldZ.toArray 90)).heap.size = w.heap.size + 1 := World.size_alloc _ _
  go_enter Tryz.func44, Tryz.ntmps44
  go_upto_region 1 with (fail)
  change Code.wp _ _ _ _ (w.alloc (.cells fldZ.toArray 90))
  generalize w.alloc (.cells fldZ.toArray 90) = w1 at HN HB hsz ⊢
  go_wp2_with fail
  refine (otherField_names w1).mono ?_
  rintro e w2 ⟨rfl, hb⟩
  have HN2 := Lib.hid (HN.out.below hb (by omega))
  have HB2 := Lib.hid (HB.out.trans (hb.mono (by omega)))
  have hs2 : w.heap.size + 1 ≤ w2.heap.size := by have := hb.size; omega
  clear hb HN HB
  have HCL := Lib.hid (show ([.string ⟨#[110, 97, 109, 101, 115]⟩, fv 207 #[], fv 210 #[], fv 212 #[], fv 214 #[], fv 216 #[], fv 218 #[]] : List Value).toArray.all (·.oneCell') = true from by simp [Value.oneCell'])
  go_wp2_with (refine wstK HN2.out 0 [.string ⟨#[110, 97, 109, 101, 115]⟩, fv 207 #[], fv 210 #[], fv 212 #[], fv 214 #[], fv 216 #[], fv 218 #[]] _ (over_fld _ _ _ _ _ _ _) (Nat.le_refl 7) HCL.out rfl _ _ _ rfl rfl rfl fld_size ?_; intro w3 hs ho; have HX := Lib.hid hs; have HO := Lib.hid (ho (fun i => i = w.heap.size) rfl w2 (Off.refl _ _)); clear hs ho)
  have hend := HB2.out.trans (HO.out.below (B := w.heap.size) (fun i hi => by omega) (by omega))
  exact bodyPost_ret (results_fld rfl rfl rfl HX.out) rfl ⟨rfl, hend⟩
set_option maxRecDepth 100000 in
set_option maxHeartbeats 1600000 in
theorem fieldOf_qids (w : World) : Calls Tryz.prog 44 #[.int .u8 10] w fun e w' => e = .returned (.agg #[.string ⟨#[113, 105, 100, 115]⟩, fv 220 #[], fv 221 #[], fv 224 #[], fv 227 #[], fv 229 #[], fv 231 #[]]) ∧ Below w.heap.size w w' := by
  have hmf : ∀ (fn : Fn) (first cap : Array Value) (w : World), (Instr.makeFunc fn first cap).run Tryz.prog w = .ok (.func fn first cap) w := fun _ _ _ _ => rfl
  have HN := Lib.hid (Blk.new w 90 fldZ.toArray)
  have HB := Lib.hid ((Below.refl w.heap.size w).alloc (Nat.le_refl _) (.cells fldZ.toArray 90))
  have hsz : (w.alloc (.cells fldZ.toArray 90)).heap.size = w.heap.size + 1 := World.size_alloc _ _
  go_enter Tryz.func44, Tryz.ntmps44
  go_upto_region 1 with (fail)
  change Code.wp _ _ _ _ (w.alloc (.cells fldZ.toArray 90))
  generalize w.alloc (.cells fldZ.toArray 90) = w1 at HN HB hsz ⊢
  go_wp2_with fail
  refine (otherField_qids w1).mono ?_
  rintro e w2 ⟨rfl, hb⟩
  have HN2 := Lib.hid (HN.out.below hb (by omega))
  have HB2 := Lib.hid (HB.out.trans (hb.mono (by omega)))
  have hs2 : w.heap.size + 1 ≤ w2.heap.size := by have := hb.size; omega
  clear hb HN HB
  have HCL := Lib.hid (show ([.string ⟨#[113, 105, 100, 115]⟩, fv 220 #[], fv 221 #[], fv 224 #[], fv 227 #[], fv 229 #[], fv 231 #[]] : List Value).toArray.all (·.oneCell') = true from by simp [Value.oneCell'])
  go_wp2_with (refine wstK HN2.out 0 [.string ⟨#[113, 105, 100, 115]⟩, fv 220 #[], fv 221 #[], fv 224 #[], fv 227 #[], fv 229 #[], fv 231 #[]] _ (over_fld _ _ _ _ _ _ _) (Nat.le_refl 7) HCL.out rfl _ _ _ rfl rfl rfl fld_size ?_; intro w3 hs ho; have HX := Lib.hid hs; have HO := Lib.hid (ho (fun i => i = w.heap.size) rfl w2 (Off.refl _ _)); clear hs ho)
  have hend := HB2.out.trans (HO.out.below (B := w.heap.size) (fun i hi => by omega) (by omega))
  exact bodyPost_ret (results_fld rfl rfl rfl HX.out) rfl ⟨rfl, hend⟩
set_option maxRecDepth 100000 in
set_option maxHeartbeats 1600000 in
theorem fieldOf_qid (w : World) : Calls Tryz.prog 44 #[.int .u8 11] w fun e w' => e = .returned (.agg #[.string ⟨#[113, 105, 100]⟩, fv 126 #[], fv 170 #[], fv 172 #[], fv 174 #[], fv 175 #[], fv 177 #[]]) ∧ Below w.heap.size w w' := by
  have hmf : ∀ (fn : Fn) (first cap : Array Value) (w : World), (Instr.makeFunc fn first cap).run Tryz.prog w = .ok (.func fn first cap) w := fun _ _ _ _ => rfl
  have HN := Lib.hid (Blk.new w 90 fldZ.toArray)
  have HB := Lib.hid ((Below.refl w.heap.size w).alloc (Nat.le_refl _) (.cells fldZ.toArray 90))
  have hsz : (w.alloc (.cells fldZ.toArray 90)).heap.size = w.heap.size + 1 := World.size_alloc _ _
  go_enter Tryz.func44, Tryz.ntmps44
  go_upto_region 1 with (fail)
  change Code.wp _ _ _ _ (w.alloc (.cells fldZ.toArray 90))
  generalize w.alloc (.cells fldZ.toArray 90) = w1 at HN HB hsz ⊢
  go_wp2_with fail
  refine (otherField_qid w1).mono ?_
  rintro e w2 ⟨rfl, hb⟩
  have HN2 := Lib.hid (HN.out.below hb (by omega))
  have HB2 := Lib.hid (HB.out.trans (hb.mono (by omega)))
  have hs2 : w.heap.size + 1 ≤ w2.heap.size := by have := hb.size; omega
  clear hb HN HB
  have HCL := Lib.hid (show ([.string ⟨#[113, 105, 100]⟩, fv 126 #[], fv 170 #[], fv 172 #[], fv 174 #[], fv 175 #[], fv 177 #[]] : List Value).toArray.all (·.oneCell') = true from by simp [Value.oneCell'])
  go_wp2_with (refine wstK HN2.out 0 [.string ⟨#[113, 105, 100]⟩, fv 126 #[], fv 170 #[], fv 172 #[], fv 174 #[], fv 175 #[], fv 177 #[]] _ (over_fld _ _ _ _ _ _ _) (Nat.le_refl 7) HCL.out rfl _ _ _ rfl rfl rfl fld_size ?_; intro w3 hs ho; have HX := Lib.hid hs; have HO := Lib.hid (ho (fun i => i = w.heap.size) rfl w2 (Off.refl _ _)); clear hs ho)
  have hend := HB2.out.trans (HO.out.below (B := w.heap.size) (fun i hi => by omega) (by omega))
  exact bodyPost_ret (results_fld rfl rfl rfl HX.out) rfl ⟨rfl, hend⟩
set_option maxRecDepth 100000 in
set_option maxHeartbeats 1600000 in
theorem fieldOf_mode (w : World) : Calls Tryz.prog 44 #[.int .u8 12] w fun e w' => e = .returned (.agg #[.string ⟨#[109, 111, 100, 101]⟩, fv 126 #[], fv 148 #[], fv 149 #[], fv 150 #[], fv 151 #[], fv 152 #[]]) ∧ Below w.heap.size w w' := by
  have hmf : ∀ (fn : Fn) (first cap : Array Value) (w : World), (Instr.makeFunc fn first cap).run Tryz.prog w = .ok (.func fn first cap) w := fun _ _ _ _ => rfl
  have HN := Lib.hid (Blk.new w 90 fldZ.toArray)
  have HB := Lib.hid ((Below.refl w.heap.size w).alloc (Nat.le_refl _) (.cells fldZ.toArray 90))
  have hsz : (w.alloc (.cells fldZ.toArray 90)).heap.size = w.heap.size + 1 := World.size_alloc _ _
  go_enter Tryz.func44, Tryz.ntmps44
  go_upto_region 1 with (fail)
  change Code.wp _ _ _ _ (w.alloc (.cells fldZ.toArray 90))
  generalize w.alloc (.cells fldZ.toArray 90) = w1 at HN HB hsz ⊢
  go_wp2_with fail
  refine (otherField_mode w1).mono ?_
  rintro e w2 ⟨rfl, hb⟩
  have HN2 := Lib.hid (HN.out.below hb (by omega))
  have HB2 := Lib.hid (HB.out.trans (hb.mono (by omega)))
  have hs2 : w.heap.size + 1 ≤ w2.heap.size := by have := hb.size; omega
  clear hb HN HB
  have HCL := Lib.hid (show ([.string ⟨#[109, 111, 100, 101]⟩, fv 126 #[], fv 148 #[], fv 149 #[], fv 150 #[], fv 151 #[], fv 152 #[]] : List Value).toArray.all (·.oneCell') = true from by simp [Value.oneCell'])
  go_wp2_with (refine wstK HN2.out 0 [.string ⟨#[109, 111, 100, 101]⟩, fv 126 #[], fv 148 #[], fv 149 #[], fv 150 #[], fv 151 #[], fv 152 #[]] _ (over_fld _ _ _ _ _ _ _) (Nat.le_refl 7) HCL.out rfl _ _ _ rfl rfl rfl fld_size ?_; intro w3 hs ho; have HX := Lib.hid hs; have HO := Lib.hid (ho (fun i => i = w.heap.size) rfl w2 (Off.refl _ _)); clear hs ho)
  have hend := HB2.out.trans (HO.out.below (B := w.heap.size) (fun i hi => by omega) (by omega))
  exact bodyPost_ret (results_fld rfl rfl rfl HX.out) rfl ⟨rfl, hend⟩
set_option maxRecDepth 100000 in
set_option maxHeartbeats 1600000 in
theorem fieldOf_offset (w : World) : Calls Tryz.prog 44 #[.int .u8 16] w fun e w' => e = .returned (.agg #[.string ⟨#[111, 102, 102, 115, 101, 116]⟩, fv 126 #[], fv 153 #[], fv 155 #[], fv 157 #[], fv 158 #[], fv 159 #[]]) ∧ Below w.heap.size w w' := by
  have hmf : ∀ (fn : Fn) (first cap : Array Value) (w : World), (Instr.makeFunc fn first cap).run Tryz.prog w = .ok (.func fn first cap) w := fun _ _ _ _ => rfl
  have HN := Lib.hid (Blk.new w 90 fldZ.toArray)
  have HB := Lib.hid ((Below.refl w.heap.size w).alloc (Nat.le_refl _) (.cells fldZ.toArray 90))
  have hsz : (w.alloc (.cells fldZ.toArray 90)).heap.size = w.heap.size + 1 := World.size_alloc _ _
  go_enter Tryz.func44, Tryz.ntmps44
  go_upto_region 1 with (fail)
  change Code.wp _ _ _ _ (w.alloc (.cells fldZ.toArray 90))
  generalize w.alloc (.cells fldZ.toArray 90) = w1 at HN HB hsz ⊢
  go_wp2_with fail
  refine (otherField_offset w1).mono ?_
  rintro e w2 ⟨rfl, hb⟩
  have HN2 := Lib.hid (HN.out.below hb (by omega))
  have HB2 := Lib.hid (HB.out.trans (hb.mono (by omega)))
  have hs2 : w.heap.size + 1 ≤ w2.heap.size := by have := hb.size; omega
  clear hb HN HB
  have HCL := Lib.hid (show ([.string ⟨#[111, 102, 102, 115, 101, 116]⟩, fv 126 #[], fv 153 #[], fv 155 #[], fv 157 #[], fv 158 #[], fv 159 #[]] : List Value).toArray.all (·.oneCell') = true from by simp [Value.oneCell'])
  go_wp2_with (refine wstK HN2.out 0 [.string ⟨#[111, 102, 102, 115, 101, 116]⟩, fv 126 #[], fv 153 #[], fv 155 #[], fv 157 #[], fv 158 #[], fv 159 #[]] _ (over_fld _ _ _ _ _ _ _) (Nat.le_refl 7) HCL.out rfl _ _ _ rfl rfl rfl fld_size ?_; intro w3 hs ho; have HX := Lib.hid hs; have HO := Lib.hid (ho (fun i => i = w.heap.size) rfl w2 (Off.refl _ _)); clear hs ho)
  have hend := HB2.out.trans (HO.out.below (B := w.heap.size) (fun i hi => by omega) (by omega))
  exact bodyPost_ret (results_fld rfl rfl rfl HX.out) rfl ⟨rfl, hend⟩
set_option maxRecDepth 100000 in
set_option maxHeartbeats 1600000 in
theorem fieldOf_data (w : World) : Calls Tryz.prog 44 #[.int .u8 18] w fun e w' => e = .returned (.agg #[.string ⟨#[100, 97, 116, 97]⟩, fv 126 #[], fv 160 #[], fv 162 #[], fv 164 #[], fv 166 #[], fv 168 #[]]) ∧ Below w.heap.size w w' := by
  have hmf : ∀ (fn : Fn) (first cap : Array Value) (w : World), (Instr.makeFunc fn first cap).run Tryz.prog w = .ok (.func fn first cap) w := fun _ _ _ _ => rfl
  have HN := Lib.hid (Blk.new w 90 fldZ.toArray)
  have HB := Lib.hid ((Below.refl w.heap.size w).alloc (Nat.le_refl _) (.cells fldZ.toArray 90))
  have hsz : (w.alloc (.cells fldZ.toArray 90)).heap.size = w.heap.size + 1 := World.size_alloc _ _
  go_enter Tryz.func44, Tryz.ntmps44
  go_upto_region 1 with (fail)
  change Code.wp _ _ _ _ (w.alloc (.cells fldZ.toArray 90))
  generalize w.alloc (.cells fldZ.toArray 90) = w1 at HN HB hsz ⊢
  go_wp2_with fail
  refine (otherField_data w1).mono ?_
  rintro e w2 ⟨rfl, hb⟩
  have HN2 := Lib.hid (HN.out.below hb (by omega))
  have HB2 := Lib.hid (HB.out.trans (hb.mono (by omega)))
  have hs2 : w.heap.size + 1 ≤ w2.heap.size := by have := hb.size; omega
  clear hb HN HB
  have HCL := Lib.hid (show ([.string ⟨#[100, 97, 116, 97]⟩, fv 126 #[], fv 160 #[], fv 162 #[], fv 164 #[], fv 166 #[], fv 168 #[]] : List Value).toArray.all (·.oneCell') = true from by simp [Value.oneCell'])
  go_wp2_with (refine wstK HN2.out 0 [.string ⟨#[100, 97, 116, 97]⟩, fv 126 #[], fv 160 #[], fv 162 #[], fv 164 #[], fv 166 #[], fv 168 #[]] _ (over_fld _ _ _ _ _ _ _) (Nat.le_refl 7) HCL.out rfl _ _ _ rfl rfl rfl fld_size ?_; intro w3 hs ho; have HX := Lib.hid hs; have HO := Lib.hid (ho (fun i => i = w.heap.size) rfl w2 (Off.refl _ _)); clear hs ho)
  have hend := HB2.out.trans (HO.out.below (B := w.heap.size) (fun i hi => by omega) (by omega))
  exact bodyPost_ret (results_fld rfl rfl rfl HX.out) rfl ⟨rfl, hend⟩
set_option maxRecDepth 100000 in
set_option maxHeartbeats 1600000 in
theorem fieldOf_stat (w : World) : Calls Tryz.prog 44 #[.int .u8 19] w fun e w' => e = .returned (.agg #[.string ⟨#[115, 116, 97, 116]⟩, fv 233 #[], fv 234 #[], fv 236 #[], fv 238 #[], fv 239 #[], fv 241 #[]]) ∧ Below w.heap.size w w' := by
  have hmf : ∀ (fn : Fn) (first cap : Array Value) (w : World), (Instr.makeFunc fn first cap).run Tryz.prog w = .ok (.func fn first cap) w := fun _ _ _ _ => rfl
  have HN := Lib.hid (Blk.new w 90 fldZ.toArray)
  have HB := Lib.hid ((Below.refl w.heap.size w).alloc (Nat.le_refl _) (.cells fldZ.toArray 90))
  have hsz : (w.alloc (.cells fldZ.toArray 90)).heap.size = w.heap.size + 1 := World.size_alloc _ _
  go_enter Tryz.func44, Tryz.ntmps44
  go_upto_region 1 with (fail)
  change Code.wp _ _ _ _ (w.alloc (.cells fldZ.toArray 90))
  generalize w.alloc (.cells fldZ.toArray 90) = w1 at HN HB hsz ⊢
  go_wp2_with fail
  refine (otherField_stat w1).mono ?_
  rintro e w2 ⟨rfl, hb⟩
  have HN2 := Lib.hid (HN.out.below hb (by omega))
  have HB2 := Lib.hid (HB.out.trans (hb.mono (by omega)))
  have hs2 : w.heap.size + 1 ≤ w2.heap.size := by have := hb.size; omega
  clear hb HN HB
  have HCL := Lib.hid (show ([.string ⟨#[115, 116, 97, 116]⟩, fv 233 #[], fv 234 #[], fv 236 #[], fv 238 #[], fv 239 #[], fv 241 #[]] : List Value).toArray.all (·.oneCell') = true from by simp [Value.oneCell'])
  go_wp2_with (refine wstK HN2.out 0 [.string ⟨#[115, 116, 97, 116]⟩, fv 233 #[], fv 234 #[], fv 236 #[], fv 238 #[], fv 239 #[], fv 241 #[]] _ (over_fld _ _ _ _ _ _ _) (Nat.le_refl 7) HCL.out rfl _ _ _ rfl rfl rfl fld_size ?_; intro w3 hs ho; have HX := Lib.hid hs; have HO := Lib.hid (ho (fun i => i = w.heap.size) rfl w2 (Off.refl _ _)); clear hs ho)
  have hend := HB2.out.trans (HO.out.below (B := w.heap.size) (fun i hi => by omega) (by omega))
  exact bodyPost_ret (results_fld rfl rfl rfl HX.out) rfl ⟨rfl, hend⟩
set_option maxRecDepth 100000 in
set_option maxHeartbeats 1600000 in
theorem fieldOf_msize (w : World) : Calls Tryz.prog 44 #[.int .u8 0] w fun e w' => e = .returned (.agg #[.string ⟨#[109, 115, 105, 122, 101]⟩, fv 126 #[], fv 127 (cap1 (w.heap.size + 1)), fv 128 (cap1 (w.heap.size + 1)), fv 129 (cap1 (w.heap.size + 1)), fv 130 (cap1 (w.heap.size + 1)), fv 131 (cap1 (w.heap.size + 1))]) ∧ Below w.heap.size w w' ∧ Blk w' (w.heap.size + 1) 135 #[fv 75 #[]] := by
  have hmf : ∀ (fn : Fn) (first cap : Array Value) (w : World), (Instr.makeFunc fn first cap).run Tryz.prog w = .ok (.func fn first cap) w := fun _ _ _ _ => rfl
  have HN := Lib.hid (Blk.new w 90 fldZ.toArray)
  have HB := Lib.hid ((Below.refl w.heap.size w).alloc (Nat.le_refl _) (.cells fldZ.toArray 90))
  have hsz : (w.alloc (.cells fldZ.toArray 90)).heap.size = w.heap.size + 1 := World.size_alloc _ _
  go_enter Tryz.func44, Tryz.ntmps44
  go_upto_region 1 with (fail)
  change Code.wp _ _ _ _ (w.alloc (.cells fldZ.toArray 90))
  generalize w.alloc (.cells fldZ.toArray 90) = w1 at HN HB hsz ⊢
  go_wp2_with fail
  refine (number32F_calls ⟨#[109, 115, 105, 122, 101]⟩ 75 w1).mono ?_
  rintro e w2 ⟨rfl, hb, hc⟩
  rw [hsz] at hc ⊢
  have HN2 := Lib.hid (HN.out.below hb (by omega))
  have HB2 := Lib.hid (HB.out.trans (hb.mono (by omega)))
  have hs2 : w.heap.size + 1 ≤ w2.heap.size := by have := hb.size; omega
  have HC := Lib.hid hc; clear hc
  clear hb HN HB
  have HCL := Lib.hid (show ([.string ⟨#[109, 115, 105, 122, 101]⟩, fv 126 #[], fv 127 (cap1 (w.heap.size + 1)), fv 128 (cap1 (w.heap.size + 1)), fv 129 (cap1 (w.heap.size + 1)), fv 130 (cap1 (w.heap.size + 1)), fv 131 (cap1 (w.heap.size + 1))] : List Value).toArray.all (·.oneCell') = true from by simp [Value.oneCell'])
  go_wp2_with (refine wstK HN2.out 0 [.string ⟨#[109, 115, 105, 122, 101]⟩, fv 126 #[], fv 127 (cap1 (w.heap.size + 1)), fv 128 (cap1 (w.heap.size + 1)), fv 129 (cap1 (w.heap.size + 1)), fv 130 (cap1 (w.heap.size + 1)), fv 131 (cap1 (w.heap.size + 1))] _ (over_fld _ _ _ _ _ _ _) (Nat.le_refl 7) HCL.out rfl _ _ _ rfl rfl rfl fld_size ?_; intro w3 hs ho; have HX := Lib.hid hs; have HO := Lib.hid (ho (fun i => i = w.heap.size) rfl w2 (Off.refl _ _)); clear hs ho)
  have hend := HB2.out.trans (HO.out.below (B := w.heap.size) (fun i hi => by omega) (by omega))
  exact bodyPost_ret (results_fld rfl rfl rfl HX.out) rfl ⟨rfl, hend, HO.out.blk HC.out (by omega)⟩
set_option maxRecDepth 100000 in
set_option maxHeartbeats 1600000 in
theorem fieldOf_afid (w : World) : Calls Tryz.prog 44 #[.int .u8 2] w fun e w' => e = .returned (.agg #[.string ⟨#[97, 102, 105, 100]⟩, fv 126 #[], fv 127 (cap1 (w.heap.size + 1)), fv 128 (cap1 (w.heap.size + 1)), fv 129 (cap1 (w.heap.size + 1)), fv 130 (cap1 (w.heap.size + 1)), fv 131 (cap1 (w.heap.size + 1))]) ∧ Below w.heap.size w w' ∧ Blk w' (w.heap.size + 1) 135 #[fv 76 #[]] := by
  have hmf : ∀ (fn : Fn) (first cap : Array Value) (w : World), (Instr.makeFunc fn first cap).run Tryz.prog w = .ok (.func fn first cap) w := fun _ _ _ _ => rfl
  have HN := Lib.hid (Blk.new w 90 fldZ.toArray)
  have HB := Lib.hid ((Below.refl w.heap.size w).alloc (Nat.le_refl _) (.cells fldZ.toArray 90))
  have hsz : (w.alloc (.cells fldZ.toArray 90)).heap.size = w.heap.size + 1 := World.size_alloc _ _
  go_enter Tryz.func44, Tryz.ntmps44
  go_upto_region 1 with (fail)
  change Code.wp _ _ _ _ (w.alloc (.cells fldZ.toArray 90))
  generalize w.alloc (.cells fldZ.toArray 90) = w1 at HN HB hsz ⊢
  go_wp2_with fail
  refine (number32F_calls ⟨#[97, 102, 105, 100]⟩ 76 w1).mono ?_
  rintro e w2 ⟨rfl, hb, hc⟩
  rw [hsz] at hc ⊢
  have HN2 := Lib.hid (HN.out.below hb (by omega))
  have HB2 := Lib.hid (HB.out.trans (hb.mono (by omega)))
  have hs2 : w.heap.size + 1 ≤ w2.heap.size := by have := hb.size; omega
  have HC := Lib.hid hc; clear hc
  clear hb HN HB
  have HCL := Lib.hid (show ([.string ⟨#[97, 102, 105, 100]⟩, fv 126 #[], fv 127 (cap1 (w.heap.size + 1)), fv 128 (cap1 (w.heap.size + 1)), fv 129 (cap1 (w.heap.size + 1)), fv 130 (cap1 (w.heap.size + 1)), fv 131 (cap1 (w.heap.size + 1))] : List Value).toArray.all (·.oneCell') = true from by simp [Value.oneCell'])
  go_wp2_with (refine wstK HN2.out 0 [.string ⟨#[97, 102, 105, 100]⟩, fv 126 #[], fv 127 (cap1 (w.heap.size + 1)), fv 128 (cap1 (w.heap.size + 1)), fv 129 (cap1 (w.heap.size + 1)), fv 130 (cap1 (w.heap.size + 1)), fv 131 (cap1 (w.heap.size + 1))] _ (over_fld _ _ _ _ _ _ _) (Nat.le_refl 7) HCL.out rfl _ _ _ rfl rfl rfl fld_size ?_; intro w3 hs ho; have HX := Lib.hid hs; have HO := Lib.hid (ho (fun i => i = w.heap.size) rfl w2 (Off.refl _ _)); clear hs ho)
  have hend := HB2.out.trans (HO.out.below (B := w.heap.size) (fun i hi => by omega) (by omega))
  exact bodyPost_ret (results_fld rfl rfl rfl HX.out) rfl ⟨rfl, hend, HO.out.blk HC.out (by omega)⟩
set_option maxRecDepth 100000 in
set_option maxHeartbeats 1600000 in
theorem fieldOf_fid (w : World) : Calls Tryz.prog 44 #[.int .u8 7] w fun e w' => e = .returned (.agg #[.string ⟨#[102, 105, 100]⟩, fv 126 #[], fv 127 (cap1 (w.heap.size + 1)), fv 128 (cap1 (w.heap.size + 1)), fv 129 (cap1 (w.heap.size + 1)), fv 130 (cap1 (w.heap.size + 1)), fv 131 (cap1 (w.heap.size + 1))]) ∧ Below w.heap.size w w' ∧ Blk w' (w.heap.size + 1) 135 #[fv 77 #[]] := by
  have hmf : ∀ (fn : Fn) (first cap : Array Value) (w : World), (Instr.makeFunc fn first cap).run Tryz.prog w = .ok (.func fn first cap) w := fun _ _ _ _ => rfl
  have HN := Lib.hid (Blk.new w 90 fldZ.toArray)
  have HB := Lib.hid ((Below.refl w.heap.size w).alloc (Nat.le_refl _) (.cells fldZ.toArray 90))
  have hsz : (w.alloc (.cells fldZ.toArray 90)).heap.size = w.heap.size + 1 := World.size_alloc _ _
  go_enter Tryz.func44, Tryz.ntmps44
  go_upto_region 1 with (fail)
  change Code.wp _ _ _ _ (w.alloc (.cells fldZ.toArray 90))
  generalize w.alloc (.cells fldZ.toArray 90) = w1 at HN HB hsz ⊢
  go_wp2_with fail
  refine (number32F_calls ⟨#[102, 105, 100]⟩ 77 w1).mono ?_
  rintro e w2 ⟨rfl, hb, hc⟩
  rw [hsz] at hc ⊢
  have HN2 := Lib.hid (HN.out.below hb (by omega))
  have HB2 := Lib.hid (HB.out.trans (hb.mono (by omega)))
  have hs2 : w.heap.size + 1 ≤ w2.heap.size := by have := hb.size; omega
  have HC := Lib.hid hc; clear hc
  clear hb HN HB
  have HCL := Lib.hid (show ([.string ⟨#[102, 105, 100]⟩, fv 126 #[], fv 127 (cap1 (w.heap.size + 1)), fv 128 (cap1 (w.heap.size + 1)), fv 129 (cap1 (w.heap.size + 1)), fv 130 (cap1 (w.heap.size + 1)), fv 131 (cap1 (w.heap.size + 1))] : List Value).toArray.all (·.oneCell') = true from by simp [Value.oneCell'])
  go_wp2_with (refine wstK HN2.out 0 [.string ⟨#[102, 105, 100]⟩, fv 126 #[], fv 127 (cap1 (w.heap.size + 1)), fv 128 (cap1 (w.heap.size + 1)), fv 129 (cap1 (w.heap.size + 1)), fv 130 (cap1 (w.heap.size + 1)), fv 131 (cap1 (w.heap.size + 1))] _ (over_fld _ _ _ _ _ _ _) (Nat.le_refl 7) HCL.out rfl _ _ _ rfl rfl rfl fld_size ?_; intro w3 hs ho; have HX := Lib.hid hs; have HO := Lib.hid (ho (fun i => i = w.heap.size) rfl w2 (Off.refl _ _)); clear hs ho)
  have hend := HB2.out.trans (HO.out.below (B := w.heap.size) (fun i hi => by omega) (by omega))
  exact bodyPost_ret (results_fld rfl rfl rfl HX.out) rfl ⟨rfl, hend, HO.out.blk HC.out (by omega)⟩
set_option maxRecDepth 100000 in
set_option maxHeartbeats 1600000 in
theorem fieldOf_newfid (w : World) : Calls Tryz.prog 44 #[.int .u8 8] w fun e w' => e = .returned (.agg #[.string ⟨#[110, 101, 119, 102, 105, 100]⟩, fv 126 #[], fv 127 (cap1 (w.heap.size + 1)), fv 128 (cap1 (w.heap.size + 1)), fv 129 (cap1 (w.heap.size + 1)), fv 130 (cap1 (w.heap.size + 1)), fv 131 (cap1 (w.heap.size + 1))]) ∧ Below w.heap.size w w' ∧ Blk w' (w.heap.size + 1) 135 #[fv 78 #[]] := by
  have hmf : ∀ (fn : Fn) (first cap : Array Value) (w : World), (Instr.makeFunc fn first cap).run Tryz.prog w = .ok (.func fn first cap) w := fun _ _ _ _ => rfl
  have HN := Lib.hid (Blk.new w 90 fldZ.toArray)
  have HB := Lib.hid ((Below.refl w.heap.size w).alloc (Nat.le_refl _) (.cells fldZ.toArray 90))
  have hsz : (w.alloc (.cells fldZ.toArray 90)).heap.size = w.heap.size + 1 := World.size_alloc _ _
  go_enter Tryz.func44, Tryz.ntmps44
  go_upto_region 1 with (fail)
  change Code.wp _ _ _ _ (w.alloc (.cells fldZ.toArray 90))
  generalize w.alloc (.cells fldZ.toArray 90) = w1 at HN HB hsz ⊢
  go_wp2_with fail
  refine (number32F_calls ⟨#[110, 101, 119, 102, 105, 100]⟩ 78 w1).mono ?_
  rintro e w2 ⟨rfl, hb, hc⟩
  rw [hsz] at hc ⊢
  have HN2 := Lib.hid (HN.out.below hb (by omega))
  have HB2 := Lib.hid (HB.out.trans (hb.mono (by omega)))
  have hs2 : w.heap.size + 1 ≤ w2.heap.size := by have := hb.size; omega
  have HC := Lib.hid hc; clear hc
  clear hb HN HB
  have HCL := Lib.hid (show ([.string ⟨#[110, 101, 119, 102, 105, 100]⟩, fv 126 #[], fv 127 (cap1 (w.heap.size + 1)), fv 128 (cap1 (w.heap.size + 1)), fv 129 (cap1 (w.heap.size + 1)), fv 130 (cap1 (w.heap.size + 1)), fv 131 (cap1 (w.heap.size + 1))] : List Value).toArray.all (·.oneCell') = true from by simp [Value.oneCell'])
  go_wp2_with (refine wstK HN2.out 0 [.string ⟨#[110, 101, 119, 102, 105, 100]⟩, fv 126 #[], fv 127 (cap1 (w.heap.size + 1)), fv 128 (cap1 (w.heap.size + 1)), fv 129 (cap1 (w.heap.size + 1)), fv 130 (cap1 (w.heap.size + 1)), fv 131 (cap1 (w.heap.size + 1))] _ (over_fld _ _ _ _ _ _ _) (Nat.le_refl 7) HCL.out rfl _ _ _ rfl rfl rfl fld_size ?_; intro w3 hs ho; have HX := Lib.hid hs; have HO := Lib.hid (ho (fun i => i = w.heap.size) rfl w2 (Off.refl _ _)); clear hs ho)
  have hend := HB2.out.trans (HO.out.below (B := w.heap.size) (fun i hi => by omega) (by omega))
  exact bodyPost_ret (results_fld rfl rfl rfl HX.out) rfl ⟨rfl, hend, HO.out.blk HC.out (by omega)⟩
set_option maxRecDepth 100000 in
set_option maxHeartbeats 1600000 in
theorem fieldOf_iounit (w : World) : Calls Tryz.prog 44 #[.int .u8 13] w fun e w' => e = .returned (.agg #[.string ⟨#[105, 111, 117, 110, 105, 116]⟩, fv 126 #[], fv 127 (cap1 (w.heap.size + 1)), fv 128 (cap1 (w.heap.size + 1)), fv 129 (cap1 (w.heap.size + 1)), fv 130 (cap1 (w.heap.size + 1)), fv 131 (cap1 (w.heap.size + 1))]) ∧ Below w.heap.size w w' ∧ Blk w' (w.heap.size + 1) 135 #[fv 79 #[]] := by
  have hmf : ∀ (fn : Fn) (first cap : Array Value) (w : World), (Instr.makeFunc fn first cap).run Tryz.prog w = .ok (.func fn first cap) w := fun _ _ _ _ => rfl
  have HN := Lib.hid (Blk.new w 90 fldZ.toArray)
  have HB := Lib.hid ((Below.refl w.heap.size w).alloc (Nat.le_refl _) (.cells fldZ.toArray 90))
  have hsz : (w.alloc (.cells fldZ.toArray 90)).heap.size = w.heap.size + 1 := World.size_alloc _ _
  go_enter Tryz.func44, Tryz.ntmps44
  go_upto_region 1 with (fail)
  change Code.wp _ _ _ _ (w.alloc (.cells fldZ.toArray 90))
  generalize w.alloc (.cells fldZ.toArray 90) = w1 at HN HB hsz ⊢
  go_wp2_with fail
  refine (number32F_calls ⟨#[105, 111, 117, 110, 105, 116]⟩ 79 w1).mono ?_
  rintro e w2 ⟨rfl, hb, hc⟩
  rw [hsz] at hc ⊢
  have HN2 := Lib.hid (HN.out.below hb (by omega))
  have HB2 := Lib.hid (HB.out.trans (hb.mono (by omega)))
  have hs2 : w.heap.size + 1 ≤ w2.heap.size := by have := hb.size; omega
  have HC := Lib.hid hc; clear hc
  clear hb HN HB
  have HCL := Lib.hid (show ([.string ⟨#[105, 111, 117, 110, 105, 116]⟩, fv 126 #[], fv 127 (cap1 (w.heap.size + 1)), fv 128 (cap1 (w.heap.size + 1)), fv 129 (cap1 (w.heap.size + 1)), fv 130 (cap1 (w.heap.size + 1)), fv 131 (cap1 (w.heap.size + 1))] : List Value).toArray.all (·.oneCell') = true from by simp [Value.oneCell'])
  go_wp2_with (refine wstK HN2.out 0 [.string ⟨#[105, 111, 117, 110, 105, 116]⟩, fv 126 #[], fv 127 (cap1 (w.heap.size + 1)), fv 128 (cap1 (w.heap.size + 1)), fv 129 (cap1 (w.heap.size + 1)), fv 130 (cap1 (w.heap.size + 1)), fv 131 (cap1 (w.heap.size + 1))] _ (over_fld _ _ _ _ _ _ _) (Nat.le_refl 7) HCL.out rfl _ _ _ rfl rfl rfl fld_size ?_; intro w3 hs ho; have HX := Lib.hid hs; have HO := Lib.hid (ho (fun i => i = w.heap.size) rfl w2 (Off.refl _ _)); clear hs ho)
  have hend := HB2.out.trans (HO.out.below (B := w.heap.size) (fun i hi => by omega) (by omega))
  exact bodyPost_ret (results_fld rfl rfl rfl HX.out) rfl ⟨rfl, hend, HO.out.blk HC.out (by omega)⟩
set_option maxRecDepth 100000 in
set_option maxHeartbeats 1600000 in
theorem fieldOf_perm (w : World) : Calls Tryz.prog 44 #[.int .u8 15] w fun e w' => e = .returned (.agg #[.string ⟨#[112, 101, 114, 109]⟩, fv 126 #[], fv 127 (cap1 (w.heap.size + 1)), fv 128 (cap1 (w.heap.size + 1)), fv 129 (cap1 (w.heap.size + 1)), fv 130 (cap1 (w.heap.size + 1)), fv 131 (cap1 (w.heap.size + 1))]) ∧ Below w.heap.size w w' ∧ Blk w' (w.heap.size + 1) 135 #[fv 80 #[]] := by
  have hmf : ∀ (fn : Fn) (first cap : Array Value) (w : World), (Instr.makeFunc fn first cap).run Tryz.prog w = .ok (.func fn first cap) w := fun _ _ _ _ => rfl
  have HN := Lib.hid (Blk.new w 90 fldZ.toArray)
  have HB := Lib.hid ((Below.refl w.heap.size w).alloc (Nat.le_refl _) (.cells fldZ.toArray 90))
  have hsz : (w.alloc (.cells fldZ.toArray 90)).heap.size = w.heap.size + 1 := World.size_alloc _ _
  go_enter Tryz.func44, Tryz.ntmps44
  go_upto_region 1 with (fail)
  change Code.wp _ _ _ _ (w.alloc (.cells fldZ.toArray 90))
  generalize w.alloc (.cells fldZ.toArray 90) = w1 at HN HB hsz ⊢
  go_wp2_with fail
  refine (number32F_calls ⟨#[112, 101, 114, 109]⟩ 80 w1).mono ?_
  rintro e w2 ⟨rfl, hb, hc⟩
  rw [hsz] at hc ⊢
  have HN2 := Lib.hid (HN.out.below hb (by omega))
  have HB2 := Lib.hid (HB.out.trans (hb.mono (by omega)))
  have hs2 : w.heap.size + 1 ≤ w2.heap.size := by have := hb.size; omega
  have HC := Lib.hid hc; clear hc
  clear hb HN HB
  have HCL := Lib.hid (show ([.string ⟨#[112, 101, 114, 109]⟩, fv 126 #[], fv 127 (cap1 (w.heap.size + 1)), fv 128 (cap1 (w.heap.size + 1)), fv 129 (cap1 (w.heap.size + 1)), fv 130 (cap1 (w.heap.size + 1)), fv 131 (cap1 (w.heap.size + 1))] : List Value).toArray.all (·.oneCell') = true from by simp [Value.oneCell'])
  go_wp2_with (refine wstK HN2.out 0 [.string ⟨#[112, 101, 114, 109]⟩, fv 126 #[], fv 127 (cap1 (w.heap.size + 1)), fv 128 (cap1 (w.heap.size + 1)), fv 129 (cap1 (w.heap.size + 1)), fv 130 (cap1 (w.heap.size + 1)), fv 131 (cap1 (w.heap.size + 1))] _ (over_fld _ _ _ _ _ _ _) (Nat.le_refl 7) HCL.out rfl _ _ _ rfl rfl rfl fld_size ?_; intro w3 hs ho; have HX := Lib.hid hs; have HO := Lib.hid (ho (fun i => i = w.heap.size) rfl w2 (Off.refl _ _)); clear hs ho)
  have hend := HB2.out.trans (HO.out.below (B := w.heap.size) (fun i hi => by omega) (by omega))
  exact bodyPost_ret (results_fld rfl rfl rfl HX.out) rfl ⟨rfl, hend, HO.out.blk HC.out (by omega)⟩
set_option maxRecDepth 100000 in
set_option maxHeartbeats 1600000 in
theorem fieldOf_count (w : World) : Calls Tryz.prog 44 #[.int .u8 17] w fun e w' => e = .returned (.agg #[.string ⟨#[99, 111, 117, 110, 116]⟩, fv 126 #[], fv 127 (cap1 (w.heap.size + 1)), fv 128 (cap1 (w.heap.size + 1)), fv 129 (cap1 (w.heap.size + 1)), fv 130 (cap1 (w.heap.size + 1)), fv 131 (cap1 (w.heap.size + 1))]) ∧ Below w.heap.size w w' ∧ Blk w' (w.heap.size + 1) 135 #[fv 81 #[]] := by
  have hmf : ∀ (fn : Fn) (first cap : Array Value) (w : World), (Instr.makeFunc fn first cap).run Tryz.prog w = .ok (.func fn first cap) w := fun _ _ _ _ => rfl
  have HN := Lib.hid (Blk.new w 90 fldZ.toArray)
  have HB := Lib.hid ((Below.refl w.heap.size w).alloc (Nat.le_refl _) (.cells fldZ.toArray 90))
  have hsz : (w.alloc (.cells fldZ.toArray 90)).heap.size = w.heap.size + 1 := World.size_alloc _ _
  go_enter Tryz.func44, Tryz.ntmps44
  go_upto_region 1 with (fail)
  change Code.wp _ _ _ _ (w.alloc (.cells fldZ.toArray 90))
  generalize w.alloc (.cells fldZ.toArray 90) = w1 at HN HB hsz ⊢
  go_wp2_with fail
  refine (number32F_calls ⟨#[99, 111, 117, 110, 116]⟩ 81 w1).mono ?_
  rintro e w2 ⟨rfl, hb, hc⟩
  rw [hsz] at hc ⊢
  have HN2 := Lib.hid (HN.out.below hb (by omega))
  have HB2 := Lib.hid (HB.out.trans (hb.mono (by omega)))
  have hs2 : w.heap.size + 1 ≤ w2.heap.size := by have := hb.size; omega
  have HC := Lib.hid hc; clear hc
  clear hb HN HB
  have HCL := Lib.hid (show ([.string ⟨#[99, 111, 117, 110, 116]⟩, fv 126 #[], fv 127 (cap1 (w.heap.size + 1)), fv 128 (cap1 (w.heap.size + 1)), fv 129 (cap1 (w.heap.size + 1)), fv 130 (cap1 (w.heap.size + 1)), fv 131 (cap1 (w.heap.size + 1))] : List Value).toArray.all (·.oneCell') = true from by simp [Value.oneCell'])
  go_wp2_with (refine wstK HN2.out 0 [.string ⟨#[99, 111, 117, 110, 116]⟩, fv 126 #[], fv 127 (cap1 (w.heap.size + 1)), fv 128 (cap1 (w.heap.size + 1)), fv 129 (cap1 (w.heap.size + 1)), fv 130 (cap1 (w.heap.size + 1)), fv 131 (cap1 (w.heap.size + 1))] _ (over_fld _ _ _ _ _ _ _) (Nat.le_refl 7) HCL.out rfl _ _ _ rfl rfl rfl fld_size ?_; intro w3 hs ho; have HX := Lib.hid hs; have HO := Lib.hid (ho (fun i => i = w.heap.size) rfl w2 (Off.refl _ _)); clear hs ho)
  have hend := HB2.out.trans (HO.out.below (B := w.heap.size) (fun i hi => by omega) (by omega))
  exact bodyPost_ret (results_fld rfl rfl rfl HX.out) rfl ⟨rfl, hend, HO.out.blk HC.out (by omega)⟩
set_option maxRecDepth 100000 in
set_option maxHeartbeats 1600000 in
theorem fieldOf_version (w : World) : Calls Tryz.prog 44 #[.int .u8 1] w fun e w' => e = .returned (.agg #[.string ⟨#[118, 101, 114, 115, 105, 111, 110]⟩, fv 132 (cap1 (w.heap.size + 1)), fv 134 (cap1 (w.heap.size + 1)), fv 136 (cap1 (w.heap.size + 1)), fv 138 (cap1 (w.heap.size + 1)), fv 139 (cap1 (w.heap.size + 1)), fv 141 (cap1 (w.heap.size + 1))]) ∧ Below w.heap.size w w' ∧ Blk w' (w.heap.size + 1) 138 #[fv 83 #[]] := by
  have hmf : ∀ (fn : Fn) (first cap : Array Value) (w : World), (Instr.makeFunc fn first cap).run Tryz.prog w = .ok (.func fn first cap) w := fun _ _ _ _ => rfl
  have HN := Lib.hid (Blk.new w 90 fldZ.toArray)
  have HB := Lib.hid ((Below.refl w.heap.size w).alloc (Nat.le_refl _) (.cells fldZ.toArray 90))
  have hsz : (w.alloc (.cells fldZ.toArray 90)).heap.size = w.heap.size + 1 := World.size_alloc _ _
  go_enter Tryz.func44, Tryz.ntmps44
  go_upto_region 1 with (fail)
  change Code.wp _ _ _ _ (w.alloc (.cells fldZ.toArray 90))
  generalize w.alloc (.cells fldZ.toArray 90) = w1 at HN HB hsz ⊢
  go_wp2_with fail
  refine (textF_calls ⟨#[118, 101, 114, 115, 105, 111, 110]⟩ 83 w1).mono ?_
  rintro e w2 ⟨rfl, hb, hc⟩
  rw [hsz] at hc ⊢
  have HN2 := Lib.hid (HN.out.below hb (by omega))
  have HB2 := Lib.hid (HB.out.trans (hb.mono (by omega)))
  have hs2 : w.heap.size + 1 ≤ w2.heap.size := by have := hb.size; omega
  have HC := Lib.hid hc; clear hc
  clear hb HN HB
  have HCL := Lib.hid (show ([.string ⟨#[118, 101, 114, 115, 105, 111, 110]⟩, fv 132 (cap1 (w.heap.size + 1)), fv 134 (cap1 (w.heap.size + 1)), fv 136 (cap1 (w.heap.size + 1)), fv 138 (cap1 (w.heap.size + 1)), fv 139 (cap1 (w.heap.size + 1)), fv 141 (cap1 (w.heap.size + 1))] : List Value).toArray.all (·.oneCell') = true from by simp [Value.oneCell'])
  go_wp2_with (refine wstK HN2.out 0 [.string ⟨#[118, 101, 114, 115, 105, 111, 110]⟩, fv 132 (cap1 (w.heap.size + 1)), fv 134 (cap1 (w.heap.size + 1)), fv 136 (cap1 (w.heap.size + 1)), fv 138 (cap1 (w.heap.size + 1)), fv 139 (cap1 (w.heap.size + 1)), fv 141 (cap1 (w.heap.size + 1))] _ (over_fld _ _ _ _ _ _ _) (Nat.le_refl 7) HCL.out rfl _ _ _ rfl rfl rfl fld_size ?_; intro w3 hs ho; have HX := Lib.hid hs; have HO := Lib.hid (ho (fun i => i = w.heap.size) rfl w2 (Off.refl _ _)); clear hs ho)
  have hend := HB2.out.trans (HO.out.below (B := w.heap.size) (fun i hi => by omega) (by omega))
  exact bodyPost_ret (results_fld rfl rfl rfl HX.out) rfl ⟨rfl, hend, HO.out.blk HC.out (by omega)⟩
set_option maxRecDepth 100000 in
set_option maxHeartbeats 1600000 in
theorem fieldOf_uname (w : World) : Calls Tryz.prog 44 #[.int .u8 3] w fun e w' => e = .returned (.agg #[.string ⟨#[117, 110, 97, 109, 101]⟩, fv 132 (cap1 (w.heap.size + 1)), fv 134 (cap1 (w.heap.size + 1)), fv 136 (cap1 (w.heap.size + 1)), fv 138 (cap1 (w.heap.size + 1)), fv 139 (cap1 (w.heap.size + 1)), fv 141 (cap1 (w.heap.size + 1))]) ∧ Below w.heap.size w w' ∧ Blk w' (w.heap.size + 1) 138 #[fv 84 #[]] := by
  have hmf : ∀ (fn : Fn) (first cap : Array Value) (w : World), (Instr.makeFunc fn first cap).run Tryz.prog w = .ok (.func fn first cap) w := fun _ _ _ _ => rfl
  have HN := Lib.hid (Blk.new w 90 fldZ.toArray)
  have HB := Lib.hid ((Below.refl w.heap.size w).alloc (Nat.le_refl _) (.cells fldZ.toArray 90))
  have hsz : (w.alloc (.cells fldZ.toArray 90)).heap.size = w.heap.size + 1 := World.size_alloc _ _
  go_enter Tryz.func44, Tryz.ntmps44
  go_upto_region 1 with (fail)
  change Code.wp _ _ _ _ (w.alloc (.cells fldZ.toArray 90))
  generalize w.alloc (.cells fldZ.toArray 90) = w1 at HN HB hsz ⊢
  go_wp2_with fail
  refine (textF_calls ⟨#[117, 110, 97, 109, 101]⟩ 84 w1).mono ?_
  rintro e w2 ⟨rfl, hb, hc⟩
  rw [hsz] at hc ⊢
  have HN2 := Lib.hid (HN.out.below hb (by omega))
  have HB2 := Lib.hid (HB.out.trans (hb.mono (by omega)))
  have hs2 : w.heap.size + 1 ≤ w2.heap.size := by have := hb.size; omega
  have HC := Lib.hid hc; clear hc
  clear hb HN HB
  have HCL := Lib.hid (show ([.string ⟨#[117, 110, 97, 109, 101]⟩, fv 132 (cap1 (w.heap.size + 1)), fv 134 (cap1 (w.heap.size + 1)), fv 136 (cap1 (w.heap.size + 1)), fv 138 (cap1 (w.heap.size + 1)), fv 139 (cap1 (w.heap.size + 1)), fv 141 (cap1 (w.heap.size + 1))] : List Value).toArray.all (·.oneCell') = true from by simp [Value.oneCell'])
  go_wp2_with (refine wstK HN2.out 0 [.string ⟨#[117, 110, 97, 109, 101]⟩, fv 132 (cap1 (w.heap.size + 1)), fv 134 (cap1 (w.heap.size + 1)), fv 136 (cap1 (w.heap.size + 1)), fv 138 (cap1 (w.heap.size + 1)), fv 139 (cap1 (w.heap.size + 1)), fv 141 (cap1 (w.heap.size + 1))] _ (over_fld _ _ _ _ _ _ _) (Nat.le_refl 7) HCL.out rfl _ _ _ rfl rfl rfl fld_size ?_; intro w3 hs ho; have HX := Lib.hid hs; have HO := Lib.hid (ho (fun i => i = w.heap.size) rfl w2 (Off.refl _ _)); clear hs ho)
  have hend := HB2.out.trans (HO.out.below (B := w.heap.size) (fun i hi => by omega) (by omega))
  exact bodyPost_ret (results_fld rfl rfl rfl HX.out) rfl ⟨rfl, hend, HO.out.blk HC.out (by omega)⟩
set_option maxRecDepth 100000 in
set_option maxHeartbeats 1600000 in
theorem fieldOf_aname (w : World) : Calls Tryz.prog 44 #[.int .u8 4] w fun e w' => e = .returned (.agg #[.string ⟨#[97, 110, 97, 109, 101]⟩, fv 132 (cap1 (w.heap.size + 1)), fv 134 (cap1 (w.heap.size + 1)), fv 136 (cap1 (w.heap.size + 1)), fv 138 (cap1 (w.heap.size + 1)), fv 139 (cap1 (w.heap.size + 1)), fv 141 (cap1 (w.heap.size + 1))]) ∧ Below w.heap.size w w' ∧ Blk w' (w.heap.size + 1) 138 #[fv 85 #[]] := by
  have hmf : ∀ (fn : Fn) (first cap : Array Value) (w : World), (Instr.makeFunc fn first cap).run Tryz.prog w = .ok (.func fn first cap) w := fun _ _ _ _ => rfl
  have HN := Lib.hid (Blk.new w 90 fldZ.toArray)
  have HB := Lib.hid ((Below.refl w.heap.size w).alloc (Nat.le_refl _) (.cells fldZ.toArray 90))
  have hsz : (w.alloc (.cells fldZ.toArray 90)).heap.size = w.heap.size + 1 := World.size_alloc _ _
  go_enter Tryz.func44, Tryz.ntmps44
  go_upto_region 1 with (fail)
  change Code.wp _ _ _ _ (w.alloc (.cells fldZ.toArray 90))
  generalize w.alloc (.cells fldZ.toArray 90) = w1 at HN HB hsz ⊢
  go_wp2_with fail
  refine (textF_calls ⟨#[97, 110, 97, 109, 101]⟩ 85 w1).mono ?_
  rintro e w2 ⟨rfl, hb, hc⟩
  rw [hsz] at hc ⊢
  have HN2 := Lib.hid (HN.out.below hb (by omega))
  have HB2 := Lib.hid (HB.out.trans (hb.mono (by omega)))
  have hs2 : w.heap.size + 1 ≤ w2.heap.size := by have := hb.size; omega
  have HC := Lib.hid hc; clear hc
  clear hb HN HB
  have HCL := Lib.hid (show ([.string ⟨#[97, 110, 97, 109, 101]⟩, fv 132 (cap1 (w.heap.size + 1)), fv 134 (cap1 (w.heap.size + 1)), fv 136 (cap1 (w.heap.size + 1)), fv 138 (cap1 (w.heap.size + 1)), fv 139 (cap1 (w.heap.size + 1)), fv 141 (cap1 (w.heap.size + 1))] : List Value).toArray.all (·.oneCell') = true from by simp [Value.oneCell'])
  go_wp2_with (refine wstK HN2.out 0 [.string ⟨#[97, 110, 97, 109, 101]⟩, fv 132 (cap1 (w.heap.size + 1)), fv 134 (cap1 (w.heap.size + 1)), fv 136 (cap1 (w.heap.size + 1)), fv 138 (cap1 (w.heap.size + 1)), fv 139 (cap1 (w.heap.size + 1)), fv 141 (cap1 (w.heap.size + 1))] _ (over_fld _ _ _ _ _ _ _) (Nat.le_refl 7) HCL.out rfl _ _ _ rfl rfl rfl fld_size ?_; intro w3 hs ho; have HX := Lib.hid hs; have HO := Lib.hid (ho (fun i => i = w.heap.size) rfl w2 (Off.refl _ _)); clear hs ho)
  have hend := HB2.out.trans (HO.out.below (B := w.heap.size) (fun i hi => by omega) (by omega))
  exact bodyPost_ret (results_fld rfl rfl rfl HX.out) rfl ⟨rfl, hend, HO.out.blk HC.out (by omega)⟩
set_option maxRecDepth 100000 in
set_option maxHeartbeats 1600000 in
theorem fieldOf_ename (w : World) : Calls Tryz.prog 44 #[.int .u8 5] w fun e w' => e = .returned (.agg #[.string ⟨#[101, 110, 97, 109, 101]⟩, fv 132 (cap1 (w.heap.size + 1)), fv 134 (cap1 (w.heap.size + 1)), fv 136 (cap1 (w.heap.size + 1)), fv 138 (cap1 (w.heap.size + 1)), fv 139 (cap1 (w.heap.size + 1)), fv 141 (cap1 (w.heap.size + 1))]) ∧ Below w.heap.size w w' ∧ Blk w' (w.heap.size + 1) 138 #[fv 86 #[]] := by
  have hmf : ∀ (fn : Fn) (first cap : Array Value) (w : World), (Instr.makeFunc fn first cap).run Tryz.prog w = .ok (.func fn first cap) w := fun _ _ _ _ => rfl
  have HN := Lib.hid (Blk.new w 90 fldZ.toArray)
  have HB := Lib.hid ((Below.refl w.heap.size w).alloc (Nat.le_refl _) (.cells fldZ.toArray 90))
  have hsz : (w.alloc (.cells fldZ.toArray 90)).heap.size = w.heap.size + 1 := World.size_alloc _ _
  go_enter Tryz.func44, Tryz.ntmps44
  go_upto_region 1 with (fail)
  change Code.wp _ _ _ _ (w.alloc (.cells fldZ.toArray 90))
  generalize w.alloc (.cells fldZ.toArray 90) = w1 at HN HB hsz ⊢
  go_wp2_with fail
  refine (textF_calls ⟨#[101, 110, 97, 109, 101]⟩ 86 w1).mono ?_
  rintro e w2 ⟨rfl, hb, hc⟩
  rw [hsz] at hc ⊢
  have HN2 := Lib.hid (HN.out.below hb (by omega))
  have HB2 := Lib.hid (HB.out.trans (hb.mono (by omega)))
  have hs2 : w.heap.size + 1 ≤ w2.heap.size := by have := hb.size; omega
  have HC := Lib.hid hc; clear hc
  clear hb HN HB
  have HCL := Lib.hid (show ([.string ⟨#[101, 110, 97, 109, 101]⟩, fv 132 (cap1 (w.heap.size + 1)), fv 134 (cap1 (w.heap.size + 1)), fv 136 (cap1 (w.heap.size + 1)), fv 138 (cap1 (w.heap.size + 1)), fv 139 (cap1 (w.heap.size + 1)), fv 141 (cap1 (w.heap.size + 1))] : List Value).toArray.all (·.oneCell') = true from by simp [Value.oneCell'])
  go_wp2_with (refine wstK HN2.out 0 [.string ⟨#[101, 110, 97, 109, 101]⟩, fv 132 (cap1 (w.heap.size + 1)), fv 134 (cap1 (w.heap.size + 1)), fv 136 (cap1 (w.heap.size + 1)), fv 138 (cap1 (w.heap.size + 1)), fv 139 (cap1 (w.heap.size + 1)), fv 141 (cap1 (w.heap.size + 1))] _ (over_fld _ _ _ _ _ _ _) (Nat.le_refl 7) HCL.out rfl _ _ _ rfl rfl rfl fld_size ?_; intro w3 hs ho; have HX := Lib.hid hs; have HO := Lib.hid (ho (fun i => i = w.heap.size) rfl w2 (Off.refl _ _)); clear hs ho)
  have hend := HB2.out.trans (HO.out.below (B := w.heap.size) (fun i hi => by omega) (by omega))
  exact bodyPost_ret (results_fld rfl rfl rfl HX.out) rfl ⟨rfl, hend, HO.out.blk HC.out (by omega)⟩
set_option maxRecDepth 100000 in
set_option maxHeartbeats 1600000 in
theorem fieldOf_name (w : World) : Calls Tryz.prog 44 #[.int .u8 14] w fun e w' => e = .returned (.agg #[.string ⟨#[110, 97, 109, 101]⟩, fv 132 (cap1 (w.heap.size + 1)), fv 134 (cap1 (w.heap.size + 1)), fv 136 (cap1 (w.heap.size + 1)), fv 138 (cap1 (w.heap.size + 1)), fv 139 (cap1 (w.heap.size + 1)), fv 141 (cap1 (w.heap.size + 1))]) ∧ Below w.heap.size w w' ∧ Blk w' (w.heap.size + 1) 138 #[fv 87 #[]] := by
  have hmf : ∀ (fn : Fn) (first cap : Array Value) (w : World), (Instr.makeFunc fn first cap).run Tryz.prog w = .ok (.func fn first cap) w := fun _ _ _ _ => rfl
  have HN := Lib.hid (Blk.new w 90 fldZ.toArray)
  have HB := Lib.hid ((Below.refl w.heap.size w).alloc (Nat.le_refl _) (.cells fldZ.toArray 90))
  have hsz : (w.alloc (.cells fldZ.toArray 90)).heap.size = w.heap.size + 1 := World.size_alloc _ _
  go_enter Tryz.func44, Tryz.ntmps44
  go_upto_region 1 with (fail)
  change Code.wp _ _ _ _ (w.alloc (.cells fldZ.toArray 90))
  generalize w.alloc (.cells fldZ.toArray 90) = w1 at HN HB hsz ⊢
  go_wp2_with fail
  refine (textF_calls ⟨#[110, 97, 109, 101]⟩ 87 w1).mono ?_
  rintro e w2 ⟨rfl, hb, hc⟩
  rw [hsz] at hc ⊢
  have HN2 := Lib.hid (HN.out.below hb (by omega))
  have HB2 := Lib.hid (HB.out.trans (hb.mono (by omega)))
  have hs2 : w.heap.size + 1 ≤ w2.heap.size := by have := hb.size; omega
  have HC := Lib.hid hc; clear hc
  clear hb HN HB
  have HCL := Lib.hid (show ([.string ⟨#[110, 97, 109, 101]⟩, fv 132 (cap1 (w.heap.size + 1)), fv 134 (cap1 (w.heap.size + 1)), fv 136 (cap1 (w.heap.size + 1)), fv 138 (cap1 (w.heap.size + 1)), fv 139 (cap1 (w.heap.size + 1)), fv 141 (cap1 (w.heap.size + 1))] : List Value).toArray.all (·.oneCell') = true from by simp [Value.oneCell'])
  go_wp2_with (refine wstK HN2.out 0 [.string ⟨#[110, 97, 109, 101]⟩, fv 132 (cap1 (w.heap.size + 1)), fv 134 (cap1 (w.heap.size + 1)), fv 136 (cap1 (w.heap.size + 1)), fv 138 (cap1 (w.heap.size + 1)), fv 139 (cap1 (w.heap.size + 1)), fv 141 (cap1 (w.heap.size + 1))] _ (over_fld _ _ _ _ _ _ _) (Nat.le_refl 7) HCL.out rfl _ _ _ rfl rfl rfl fld_size ?_; intro w3 hs ho; have HX := Lib.hid hs; have HO := Lib.hid (ho (fun i => i = w.heap.size) rfl w2 (Off.refl _ _)); clear hs ho)
  have hend := HB2.out.trans (HO.out.below (B := w.heap.size) (fun i hi => by omega) (by omega))
  exact bodyPost_ret (results_fld rfl rfl rfl HX.out) rfl ⟨rfl, hend, HO.out.blk HC.out (by omega)⟩
/-- msg.fieldOf, at each field. -/
theorem fieldOf_calls (f : Fld) (w : World) : Calls Tryz.prog 44 #[.int .u8 (f.ix : Int)] w fun e w' => e = .returned (.agg (fldL f (w.heap.size + 1)).toArray) ∧ Below w.heap.size w w' ∧ FCap w' f (w.heap.size + 1) := by
  cases f
  case msize => refine (fieldOf_msize w).mono ?_; rintro e w' ⟨rfl, hb, hc⟩; exact ⟨rfl, hb, ⟨(by intro h; cases h), fun _ _ => hc⟩⟩
  case version => refine (fieldOf_version w).mono ?_; rintro e w' ⟨rfl, hb, hc⟩; exact ⟨rfl, hb, ⟨fun _ => hc, (by intro _ h; cases h)⟩⟩
  case afid => refine (fieldOf_afid w).mono ?_; rintro e w' ⟨rfl, hb, hc⟩; exact ⟨rfl, hb, ⟨(by intro h; cases h), fun _ _ => hc⟩⟩
  case uname => refine (fieldOf_uname w).mono ?_; rintro e w' ⟨rfl, hb, hc⟩; exact ⟨rfl, hb, ⟨fun _ => hc, (by intro _ h; cases h)⟩⟩
  case aname => refine (fieldOf_aname w).mono ?_; rintro e w' ⟨rfl, hb, hc⟩; exact ⟨rfl, hb, ⟨fun _ => hc, (by intro _ h; cases h)⟩⟩
  case ename => refine (fieldOf_ename w).mono ?_; rintro e w' ⟨rfl, hb, hc⟩; exact ⟨rfl, hb, ⟨fun _ => hc, (by intro _ h; cases h)⟩⟩
  case oldtag => refine (fieldOf_oldtag w).mono ?_; rintro e w' ⟨rfl, hb⟩; exact ⟨rfl, hb, ⟨(by intro h; cases h), (by intro h; cases h)⟩⟩
  case fid => refine (fieldOf_fid w).mono ?_; rintro e w' ⟨rfl, hb, hc⟩; exact ⟨rfl, hb, ⟨(by intro h; cases h), fun _ _ => hc⟩⟩
  case newfid => refine (fieldOf_newfid w).mono ?_; rintro e w' ⟨rfl, hb, hc⟩; exact ⟨rfl, hb, ⟨(by intro h; cases h), fun _ _ => hc⟩⟩
  case names => refine (fieldOf_names w).mono ?_; rintro e w' ⟨rfl, hb⟩; exact ⟨rfl, hb, ⟨(by intro h; cases h), (by intro h; cases h)⟩⟩
  case qids => refine (fieldOf_qids w).mono ?_; rintro e w' ⟨rfl, hb⟩; exact ⟨rfl, hb, ⟨(by intro h; cases h), (by intro h; cases h)⟩⟩
  case qid => refine (fieldOf_qid w).mono ?_; rintro e w' ⟨rfl, hb⟩; exact ⟨rfl, hb, ⟨(by intro h; cases h), (by intro h; cases h)⟩⟩
  case mode => refine (fieldOf_mode w).mono ?_; rintro e w' ⟨rfl, hb⟩; exact ⟨rfl, hb, ⟨(by intro h; cases h), (by intro h; cases h)⟩⟩
  case iounit => refine (fieldOf_iounit w).mono ?_; rintro e w' ⟨rfl, hb, hc⟩; exact ⟨rfl, hb, ⟨(by intro h; cases h), fun _ _ => hc⟩⟩
  case name => refine (fieldOf_name w).mono ?_; rintro e w' ⟨rfl, hb, hc⟩; exact ⟨rfl, hb, ⟨fun _ => hc, (by intro _ h; cases h)⟩⟩
  case perm => refine (fieldOf_perm w).mono ?_; rintro e w' ⟨rfl, hb, hc⟩; exact ⟨rfl, hb, ⟨(by intro h; cases h), fun _ _ => hc⟩⟩
  case offset => refine (fieldOf_offset w).mono ?_; rintro e w' ⟨rfl, hb⟩; exact ⟨rfl, hb, ⟨(by intro h; cases h), (by intro h; cases h)⟩⟩
  case count => refine (fieldOf_count w).mono ?_; rintro e w' ⟨rfl, hb, hc⟩; exact ⟨rfl, hb, ⟨(by intro h; cases h), fun _ _ => hc⟩⟩
  case data => refine (fieldOf_data w).mono ?_; rintro e w' ⟨rfl, hb⟩; exact ⟨rfl, hb, ⟨(by intro h; cases h), (by intro h; cases h)⟩⟩
  case stat => refine (fieldOf_stat w).mono ?_; rintro e w' ⟨rfl, hb⟩; exact ⟨rfl, hb, ⟨(by intro h; cases h), (by intro h; cases h)⟩⟩
end Go.Proofs.YtkblmloobkiloaaGreatDoor
