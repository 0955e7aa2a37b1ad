/-
  Short forms (the state laid out behind each) of phrases that stand often in the walks.
-/
import Derived.Test.YtkblmloobkiloaaGreatDoorProg
import Derived.Lib.Hide
import Derived.OrdersHeld
import Derived.Deep.RegionHeld3
namespace Go.Proofs.YtkblmloobkiloaaGreatDoor
open Go.Lib (hid)
abbrev al(w:World)(l:List Value)(t:TypeId):World:=w.alloc (.cells l.toArray t)
theorem ah:(∀(a:Act) (d:Nat) (v:Value),a.put (some d) v= {a with tmps:=a.tmps.setIfInBounds d v})∧(∀(a:Act) (v:Value),a.put none v=a)∧
  (∀(l:List Value) (i:Nat) (x:Value),l.toArray.setIfInBounds i x=(l.set i x).toArray)∧(∀(x y:Value) (l:List Value),(x::l).set 0 y=y::l)∧
  (∀(x y:Value) (l:List Value) (n:Nat),(x::l).set (n+1) y=x::l.set n y):=
 ⟨fun _ _ _=>rfl,fun _ _=>rfl,fun _ _ _=>List.setIfInBounds_toArray ..,fun _ _ _=>rfl,fun _ _ _ _=>rfl⟩
theorem iF:∀(fn:Fn) (first cap:Array Value) (w:World),(Instr.makeFunc fn first cap).run Tryz.prog w= .ok (.func fn first cap) w:=fun _ _ _ _=>rfl
section
variable {P:Program} {ops:Array Oper} {Q:Exit→Act→World→Prop} {md:Region.Mode} {S:World→Prop} {oi:Oper} {fuel:Nat} {listed:Array Bool} {a a':Act} {w:World}
theorem tk(d i:Nat)(v:Value)(h:wpAnyH P md ops Q S fuel (listed.setIfInBounds i true) a' w)(ha:a.put (some d) v=a':=by simp only[ah];exact rfl)
  (hi:ops[i]? =some oi:=by exact rfl) (hd:oi.dst=some d:=by exact rfl) (hs:Region.noSelect ops=true:=by kernel_rfl) (hf:Region.free md ops listed i=true:=by kernel_rfl)
  (hr:(Region.ready md ops listed).contains i=true:=by kernel_rfl) (hQ:∀c a w,Q (.panic c) (a.put (some d) v) w→Q (.panic c) a w:=by exact fun _ _ _ h=>h)
  (hy:YieldsIf P ops S oi v a:=by exact Or.inl ⟨by rfl,fun wq hSw=>by go_simp⟩) (hS:S w:=by assumption):wpAnyH P md ops Q S (fuel+1) listed a w:=
 wpAnyH_take hi hs hf hr (by rw[hd];exact hQ) hy hS (by rw[hd,ha];exact h)
theorem tk2(d i:Nat)(v:Value)(hi:ops[i]? =some oi)(hy:∀wq,S wq→(execOp a.eval oi).run P wq= .ok (.value v) wq)(h:wpAnyH P md ops Q S fuel (listed.setIfInBounds i true) a' w)(ha:a.put (some d) v=a':=by simp only[ah];exact rfl)
  (hw:Region.wanted oi (yielded ops a.tmps)=true:=by rfl) (hd:oi.dst=some d:=by exact rfl) (hs:Region.noSelect ops=true:=by kernel_rfl) (hf:Region.free md ops listed i=true:=by kernel_rfl)
  (hr:(Region.ready md ops listed).contains i=true:=by kernel_rfl) (hQ:∀c a w,Q (.panic c) (a.put (some d) v) w→Q (.panic c) a w:=by exact fun _ _ _ h=>h) (hS:S w:=by assumption):wpAnyH P md ops Q S (fuel+1) listed a w:=
 wpAnyH_take hi hs hf hr (by rw[hd];exact hQ) (Or.inl ⟨hw,hy⟩) hS (by rw[hd,ha];exact h)
theorem tkU(d i:Nat)(h:wpAnyH P md ops Q S fuel (listed.setIfInBounds i true) a' w)(ha:a.put (some d) undef=a':=by simp only[ah];exact rfl)
  (hi:ops[i]? =some oi:=by exact rfl) (hd:oi.dst=some d:=by exact rfl) (hs:Region.noSelect ops=true:=by kernel_rfl) (hf:Region.free md ops listed i=true:=by kernel_rfl)
  (hr:(Region.ready md ops listed).contains i=true:=by kernel_rfl) (hQ:∀c a w,Q (.panic c) (a.put (some d) undef) w→Q (.panic c) a w:=by exact fun _ _ _ h=>h)
  (hw:Region.wanted oi (yielded ops a.tmps)=false:=by rfl) (hS:S w:=by assumption):wpAnyH P md ops Q S (fuel+1) listed a w:=
 wpAnyH_take hi hs hf hr (by rw[hd];exact hQ) (Or.inr ⟨hw,rfl⟩) hS (by rw[hd,ha];exact h)
end
end Go.Proofs.YtkblmloobkiloaaGreatDoor
