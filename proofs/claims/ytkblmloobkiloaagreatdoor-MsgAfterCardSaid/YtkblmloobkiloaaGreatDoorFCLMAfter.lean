/-
  THE STATEMENT MsgAfter: 'verger/vergerlaw03.MsgAfter' returns true for every input, and its arguments read as they did. Condition: the tables of unicode/utf8 and strconv start as the program lays them (tied).
-/
import Derived.Test.YtkblmloobkiloaaGreatDoorF35
import Derived.Test.YtkblmloobkiloaaGreatDoorF15
import Derived.Test.YtkblmloobkiloaaGreatDoorF03
import Derived.Test.YtkblmloobkiloaaGreatDoorCards
import Derived.ShutString
import Derived.ChangeOld
import Derived.Below
namespace Go.Proofs.YtkblmloobkiloaaGreatDoor.msgAfter
open Go.ChangeShapes Go.WideShapes Go.ChangeAt Go.RowKit
open Go.ChangeMaps (open_string shut_string)
set_option maxRecDepth 100000 in
theorem lifted(os:Os)(started:os.Started)(H:Type)(enc:TypeId×Value→H):
  ReturnsInHanded {} Tryz.checked os 6 .any (fun w args=>(Rows.msgAfterSpec.pre enc Tryz.prog Tryz.f6 Rows.msgAfterRow.domain false w args∧laidMetH Tryz.prog DZ w)∧sizedMet enc Tryz.prog Tryz.f6 (OpenSpec.ofChange Rows.msgAfterSpec) false w args)
   (Rows.msgAfterSpec.post enc Tryz.prog Tryz.f6 false true false false):=by
 refine xU (C:=Tryz.checked) (X:=fun w _=>laidMetH Tryz.prog DZ w) (fun _ _ _ hh h=>h.of_heap hh) Wi started (by kernel_rfl) Tryz.func6
  (ChangeSpec.witness_shaped (enc:=enc) (C:=Tryz.checked) (os:=os) (X:=fun w _=>laidMetH Tryz.prog DZ w) false (World.laidAll Tryz.prog os DZ) #[.slice none 0 0,.slice none 0 0,.slice none 0 0] 8 (World.laidAll_os _ _ _)
   (World.shaped_of_ZipB (by kernel_rfl) (by kernel_rfl)) (by kernel_rfl) (by kernel_rfl) (by kernel_rfl)
   (by rw[MakeChecks.laidMetH_plain _ _ _ (by kernel_rfl)];exact laidMet_laidAll _ (by kernel_rfl) (by kernel_rfl))) ?_
 intro W base args ds gs before hval0 hW hsz hL hS
 have hR:=JA hL hS
 have hval:∀(j:Nat) t v,Tryz.f6.params[j]? =some t→args[j]? =some v→Value.okWide Tryz.prog W .any base t v:=hval0
 have hW':=hW
 obtain⟨p,q,hA0,hV,rfl,_,_⟩:=hW
 have hA:DataW.TrodAll enc Tryz.prog W 0 (fun _=>true) true Tryz.f6.params.toList args.toList ds p:=hA0
 have hsz2:(DataW.weightsEach Tryz.prog (Tryz.f6.params.toList++Rows.msgAfterSpec.plain.varTypes Tryz.prog) (ds++gs)).all (· ≤reachBytes)=true:=hsz
 clear hsz
 rw[Tryz.params6]at hA hval hsz2
 obtain⟨v0,vs0,d0,ds0,p0,q0,hargs,rfl,rfl,h0,r0⟩:=trodAll_cons hA
 obtain⟨v1,vs1,d1,ds1,p1,q1,rfl,rfl,rfl,h1,r1⟩:=trodAll_cons r0
 obtain⟨v2,vs2,d2,ds2,p2,q2,rfl,rfl,rfl,h2,r2⟩:=trodAll_cons r1
 obtain⟨rfl,rfl,rfl⟩:=trodAll_nil r2
 obtain rfl:args= #[v0,v1,v2]:=by cases args;simp_all
 obtain⟨rfl,rfl⟩:=trodVars_none hV
 have k0:=h0
 have lt0:∀x∈p0,x.block<W.heap.size:=by obtain⟨m,hm⟩:=k0;exact DataW.trod_lt m _ _ _ hm
 obtain⟨a0,len0,cap0,rfl⟩:=okWide_slice Tryz.underlying53 (hval 0 53 v0 rfl rfl)
 obtain⟨c0,w0⟩:∃l,BK W W.heap.size (.slice a0 len0 cap0) l∧(∀x∈l,Came W x.1 x.2.1 x.2.2.1 x.2.2.2)∧l.length≤140737488355327:=by
  obtain⟨fuel,hf⟩:=h0
  obtain⟨v,l,e,hw⟩:=abd hf (fun k hk=>by simpa using List.all_eq_true.1 hsz2 k (DataW.weights_mem_each (j:=0) rfl rfl k hk))
  simp[Value.cells]at e
  subst e
  exact⟨l,hw⟩
 have k1:=h1
 have lt1:∀x∈p1,x.block<W.heap.size:=by obtain⟨m,hm⟩:=k1;exact DataW.trod_lt m _ _ _ hm
 obtain⟨a1,len1,cap1,rfl⟩:=okWide_slice Tryz.underlying33 (hval 1 33 v1 rfl rfl)
 obtain⟨c1,w1⟩:∃l,iW W W.heap.size (.slice a1 len1 cap1) l∧l.length≤140737488355327∧∀s∈l,s.size≤140737488355327:=by
  obtain⟨fuel,hf⟩:=h1
  obtain⟨v,l,e,hw⟩:=CQ hf
  simp[Value.cells]at e
  subst e
  exact⟨l,hw.1,hw.2 (fun k hk=>by simpa using List.all_eq_true.1 hsz2 k (DataW.weights_mem_each (j:=1) rfl rfl k hk))⟩
 have k2:=h2
 have lt2:∀x∈p2,x.block<W.heap.size:=by obtain⟨m,hm⟩:=k2;exact DataW.trod_lt m _ _ _ hm
 obtain⟨a2,len2,cap2,rfl⟩:=okWide_slice Tryz.underlying25 (hval 2 25 v2 rfl rfl)
 obtain⟨c2,w2⟩:∃l,Frs W W.heap.size (.slice a2 len2 cap2) l∧(∀x∈l,x.2.length≤140737488355327)∧l.length≤140737488355327:=by
  obtain⟨fuel,hf⟩:=h2
  obtain⟨v,l,e,hw⟩:=abm hf (fun k hk=>by simpa using List.all_eq_true.1 hsz2 k (DataW.weights_mem_each (j:=2) rfl rfl k hk))
  simp[Value.cells]at e
  subst e
  exact⟨l,hw⟩
 clear hA0 hval0
 refine(aa6 W hR _ _ _ c0 c1 c2 w0.1 w1.1 w2.1 w0.2.1 w0.2.2 w1.2.1 w1.2.2 w2.2.2 w2.2.1).mono fun e W' ⟨he,bel⟩=> ?_
 subst he
 exact⟨_,rfl,_,_,_,[],_,[],hW',trodAll_mk1 (shut_bool Tryz.underlying4 _),(trodAll_cons_mk (Below.trod MX (by kernel_rfl) (of_decide_eq_true (by kernel_rfl)) k0 bel lt0) (trodAll_cons_mk (Below.trod MX (by kernel_rfl) (of_decide_eq_true (by kernel_rfl)) k1 bel lt1) (trodAll_cons_mk (Below.trod MX (by kernel_rfl) (of_decide_eq_true (by kernel_rfl)) k2 bel lt2) trodAll_mk0))),rfl,bel.frame _,fun h=>by cases h⟩
set_option maxHeartbeats 12800000 in
theorem closed:joinedFacts Tryz.pinned.checked.prog 6 Tryz.f6 Rows.msgAfterSpec Rows.msgAfterRow=true:=by
 unfold joinedFacts
 simp only[Bool.and_eq_true]
 repeat' apply And.intro
 all_goals(as_aux_lemma=>kernel_rfl)
theorem over:Rows.MsgAfterSaid:=
 OpenClaim.holds_of_wide 6 Tryz.f6 rfl rfl rfl rfl rfl rfl rfl ⟨rfl,rfl,rfl,rfl,rfl⟩ rfl rfl rfl rfl rfl (by as_aux_lemma=>kernel_rfl) Tryz.func6 closed
  (of_decide_eq_true (by as_aux_lemma=>kernel_rfl)) (by unfold Func.isWrapper;first|(rw[if_pos (by decide+kernel)];as_aux_lemma=>kernel_rfl)|(rw[if_neg (by decide+kernel)];exact⟨rfl,rfl⟩))
  (fun os started H enc _=>lifted os started H enc)
theorem proved:Rows.MsgAfterCardSaid:=
 Claim7.holds_tied_plain_at .later [] [.data,.data,.data,.data,.sentinel,.sentinel,.pinned] true Rows.msgAfterCard.stood.harness true
  over (fun _ h=>by cases h) (by kernel_rfl) (fun _ h=>by cases h) msgAfter_row_tie rfl ⟨rfl,rfl⟩ (by kernel_rfl) rfl
  (fun f fn hf hfn=>by
   obtain rfl:f=6:=Option.some.inj ((show Tryz.prog.funcNamed "verger/vergerlaw03.MsgAfter" =some 6 by kernel_rfl).symm.trans hf) |>.symm
   obtain rfl:fn=Tryz.f6:=(Option.some.inj (Tryz.func6.symm.trans hfn)).symm
   exact⟨by kernel_rfl,fun j t ht=>by
    rw[Tryz.params6]at ht
    have hm:t∈ [53,33,25]:=by simpa using Array.mem_of_getElem? ht
    have hall:([53,33,25].all fun u=> !Tryz.prog.wantsStandIn u)=true:=by kernel_rfl
    exact(show Tryz.prog.wantsStandIn t=false by simpa using List.all_eq_true.1 hall t hm)⟩)
  (by kernel_rfl)
#print axioms proved
end Go.Proofs.YtkblmloobkiloaaGreatDoor.msgAfter
