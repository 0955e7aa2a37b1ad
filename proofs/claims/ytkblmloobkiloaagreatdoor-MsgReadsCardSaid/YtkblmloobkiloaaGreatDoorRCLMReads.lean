/-
  THE STATEMENT MsgReads: 'verger/vergerlaw03.MsgReads' returns true for every input, and its arguments read as they did. Condition: the tables of unicode/utf8 and strconv start as the program lays them (tied).
-/
import Derived.Test.YtkblmloobkiloaaGreatDoorR36
import Derived.Test.YtkblmloobkiloaaGreatDoorR28
import Derived.Test.YtkblmloobkiloaaGreatDoorR35
import Derived.Test.YtkblmloobkiloaaGreatDoorCards
import Derived.ShutString
import Derived.ChangeOld
import Derived.Below
namespace Go.Proofs.YtkblmloobkiloaaGreatDoor.msgReads
open Go.ChangeShapes Go.WideShapes Go.ChangeAt Go.RowKit
open Go.ChangeMaps (open_string shut_string)
set_option maxRecDepth 100000 in
theorem lifted(os:Os)(started:os.Started)(H:Type)(enc:TypeId×Value→H):
  ReturnsInHanded {} Tryz.checked os 3 .any (fun w args=>(Rows.msgReadsSpec.pre enc Tryz.prog Tryz.f3 Rows.msgReadsRow.domain false w args∧laidMetH Tryz.prog DZ w)∧sizedMet enc Tryz.prog Tryz.f3 (OpenSpec.ofChange Rows.msgReadsSpec) false w args)
   (Rows.msgReadsSpec.post enc Tryz.prog Tryz.f3 false true false false):=by
 refine xU (C:=Tryz.checked) (X:=fun w _=>laidMetH Tryz.prog DZ w) (fun _ _ _ hh h=>h.of_heap hh) Wi started (by kernel_rfl) Tryz.func3
  (ChangeSpec.witness_shaped (enc:=enc) (C:=Tryz.checked) (os:=os) (X:=fun w _=>laidMetH Tryz.prog DZ w) false (World.laidAll Tryz.prog os DZ) #[.slice none 0 0,.int .i64 0,.int .u8 0] 8 (World.laidAll_os _ _ _)
   (World.shaped_of_ZipB (by kernel_rfl) (by kernel_rfl)) (by kernel_rfl) (by kernel_rfl) (by kernel_rfl)
   (by rw[MakeChecks.laidMetH_plain _ _ _ (by kernel_rfl)];exact laidMet_laidAll _ (by kernel_rfl) (by kernel_rfl))) ?_
 intro W base args ds gs before hval0 hW hsz hL hS
 have hR:=JA hL hS
 have hval:∀(j:Nat) t v,Tryz.f3.params[j]? =some t→args[j]? =some v→Value.okWide Tryz.prog W .any base t v:=hval0
 have hW':=hW
 obtain⟨p,q,hA0,hV,rfl,_,_⟩:=hW
 have hA:DataW.TrodAll enc Tryz.prog W 0 (fun _=>true) true Tryz.f3.params.toList args.toList ds p:=hA0
 have hsz2:(DataW.weightsEach Tryz.prog (Tryz.f3.params.toList++Rows.msgReadsSpec.plain.varTypes Tryz.prog) (ds++gs)).all (· ≤reachBytes)=true:=hsz
 clear hsz
 rw[Tryz.params3]at hA hval hsz2
 obtain⟨v0,vs0,d0,ds0,p0,q0,hargs,rfl,rfl,h0,r0⟩:=trodAll_cons hA
 obtain⟨v1,vs1,d1,ds1,p1,q1,rfl,rfl,rfl,h1,r1⟩:=trodAll_cons r0
 obtain⟨v2,vs2,d2,ds2,p2,q2,rfl,rfl,rfl,h2,r2⟩:=trodAll_cons r1
 obtain⟨rfl,rfl,rfl⟩:=trodAll_nil r2
 obtain rfl:args= #[v0,v1,v2]:=by cases args;simp_all
 obtain⟨rfl,rfl⟩:=trodVars_none hV
 have k0:=h0
 have lt0:∀x∈p0,x.block<W.heap.size:=by obtain⟨m,hm⟩:=k0;exact DataW.trod_lt m _ _ _ hm
 obtain⟨a0,len0,cap0,rfl⟩:=okWide_slice Tryz.underlying22 (hval 0 22 v0 rfl rfl)
 obtain⟨c0,w0⟩:∃l,Bys W W.heap.size (.slice a0 len0 cap0) l:=by
  obtain⟨fuel,hf⟩:=h0
  obtain⟨v,l,e,hw⟩:=Nq hf
  simp[Value.cells]at e
  subst e
  exact⟨l,hw⟩
 obtain⟨a1,rfl,rfl,rfl,w1⟩:=open_int Tryz.underlying3 (hval 1 3 v1 rfl rfl) h1
 obtain⟨a2,rfl,rfl,rfl,w2⟩:=open_int Tryz.underlying5 (hval 2 5 v2 rfl rfl) h2
 clear hA0 hval0
 refine(Eh (.slice a0 len0 cap0) c0 a1 a2 W hR w0 w1 w2).mono fun e W' ⟨he,bel⟩=> ?_
 subst he
 exact⟨_,rfl,_,_,_,[],_,[],hW',trodAll_mk1 (shut_bool Tryz.underlying4 _),(trodAll_cons_mk (Below.trod MX (by kernel_rfl) (of_decide_eq_true (by kernel_rfl)) k0 bel lt0) (trodAll_cons_mk (shut_int Tryz.underlying3 w1) (trodAll_cons_mk (shut_int Tryz.underlying5 w2) trodAll_mk0))),rfl,bel.frame _,fun h=>by cases h⟩
set_option maxHeartbeats 12800000 in
theorem closed:joinedFacts Tryz.pinned.checked.prog 3 Tryz.f3 Rows.msgReadsSpec Rows.msgReadsRow=true:=by
 unfold joinedFacts
 simp only[Bool.and_eq_true]
 repeat' apply And.intro
 all_goals(as_aux_lemma=>kernel_rfl)
theorem over:Rows.MsgReadsSaid:=
 OpenClaim.holds_of_wide 3 Tryz.f3 rfl rfl rfl rfl rfl rfl rfl ⟨rfl,rfl,rfl,rfl,rfl⟩ rfl rfl rfl rfl rfl (by as_aux_lemma=>kernel_rfl) Tryz.func3 closed
  (of_decide_eq_true (by as_aux_lemma=>kernel_rfl)) (by unfold Func.isWrapper;first|(rw[if_pos (by decide+kernel)];as_aux_lemma=>kernel_rfl)|(rw[if_neg (by decide+kernel)];exact⟨rfl,rfl⟩))
  (fun os started H enc _=>lifted os started H enc)
theorem proved:Rows.MsgReadsCardSaid:=
 Claim7.holds_tied_plain_at .later [] [.data,.data,.data,.data,.sentinel,.sentinel,.pinned] true Rows.msgReadsCard.stood.harness true
  over (fun _ h=>by cases h) (by kernel_rfl) (fun _ h=>by cases h) msgReads_row_tie rfl ⟨rfl,rfl⟩ (by kernel_rfl) rfl
  (fun f fn hf hfn=>by
   obtain rfl:f=3:=Option.some.inj ((show Tryz.prog.funcNamed "verger/vergerlaw03.MsgReads" =some 3 by kernel_rfl).symm.trans hf) |>.symm
   obtain rfl:fn=Tryz.f3:=(Option.some.inj (Tryz.func3.symm.trans hfn)).symm
   exact⟨by kernel_rfl,fun j t ht=>by
    rw[Tryz.params3]at ht
    have hm:t∈ [22,3,5]:=by simpa using Array.mem_of_getElem? ht
    have hall:([22,3,5].all fun u=> !Tryz.prog.wantsStandIn u)=true:=by kernel_rfl
    exact(show Tryz.prog.wantsStandIn t=false by simpa using List.all_eq_true.1 hall t hm)⟩)
  (by kernel_rfl)
#print axioms proved
end Go.Proofs.YtkblmloobkiloaaGreatDoor.msgReads
