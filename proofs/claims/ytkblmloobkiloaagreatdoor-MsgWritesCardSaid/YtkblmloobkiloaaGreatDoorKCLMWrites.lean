/-
  THE STATEMENT MsgWrites: 'verger/vergerlaw03.MsgWrites' returns true for every input, and its arguments read as they did. Condition: the tables of unicode/utf8 and strconv start as the program lays them (tied).
-/
import Derived.Test.YtkblmloobkiloaaGreatDoorK28
import Derived.Test.YtkblmloobkiloaaGreatDoorK14
import Derived.Test.YtkblmloobkiloaaGreatDoorK25
import Derived.Test.YtkblmloobkiloaaGreatDoorCards
import Derived.ShutString
import Derived.ChangeOld
import Derived.Below
namespace Go.Proofs.YtkblmloobkiloaaGreatDoor.msgWrites
open Go.ChangeShapes Go.WideShapes Go.ChangeAt Go.RowKit
open Go.ChangeMaps (open_string shut_string)
set_option maxRecDepth 100000 in
theorem lifted(os:Os)(started:os.Started)(H:Type)(enc:TypeId×Value→H):
  ReturnsInHanded {} Tryz.checked os 7 .any (fun w args=>(Rows.msgWritesSpec.pre enc Tryz.prog Tryz.f7 Rows.msgWritesRow.domain false w args∧laidMetH Tryz.prog DZ w)∧sizedMet enc Tryz.prog Tryz.f7 (OpenSpec.ofChange Rows.msgWritesSpec) false w args)
   (Rows.msgWritesSpec.post enc Tryz.prog Tryz.f7 false true false false):=by
 refine xU (C:=Tryz.checked) (X:=fun w _=>laidMetH Tryz.prog DZ w) (fun _ _ _ hh h=>h.of_heap hh) Wi started (by kernel_rfl) Tryz.func7
  (ChangeSpec.witness_shaped (enc:=enc) (C:=Tryz.checked) (os:=os) (X:=fun w _=>laidMetH Tryz.prog DZ w) false (World.laidAll Tryz.prog os DZ) #[.agg #[.int .u8 0,.int .u16 0,.int .u32 0,.string ⟨#[]⟩,.int .u32 0,.string ⟨#[]⟩,.string ⟨#[]⟩,.string ⟨#[]⟩,.int .u16 0,.int .u32 0,.int .u32 0,.slice none 0 0,.slice none 0 0,.int .u8 0,.int .u32 0,.int .u64 0,.int .u8 0,.int .u32 0,.string ⟨#[]⟩,.int .u32 0,.int .u64 0,.int .u32 0,.slice none 0 0,.int .u16 0,.int .u32 0,.int .u8 0,.int .u32 0,.int .u64 0,.int .u32 0,.int .u32 0,.int .u32 0,.int .u64 0,.string ⟨#[]⟩,.string ⟨#[]⟩,.string ⟨#[]⟩,.string ⟨#[]⟩]] 8 (World.laidAll_os _ _ _)
   (World.shaped_of_ZipB (by kernel_rfl) (by kernel_rfl)) (by kernel_rfl) (by kernel_rfl) (by kernel_rfl)
   (by rw[MakeChecks.laidMetH_plain _ _ _ (by kernel_rfl)];exact laidMet_laidAll _ (by kernel_rfl) (by kernel_rfl))) ?_
 intro W base args ds gs before hval0 hW hsz hL hS
 have hR:=JA hL hS
 have hval:∀(j:Nat) t v,Tryz.f7.params[j]? =some t→args[j]? =some v→Value.okWide Tryz.prog W .any base t v:=hval0
 have hW':=hW
 obtain⟨p,q,hA0,hV,rfl,_,_⟩:=hW
 have hA:DataW.TrodAll enc Tryz.prog W 0 (fun _=>true) true Tryz.f7.params.toList args.toList ds p:=hA0
 have hsz2:(DataW.weightsEach Tryz.prog (Tryz.f7.params.toList++Rows.msgWritesSpec.plain.varTypes Tryz.prog) (ds++gs)).all (· ≤reachBytes)=true:=hsz
 clear hsz
 rw[Tryz.params7]at hA hval hsz2
 obtain⟨v0,vs0,d0,ds0,p0,q0,hargs,rfl,rfl,h0,r0⟩:=trodAll_cons hA
 obtain⟨rfl,rfl,rfl⟩:=trodAll_nil r0
 obtain rfl:args= #[v0]:=by cases args;simp_all
 obtain⟨rfl,rfl⟩:=trodVars_none hV
 have k0:=h0
 have lt0:∀x∈p0,x.block<W.heap.size:=by obtain⟨m,hm⟩:=k0;exact DataW.trod_lt m _ _ _ hm
 obtain⟨m0,vn0,vq0,vd0,rfl,cm0⟩:=ad9 (hval 0 41 v0 rfl rfl) h0 (fun k hk=>by simpa using List.all_eq_true.1 hsz2 k (DataW.weights_mem_each (j:=0) rfl rfl k hk))
 clear hA0 hval0
 refine(acY m0 vn0 vq0 vd0 W hR cm0).mono fun e W' ⟨he,bel⟩=> ?_
 subst he
 exact⟨_,rfl,_,_,_,[],_,[],hW',trodAll_mk1 (shut_bool Tryz.underlying4 _),(trodAll_cons_mk (Below.trod MX (by kernel_rfl) (of_decide_eq_true (by kernel_rfl)) k0 bel lt0) trodAll_mk0),rfl,bel.frame _,fun h=>by cases h⟩
set_option maxHeartbeats 12800000 in
theorem closed:joinedFacts Tryz.pinned.checked.prog 7 Tryz.f7 Rows.msgWritesSpec Rows.msgWritesRow=true:=by
 unfold joinedFacts
 simp only[Bool.and_eq_true]
 repeat' apply And.intro
 all_goals(as_aux_lemma=>kernel_rfl)
theorem over:Rows.MsgWritesSaid:=
 OpenClaim.holds_of_wide 7 Tryz.f7 rfl rfl rfl rfl rfl rfl rfl ⟨rfl,rfl,rfl,rfl,rfl⟩ rfl rfl rfl rfl rfl (by as_aux_lemma=>kernel_rfl) Tryz.func7 closed
  (of_decide_eq_true (by as_aux_lemma=>kernel_rfl)) (by unfold Func.isWrapper;first|(rw[if_pos (by decide+kernel)];as_aux_lemma=>kernel_rfl)|(rw[if_neg (by decide+kernel)];exact⟨rfl,rfl⟩))
  (fun os started H enc _=>lifted os started H enc)
theorem proved:Rows.MsgWritesCardSaid:=
 Claim7.holds_tied_plain_at .later [] [.data,.data,.data,.data,.sentinel,.sentinel,.pinned] true Rows.msgWritesCard.stood.harness true
  over (fun _ h=>by cases h) (by kernel_rfl) (fun _ h=>by cases h) msgWrites_row_tie rfl ⟨rfl,rfl⟩ (by kernel_rfl) rfl
  (fun f fn hf hfn=>by
   obtain rfl:f=7:=Option.some.inj ((show Tryz.prog.funcNamed "verger/vergerlaw03.MsgWrites" =some 7 by kernel_rfl).symm.trans hf) |>.symm
   obtain rfl:fn=Tryz.f7:=(Option.some.inj (Tryz.func7.symm.trans hfn)).symm
   exact⟨by kernel_rfl,fun j t ht=>by
    rw[Tryz.params7]at ht
    have hm:t∈ [41]:=by simpa using Array.mem_of_getElem? ht
    have hall:([41].all fun u=> !Tryz.prog.wantsStandIn u)=true:=by kernel_rfl
    exact(show Tryz.prog.wantsStandIn t=false by simpa using List.all_eq_true.1 hall t hm)⟩)
  (by kernel_rfl)
#print axioms proved
end Go.Proofs.YtkblmloobkiloaaGreatDoor.msgWrites
