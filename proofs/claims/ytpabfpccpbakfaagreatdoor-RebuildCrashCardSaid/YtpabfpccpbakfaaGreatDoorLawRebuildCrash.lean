/-
  The row of the law RebuildCrash, out of its walk (X).
-/
import Derived.Test.YtpabfpccpbakfaaGreatDoorRows
import Derived.Test.YtpabfpccpbakfaaGreatDoorCards
import Derived.Test.YtpabfpccpbakfaaGreatDoorTie
import Derived.Test.YtpabfpccpbakfaaGreatDoorV91
import Derived.Test.YtpabfpccpbakfaaGreatDoorXRow
import Derived.WalkKit
import Derived.ProofKit
import Derived.OpenShut
import Derived.ShutString
import Derived.ChangeOld
import Derived.Below
import Derived.SizedLaws
import Derived.Carry
import Derived.LaidMore
import Derived.LaidLaws
import Derived.Lay
import Derived.SevenTiedAt
import Derived.Stop.Joined
namespace Go.Proofs.YtpabfpccpbakfaaGreatDoor.rebuildCrash
open Go.ChangeShapes Go.WideShapes Go.ChangeAt Go.RowKit
open Go.ChangeMaps (open_string shut_string)
set_option linter.unusedVariables false
theorem own:ownKnob Tryz.prog.godebug=none:=by kernel_rfl
theorem laidOut:laidOutB Tryz.prog=true:=by kernel_rfl
set_option maxRecDepth 100000 in
theorem lifted (os:Os) (started:os.Started) (H:Type) (enc:TypeId×Value→H) :
  ReturnsInHanded {} Tryz.checked os 4 .any (fun w args=>(Rows.rebuildCrashSpec.pre enc Tryz.prog Tryz.f4 Rows.rebuildCrashRow.domain false w args∧laidMetH Tryz.prog Rows.rebuildCrashRow.laid w)∧sizedMet enc Tryz.prog Tryz.f4 (OpenSpec.ofChange Rows.rebuildCrashSpec) false w args) (Rows.rebuildCrashSpec.post enc Tryz.prog Tryz.f4 false true false false):=by
 refine returnsInHanded_of_change_and (C:=Tryz.checked) (X:=fun w _=>laidMetH Tryz.prog Rows.rebuildCrashRow.laid w) (fun _ _ _ hh h=>h.of_heap hh) own started (by kernel_rfl) Tryz.func4
  (ChangeSpec.witness_shaped (enc:=enc) (C:=Tryz.checked) (os:=os) (X:=fun w _=>laidMetH Tryz.prog Rows.rebuildCrashRow.laid w) false (World.laidAll Tryz.prog os Rows.rebuildCrashRow.laid) #[.agg #[.int .i64 0,.int .i64 0,.int .i64 0,.int .i64 0,.int .i64 0,.slice none 0 0,.int .i64 0,.slice none 0 0,.slice none 0 0]] 8 (World.laidAll_os _ _ _)
   (World.shaped_of_ZipB (by kernel_rfl) (by kernel_rfl)) (by kernel_rfl) (by kernel_rfl) (by kernel_rfl)
   (by rw [MakeChecks.laidMetH_plain _ _ _ (by kernel_rfl)];exact laidMet_laidAll _ (by kernel_rfl) (by kernel_rfl))) ?_
 intro W base args ds gs before hval0 hW hcnd hsz0 hLaid _
 have hsz:(DataW.weightsEach Tryz.prog (Tryz.f4.params.toList ++ Rows.rebuildCrashSpec.plain.varTypes Tryz.prog) (ds ++ gs)).all (· ≤ reachBytes)=true:=hsz0
 have hval:∀ (j:Nat) t v,Tryz.f4.params[j]? = some t→args[j]? = some v→Value.okWide Tryz.prog W .any base t v:=hval0
 have hW':=hW
 obtain ⟨p,q,hA0,hV,rfl,hfz,hnd⟩:=hW
 have hA:DataW.TrodAll enc Tryz.prog W 0 (fun _=>true) true Tryz.f4.params.toList args.toList ds p:=hA0
 rw [Tryz.params4] at hA hval
 obtain ⟨v0,vs0,d0,ds0,p0,q0,hargs,rfl,rfl,h0,r0⟩:=trodAll_cons hA
 obtain ⟨rfl,rfl,rfl⟩:=trodAll_nil r0
 obtain rfl:args = #[v0]:=by cases args;simp_all
 obtain ⟨rfl,rfl⟩:=trodVars_none hV
 have e0:=okWide_struct Tryz.underlying56 (hval 0 56 v0 rfl rfl)
 have lt0:∀ x∈p0,x.block < W.heap.size:=by obtain ⟨m,hm⟩:=h0;exact DataW.trod_lt m _ _ _ hm
 obtain ⟨g0,n0,m0,s0,y0,c0,w0a,w0b,w0c⟩:=X.A47 hsz (j:=0) (t:=56) rfl rfl Tryz.underlying56 ⟨rfl,rfl,rfl,rfl⟩ ⟨by kernel_rfl,by kernel_rfl,by kernel_rfl,by kernel_rfl,by kernel_rfl⟩ ⟨Tryz.underlying23,⟨rfl,rfl,rfl,rfl,rfl⟩,⟨by kernel_rfl,by kernel_rfl,by kernel_rfl,by kernel_rfl,by kernel_rfl,by kernel_rfl⟩,Tryz.underlying3,Tryz.underlying3,Tryz.underlying3,Tryz.underlying3,Tryz.underlying3⟩ (X.rd_SL Tryz.underlying24 Tryz.underlying9 (by kernel_rfl) (of_decide_eq_true (by kernel_rfl))) (X.Aeu Tryz.underlying3) (X.rd_S2 Tryz.underlying54 ⟨rfl,rfl⟩ ⟨by kernel_rfl,by kernel_rfl,by kernel_rfl⟩ (X.rd_IL Tryz.underlying26 Tryz.underlying3 (by kernel_rfl) (of_decide_eq_true (by kernel_rfl))) (X.rd_OL Tryz.underlying27 Tryz.underlying4 (by kernel_rfl) (of_decide_eq_true (by kernel_rfl)))) h0 e0
 clear hA0 hval0 hsz0
 refine ((X.Sj g0 n0 m0 s0 c0 w0a w0b w0c).2 (fun B=>B < W.heap.size) W [v0] (fun _ h=>h) (X.Cells.cons y0 X.Cells.nil)).mono fun e W' ⟨v,he,bel,hv⟩=> ?_
 cases hv
 subst he
 exact ⟨_,rfl,_,_,_,[],_,[],hW',trodAll_mk1 (shut_bool Tryz.underlying4 _),(trodAll_cons_mk (Below.trod laidOut (by kernel_rfl) (of_decide_eq_true (by kernel_rfl)) h0 bel lt0) trodAll_mk0),rfl,bel.frame _,fun h=>by cases h⟩
theorem over:Rows.rebuildCrashRow.holds Tryz.pinned (OpenSpec.ofChange Rows.rebuildCrashSpec) :=
 OpenClaim.holds_of_wide 4 Tryz.f4 rfl rfl rfl rfl rfl rfl rfl ⟨rfl,rfl,rfl,rfl,rfl⟩ rfl rfl rfl rfl rfl (by kernel_rfl) Tryz.func4 (by kernel_rfl)
  (of_decide_eq_true (by kernel_rfl)) (by unfold Func.isWrapper;first|(rw [if_pos (by decide+kernel)];kernel_rfl)|(rw [if_neg (by decide+kernel)];exact ⟨rfl,rfl⟩))
  (fun os started H enc _=>lifted os started H enc)
theorem proved:Rows.RebuildCrashSaid:=over
end Go.Proofs.YtpabfpccpbakfaaGreatDoor.rebuildCrash
namespace Go.Proofs.YtpabfpccpbakfaaGreatDoor
theorem rebuildCrash_holds:Rows.RebuildCrashSaid:=rebuildCrash.proved
theorem rebuildCrash_cardholds:Rows.RebuildCrashCardSaid :=
 Claim7.holds_tied_plain_at .later [] [.data, .pinned] true (true, "73e42d2e767d34ec6a0d280256a251a716ac408de77d8b8efb2c4694cdc77818") true rebuildCrash_holds (fun _ h => by cases h) (by kernel_rfl) (fun _ h => by cases h) rebuildCrash_row_tie rfl ⟨rfl, rfl⟩ (by kernel_rfl) rfl
  (fun f fn hf hfn=>by
   obtain rfl : f = 4 := Option.some.inj ((show Tryz.prog.funcNamed "sheetpile/sheetpilelaw18.RebuildCrash" = some 4 by kernel_rfl).symm.trans hf) |>.symm
   obtain rfl:fn=Tryz.f4:=(Option.some.inj (Tryz.func4.symm.trans hfn)).symm
   exact ⟨by kernel_rfl,fun j t ht=>by
    rw [Tryz.params4] at ht
    have hm:t∈[56]:=by simpa using Array.mem_of_getElem? ht
    have hall:([56].all fun u => !Tryz.prog.wantsStandIn u)=true:=by kernel_rfl
    exact (show Tryz.prog.wantsStandIn t=false by simpa using List.all_eq_true.1 hall t hm)⟩)
  (by kernel_rfl)
#print axioms rebuildCrash_cardholds
end Go.Proofs.YtpabfpccpbakfaaGreatDoor
