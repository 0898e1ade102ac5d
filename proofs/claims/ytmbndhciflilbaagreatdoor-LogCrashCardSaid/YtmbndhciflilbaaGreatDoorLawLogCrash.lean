/-
  The row of the law LogCrash, out of its walk (X).
-/
import Derived.Test.YtmbndhciflilbaaGreatDoorRows
import Derived.Test.YtmbndhciflilbaaGreatDoorCards
import Derived.Test.YtmbndhciflilbaaGreatDoorTie
import Derived.Test.YtmbndhciflilbaaGreatDoorW14
import Derived.Test.YtmbndhciflilbaaGreatDoorXRow
import Derived.WalkKit
import Derived.ProofKit
import Derived.OpenShut
import Derived.ShutString
import Derived.ChangeOld
import Derived.Below
import Derived.SizedLaws
import Derived.Carry
import Derived.LaidMore
import Derived.LaidLaws
import Derived.Lay
import Derived.SevenTiedAt
import Derived.Stop.Joined
namespace Go.Proofs.YtmbndhciflilbaaGreatDoor.logCrash
open Go.ChangeShapes Go.WideShapes Go.ChangeAt Go.RowKit
open Go.ChangeMaps (open_string shut_string)
set_option linter.unusedVariables false
theorem own:ownKnob Tryz.prog.godebug=none:=by kernel_rfl
theorem laidOut:laidOutB Tryz.prog=true:=by kernel_rfl
set_option maxRecDepth 100000 in
theorem lifted (os:Os) (started:os.Started) (H:Type) (enc:TypeId×Value→H) :
  ReturnsInHanded {} Tryz.checked os 8 .any (fun w args=>(Rows.logCrashSpec.pre enc Tryz.prog Tryz.f8 Rows.logCrashRow.domain false w args∧laidMetH Tryz.prog Rows.logCrashRow.laid w)∧sizedMet enc Tryz.prog Tryz.f8 (OpenSpec.ofChange Rows.logCrashSpec) false w args) (Rows.logCrashSpec.post enc Tryz.prog Tryz.f8 false true false false):=by
 refine returnsInHanded_of_change_and (C:=Tryz.checked) (X:=fun w _=>laidMetH Tryz.prog Rows.logCrashRow.laid w) (fun _ _ _ hh h=>h.of_heap hh) own started κ Tryz.func8
  (ChangeSpec.witness_shaped (enc:=enc) (C:=Tryz.checked) (os:=os) (X:=fun w _=>laidMetH Tryz.prog Rows.logCrashRow.laid w) false (World.laidAll Tryz.prog os Rows.logCrashRow.laid) #[.agg #[.int .i64 0,.int .i64 0,.int .i64 0,.int .i64 0,.int .i64 0,.slice none 0 0,.int .i64 0,.slice none 0 0]] 8 (World.laidAll_os _ _ _)
   (World.shaped_of_ZipB κ κ) κ κ κ
   (by rw [MakeChecks.laidMetH_plain _ _ _ κ];exact laidMet_laidAll _ κ κ)) ?_
 intro W base args ds gs before hval0 hW hcnd hsz0 hLaid _
 have hsz:(DataW.weightsEach Tryz.prog (Tryz.f8.params.toList ++ Rows.logCrashSpec.plain.varTypes Tryz.prog) (ds ++ gs)).all (· ≤ reachBytes)=true:=hsz0
 have hval:∀ (j:Nat) t v,Tryz.f8.params[j]? = some t→args[j]? = some v→Value.okWide Tryz.prog W .any base t v:=hval0
 have hW':=hW
 obtain ⟨p,q,hA0,hV,rfl,hfz,hnd⟩:=hW
 have hA:DataW.TrodAll enc Tryz.prog W 0 (fun _=>true) true Tryz.f8.params.toList args.toList ds p:=hA0
 rw [Tryz.params8] at hA hval
 obtain ⟨v0,vs0,d0,ds0,p0,q0,hargs,rfl,rfl,h0,r0⟩:=trodAll_cons hA
 obtain ⟨rfl,rfl,rfl⟩:=trodAll_nil r0
 obtain rfl:args = #[v0]:=by cases args;simp_all
 obtain ⟨rfl,rfl⟩:=trodVars_none hV
 have e0:=okWide_struct Tryz.underlying58 (hval 0 58 v0 rfl rfl)
 have lt0:∀ x∈p0,x.block < W.heap.size:=by obtain ⟨m,hm⟩:=h0;exact DataW.trod_lt m _ _ _ hm
 obtain ⟨g0,n0,m0,s0,y0,c0,w0a,w0b,w0c⟩:=X.Ah5 hsz (j:=0) (t:=58) rfl rfl Tryz.underlying58 ⟨rfl,rfl,rfl,rfl⟩ ⟨κ,κ,κ,κ,κ⟩ ⟨Tryz.underlying23,⟨rfl,rfl,rfl,rfl,rfl⟩,⟨κ,κ,κ,κ,κ,κ⟩,Tryz.underlying3,Tryz.underlying3,Tryz.underlying3,Tryz.underlying3,Tryz.underlying3⟩ (X.rd_TR 3 Tryz.underlying24 κ ν (fun _=>rfl) ⟨⟨0,0,[]⟩⟩ (of_decide_eq_true κ) (X.Ah6 Tryz.underlying40 ⟨rfl,rfl,rfl⟩ ⟨κ,κ,κ,κ⟩ Tryz.underlying3 Tryz.underlying3 Tryz.underlying9)) (X.rd_int Tryz.underlying3) (X.rd_OL Tryz.underlying56 Tryz.underlying4 κ (of_decide_eq_true κ)) h0 e0
 clear hA0 hval0 hsz0
 refine ((X.Yc g0 n0 m0 s0 c0 w0a w0b w0c).2 (fun B=>B < W.heap.size) W [v0] (fun _ h=>h) (X.Cells.cons y0 X.Cells.nil)).mono fun e W' ⟨v,he,bel,hv⟩=> ?_
 cases hv
 subst he
 exact ⟨_,rfl,_,_,_,[],_,[],hW',trodAll_mk1 (shut_bool Tryz.underlying4 _),(trodAll_cons_mk (Below.trod laidOut κ (of_decide_eq_true κ) h0 bel lt0) trodAll_mk0),rfl,bel.frame _,fun h=>by cases h⟩
theorem over:Rows.logCrashRow.holds Tryz.pinned (OpenSpec.ofChange Rows.logCrashSpec) :=
 OpenClaim.holds_of_wide 8 Tryz.f8 rfl rfl rfl rfl rfl rfl rfl ⟨rfl,rfl,rfl,rfl,rfl⟩ rfl rfl rfl rfl rfl κ Tryz.func8 κ
  (of_decide_eq_true κ) (by unfold Func.isWrapper;first|(rw [if_pos (by decide+kernel)];kernel_rfl)|(rw [if_neg (by decide+kernel)];exact ⟨rfl,rfl⟩))
  (fun os started H enc _=>lifted os started H enc)
theorem proved:Rows.LogCrashSaid:=over
end Go.Proofs.YtmbndhciflilbaaGreatDoor.logCrash
namespace Go.Proofs.YtmbndhciflilbaaGreatDoor
theorem logCrash_holds:Rows.LogCrashSaid:=logCrash.proved
theorem logCrash_cardholds:Rows.LogCrashCardSaid :=
 Claim7.holds_tied_plain_at .later [] [.data, .pinned] true (true, "ede392a79083e142e5cca7e1aabfd706e3297f33985cd9c8b7737f15df022334") true logCrash_holds (fun _ h => by cases h) κ (fun _ h => by cases h) logCrash_row_tie rfl ⟨rfl, rfl⟩ κ rfl
  (fun f fn hf hfn=>by
   obtain rfl : f = 8 := Option.some.inj ((show Tryz.prog.funcNamed "sheetpile/sheetpilelaw22.LogCrash" = some 8 by kernel_rfl).symm.trans hf) |>.symm
   obtain rfl:fn=Tryz.f8:=(Option.some.inj (Tryz.func8.symm.trans hfn)).symm
   exact ⟨κ,fun j t ht=>by
    rw [Tryz.params8] at ht
    have hm:t∈[58]:=by simpa using Array.mem_of_getElem? ht
    have hall:([58].all fun u => !Tryz.prog.wantsStandIn u)=true:=by kernel_rfl
    exact (show Tryz.prog.wantsStandIn t=false by simpa using List.all_eq_true.1 hall t hm)⟩)
  κ
#print axioms logCrash_cardholds
end Go.Proofs.YtmbndhciflilbaaGreatDoor
