/-
  The row of the law LogParts, out of its walk (X).
-/
import Derived.Test.YtmbndhciflilbaaGreatDoorRows
import Derived.Test.YtmbndhciflilbaaGreatDoorCards
import Derived.Test.YtmbndhciflilbaaGreatDoorTie
import Derived.Test.YtmbndhciflilbaaGreatDoorW13
import Derived.Test.YtmbndhciflilbaaGreatDoorXRow
import Derived.WalkKit
import Derived.ProofKit
import Derived.OpenShut
import Derived.ShutString
import Derived.ChangeOld
import Derived.Below
import Derived.SizedLaws
import Derived.Carry
import Derived.LaidMore
import Derived.LaidLaws
import Derived.Lay
import Derived.SevenTiedAt
import Derived.Stop.Joined
namespace Go.Proofs.YtmbndhciflilbaaGreatDoor.logParts
open Go.ChangeShapes Go.WideShapes Go.ChangeAt Go.RowKit
open Go.ChangeMaps (open_string shut_string)
set_option linter.unusedVariables false
theorem own:ownKnob Tryz.prog.godebug=none:=by kernel_rfl
theorem laidOut:laidOutB Tryz.prog=true:=by kernel_rfl
set_option maxRecDepth 100000 in
theorem lifted (os:Os) (started:os.Started) (H:Type) (enc:TypeId×Value→H) :
 ReturnsInHanded {} Tryz.checked os 5 .any (fun w args=>(Rows.logPartsSpec.pre enc Tryz.prog Tryz.f5 Rows.logPartsRow.domain false w args∧laidMetH Tryz.prog Rows.logPartsRow.laid w)∧sizedMet enc Tryz.prog Tryz.f5 (OpenSpec.ofChange Rows.logPartsSpec) false w args) (Rows.logPartsSpec.post enc Tryz.prog Tryz.f5 false true false false):=by
 refine returnsInHanded_of_change_and (C:=Tryz.checked) (X:=fun w _=>laidMetH Tryz.prog Rows.logPartsRow.laid w) (fun _ _ _ hh h=>h.of_heap hh) own started (by kernel_rfl) Tryz.func5
  (ChangeSpec.witness_shaped (enc:=enc) (C:=Tryz.checked) (os:=os) (X:=fun w _=>laidMetH Tryz.prog Rows.logPartsRow.laid w) false (World.laidAll Tryz.prog os Rows.logPartsRow.laid) #[.agg #[.int .i64 0,.int .i64 0,.int .i64 0,.int .i64 0,.int .i64 0],.slice none 0 0] 8 (World.laidAll_os _ _ _)
   (World.shaped_of_ZipB (by kernel_rfl) (by kernel_rfl)) (by kernel_rfl) (by kernel_rfl) (by kernel_rfl)
   (by rw [MakeChecks.laidMetH_plain _ _ _ (by kernel_rfl)];exact laidMet_laidAll _ (by kernel_rfl) (by kernel_rfl))) ?_
 intro W base args ds gs before hval0 hW hcnd hsz0 hLaid _
 have hsz:(DataW.weightsEach Tryz.prog (Tryz.f5.params.toList ++ Rows.logPartsSpec.plain.varTypes Tryz.prog) (ds ++ gs)).all (· ≤ reachBytes)=true:=hsz0
 have hval:∀ (j:Nat) t v,Tryz.f5.params[j]? = some t→args[j]? = some v→Value.okWide Tryz.prog W .any base t v:=hval0
 have hW':=hW
 obtain ⟨p,q,hA0,hV,rfl,hfz,hnd⟩:=hW
 have hA:DataW.TrodAll enc Tryz.prog W 0 (fun _=>true) true Tryz.f5.params.toList args.toList ds p:=hA0
 rw [Tryz.params5] at hA hval
 obtain ⟨v0,vs0,d0,ds0,p0,q0,hargs,rfl,rfl,h0,r0⟩:=trodAll_cons hA
 obtain ⟨v1,vs1,d1,ds1,p1,q1,rfl,rfl,rfl,h1,r1⟩:=trodAll_cons r0
 obtain ⟨rfl,rfl,rfl⟩:=trodAll_nil r1
 obtain rfl:args = #[v0,v1]:=by cases args;simp_all
 obtain ⟨rfl,rfl⟩:=trodVars_none hV
 have e0:=okWide_struct Tryz.underlying23 (hval 0 23 v0 rfl rfl)
 have lt0:∀ x∈p0,x.block < W.heap.size:=by obtain ⟨m,hm⟩:=h0;exact DataW.trod_lt m _ _ _ hm
 obtain ⟨g0,y0,c0⟩:=X.open_CF Tryz.underlying23 ⟨rfl,rfl,rfl,rfl,rfl⟩ ⟨by kernel_rfl,by kernel_rfl,by kernel_rfl,by kernel_rfl,by kernel_rfl,by kernel_rfl⟩ Tryz.underlying3 Tryz.underlying3 Tryz.underlying3 Tryz.underlying3 Tryz.underlying3 h0 e0
 obtain ⟨a1,len1,cap1,e1⟩:=okWide_slice Tryz.underlying51 (hval 1 51 v1 rfl rfl)
 have lt1:∀ x∈p1,x.block < W.heap.size:=by obtain ⟨m,hm⟩:=h1;exact DataW.trod_lt m _ _ _ hm
 obtain ⟨l1,y1,b1,c1⟩:=X.open_SL hsz (j:=1) (t:=51) rfl rfl Tryz.underlying51 Tryz.underlying9 (by kernel_rfl) (of_decide_eq_true (by kernel_rfl)) h1 ⟨_,_,_,e1⟩
 clear hA0 hval0 hsz0
 refine ((X.logParts_pure g0 l1 c0 b1 c1).2 (fun B=>B < W.heap.size) W [v0,v1] (fun _ h=>h) (X.Cells.cons y0 (X.Cells.cons y1 X.Cells.nil))).mono fun e W' ⟨v,he,bel,hv⟩=> ?_
 cases hv
 subst he
 exact ⟨_,rfl,_,_,_,[],_,[],hW',trodAll_mk1 (shut_bool Tryz.underlying4 _),(trodAll_cons_mk (Below.trod laidOut (by kernel_rfl) (of_decide_eq_true (by kernel_rfl)) h0 bel lt0) (trodAll_cons_mk (Below.trod laidOut (by kernel_rfl) (of_decide_eq_true (by kernel_rfl)) h1 bel lt1) trodAll_mk0)),rfl,bel.frame _,fun h=>by cases h⟩
theorem over:Rows.logPartsRow.holds Tryz.pinned (OpenSpec.ofChange Rows.logPartsSpec) :=
 OpenClaim.holds_of_wide 5 Tryz.f5 rfl rfl rfl rfl rfl rfl rfl ⟨rfl,rfl,rfl,rfl,rfl⟩ rfl rfl rfl rfl rfl (by kernel_rfl) Tryz.func5 (by kernel_rfl)
  (of_decide_eq_true (by kernel_rfl)) (by unfold Func.isWrapper;first|(rw [if_pos (by decide+kernel)];kernel_rfl)|(rw [if_neg (by decide+kernel)];exact ⟨rfl,rfl⟩))
  (fun os started H enc _=>lifted os started H enc)
theorem proved:Rows.LogPartsSaid:=over
end Go.Proofs.YtmbndhciflilbaaGreatDoor.logParts
namespace Go.Proofs.YtmbndhciflilbaaGreatDoor
theorem logParts_holds:Rows.LogPartsSaid:=logParts.proved
theorem logParts_cardholds:Rows.LogPartsCardSaid :=
 Claim7.holds_tied_plain_at .later [] [.data, .pinned] true (true, "ede392a79083e142e5cca7e1aabfd706e3297f33985cd9c8b7737f15df022334") true logParts_holds (fun _ h => by cases h) (by kernel_rfl) (fun _ h => by cases h) logParts_row_tie rfl ⟨rfl, rfl⟩ (by kernel_rfl) rfl
  (fun f fn hf hfn=>by
   obtain rfl : f = 5 := Option.some.inj ((show Tryz.prog.funcNamed "sheetpile/sheetpilelaw22.LogParts" = some 5 by kernel_rfl).symm.trans hf) |>.symm
   obtain rfl:fn=Tryz.f5:=(Option.some.inj (Tryz.func5.symm.trans hfn)).symm
   exact ⟨by kernel_rfl,fun j t ht=>by
    rw [Tryz.params5] at ht
    have hm:t∈[23,51]:=by simpa using Array.mem_of_getElem? ht
    have hall:([23,51].all fun u => !Tryz.prog.wantsStandIn u)=true:=by kernel_rfl
    exact (show Tryz.prog.wantsStandIn t=false by simpa using List.all_eq_true.1 hall t hm)⟩)
  (by kernel_rfl)
#print axioms logParts_cardholds
end Go.Proofs.YtmbndhciflilbaaGreatDoor
