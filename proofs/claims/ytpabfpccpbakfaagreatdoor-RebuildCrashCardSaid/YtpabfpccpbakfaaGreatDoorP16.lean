/-
  Looking at all stripes: what is whole, what is damaged, what is found (plain mathematics).
-/
import Derived.Test.YtpabfpccpbakfaaGreatDoorP15
namespace Go.Proofs.YtpabfpccpbakfaaGreatDoor.X
open F
set_option linter.unusedSimpArgs false
set_option linter.unusedVariables false
theorem VS.exx {c:Cfg} {a:Arr} {sq:Int} {L:List Txt} (V:VS c a sq L (fun _=>False)) (hlf:a.left < 0) (hal:∀ d:Nat,d < a.disks.length→a.alive (d:Int)=true):EX c a sq L (fun _ _=>false):=by
 obtain ⟨⟨g,I,e,hL⟩,hdn,hq,hll⟩:=V
 refine ⟨⟨g,I.good fun d _ _=> .inl fun h=>h.elim,e,hL,fun d hd=>⟨fun _=> ?_,fun h=>(by cases h),fun n hn=>⟨fun _=> ?_,fun h=>(by cases h)⟩⟩⟩,hdn,hq,hll,hal,hlf⟩
 ·rcases I.hd1 hdn (hal d hd) with ⟨h,_⟩|⟨h,_⟩
  ·exact h
  ·exact h.elim
 ·rcases I.st1 hdn hn hd with ⟨h,_⟩|⟨_,h⟩
  ·exact h
  ·exact (h (hal d hd)).elim
theorem EX.conf {c:Cfg} {a:Arr} {sq:Int} {L:List Txt} {X:Nat→Nat→Bool} (E:EX c a sq L X):As c∧(a.disks.length:Int)=c.k+c.m∧0≤sq:=by
 obtain ⟨⟨g,I,rfl,_⟩,_⟩:=E
 exact ⟨I.conf,I.len,I.s0⟩
theorem Wx {X:Nat→Nat→Bool} {N p:Nat} (h:∀ d:Nat,d < N→X d p=false):cntX X N p=0:=by
 unfold cntX
 rw [List.countP_eq_zero]
 intro d hd
 rw [h d (List.mem_range.1 hd)]
 decide
end Go.Proofs.YtpabfpccpbakfaaGreatDoor.X
