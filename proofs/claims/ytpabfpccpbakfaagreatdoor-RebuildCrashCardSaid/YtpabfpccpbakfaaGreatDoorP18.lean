/-
  Counting sectors that are none any more (plain mathematics).
-/
import Derived.Test.YtpabfpccpbakfaaGreatDoorP17
namespace Go.Proofs.YtpabfpccpbakfaaGreatDoor.X
open F
set_option linter.unusedSimpArgs false
set_option linter.unusedVariables false
def sm (f:Nat→Nat):Nat→Nat
 | 0=>0
 | n+1=>sm f n+f n
theorem Bp {f g:Nat→Nat} : ∀ n,(∀ i,i < n→f i=g i)→sm f n=sm g n
 | 0,_=>rfl
 | n+1,h=>by rw [sm,sm,Bp n fun i hi=>h i (by omega),h n (by omega)]
theorem A78 {f g:Nat→Nat} : ∀ n,sm (fun i=>f i+g i) n=sm f n+sm g n
 | 0=>rfl
 | n+1=>by rw [sm,sm,sm,A78 n];omega
theorem Mz:∀ n,sm (fun _=>0) n=0
 | 0=>rfl
 | n+1=>by rw [sm,Mz n]
theorem Qf {g:Nat→Nat→Nat} (M:Nat):∀ N,sm (fun d=>sm (fun n=>g d n) M) N=sm (fun n=>sm (fun d=>g d n) N) M
 | 0=>by simp only [sm];rw [Mz]
 | N+1=>by
  rw [sm,Qf M N,←A78]
  rfl
theorem A25 {f:Nat→Nat} : ∀ k,sm f (k+1)=f 0+sm (fun i=>f (i+1)) k
 | 0=>by simp [sm]
 | k+1=>by rw [sm,A25 k,sm];omega
theorem Mb (p:Nat→Bool):∀ n,(List.range n).countP p=sm (fun i=>if p i=true then 1 else 0) n
 | 0=>rfl
 | n+1=>by
  rw [List.range_succ,List.countP_append,Mb p n,sm,List.countP_cons,List.countP_nil]
  simp
theorem A79 {f:Nat→Nat} (a:Nat):∀ b,sm f (a+b)=sm f a+sm (fun i=>f (a+i)) b
 | 0=>rfl
 | b+1=>by
  show sm f (a+b+1)=_
  rw [sm,A79 a b,sm];omega
theorem A9m {f:Nat→Nat→Nat} {S:Nat} (hS:0 < S):∀ N,sm (fun i=>f (i / S) (i % S)) (N * S)=sm (fun d=>sm (fun p=>f d p) S) N
 | 0=>by simp [sm]
 | N+1=>by
  rw [Nat.succ_mul,A79,A9m hS N,sm]
  congr 1
  refine Bp S fun p hp=> ?_
  have h1:(N * S+p) / S=N:=by rw [Nat.mul_comm,Nat.mul_add_div hS,Nat.div_eq_of_lt hp];omega
  have h2:(N * S+p) % S=p:=by rw [Nat.mul_comm,Nat.mul_add_mod,Nat.mod_eq_of_lt hp]
  rw [h1,h2]
def totX (X:Nat→Nat→Bool) (N sl st:Nat):Nat:=cntX X N 0+sm (fun n=>cntX X N (1+sl+n)) st
theorem Aew (X:Nat→Nat→Bool) (N sl st:Nat):(List.range (N * (1+sl+st))).countP (fun i=>X (i / (1+sl+st)) (i % (1+sl+st)) && (decide (i % (1+sl+st)=0) || decide (sl < i % (1+sl+st))))=totX X N sl st:=by
 rw [Mb,A9m (f:=fun d p=>if (X d p && (decide (p=0) || decide (sl < p)))=true then 1 else 0) (by omega)]
 unfold totX cntX
 rw [Mb]
 have e:∀ d,sm (fun p=>if (X d p && (decide (p=0) || decide (sl < p)))=true then 1 else 0) (1+sl+st)=(if X d 0=true then 1 else 0)+sm (fun n=>if X d (1+sl+n)=true then 1 else 0) st:=fun d=>by
  rw [A79 (1+sl) st]
  congr 1
  ·rw [Nat.add_comm 1 sl,A25]
   have:sm (fun i=>if (X d (i+1) && (decide (i+1=0) || decide (sl < i+1)))=true then 1 else 0) sl=0:=by
    refine (Bp (g:=fun _=>0) sl fun i hi=> ?_).trans (Mz sl)
    have h1:¬i+1=0:=by omega
    have h2:¬sl < i+1:=by omega
    simp only [h1,h2,decide_false,Bool.or_false,Bool.and_false,Bool.false_eq_true,if_false]
   rw [this]
   simp
  ·refine Bp st fun i hi=> ?_
   have:(decide (1+sl+i=0) || decide (sl < 1+sl+i))=true:=by simp;omega
   rw [this,Bool.and_true]
 rw [Bp N fun d _=>e d,A78]
 congr 1
 rw [Qf]
 exact Bp st fun n _=>(Mb _ _).symm
end Go.Proofs.YtpabfpccpbakfaaGreatDoor.X
