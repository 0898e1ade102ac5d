/-
  Counting sectors that are none any more (plain mathematics).
-/
import Derived.Test.YtngbipjclpncoaaGreatDoorP17
namespace Go.Proofs.YtngbipjclpncoaaGreatDoor.X
open F
set_option linter.unusedSimpArgs false
set_option linter.unusedVariables false
def sm (f:Nat→Nat):Nat→Nat
 | 0=>0
 | n+1=>sm f n+f n
theorem sm_congr {f g:Nat→Nat} : ∀ n,(∀ i,i < n→f i=g i)→sm f n=sm g n
 | 0,_=>rfl
 | n+1,h=>by rw [sm,sm,sm_congr n fun i hi=>h i (by omega),h n (by omega)]
theorem sm_add {f g:Nat→Nat} : ∀ n,sm (fun i=>f i+g i) n=sm f n+sm g n
 | 0=>rfl
 | n+1=>by rw [sm,sm,sm,sm_add n];omega
theorem sm_zero:∀ n,sm (fun _=>0) n=0
 | 0=>rfl
 | n+1=>by rw [sm,sm_zero n]
theorem sm_swap {g:Nat→Nat→Nat} (M:Nat):∀ N,sm (fun d=>sm (fun n=>g d n) M) N=sm (fun n=>sm (fun d=>g d n) N) M
 | 0=>by simp only [sm];rw [sm_zero]
 | N+1=>by
  rw [sm,sm_swap M N,←sm_add]
  rfl
theorem sm_head {f:Nat→Nat} : ∀ k,sm f (k+1)=f 0+sm (fun i=>f (i+1)) k
 | 0=>by simp [sm]
 | k+1=>by rw [sm,sm_head k,sm];omega
theorem countP_sm (p:Nat→Bool):∀ n,(List.range n).countP p=sm (fun i=>if p i=true then 1 else 0) n
 | 0=>rfl
 | n+1=>by
  rw [List.range_succ,List.countP_append,countP_sm p n,sm,List.countP_cons,List.countP_nil]
  simp
theorem sm_app {f:Nat→Nat} (a:Nat):∀ b,sm f (a+b)=sm f a+sm (fun i=>f (a+i)) b
 | 0=>rfl
 | b+1=>by
  show sm f (a+b+1)=_
  rw [sm,sm_app a b,sm];omega
theorem sm_rows {f:Nat→Nat→Nat} {S:Nat} (hS:0 < S):∀ N,sm (fun i=>f (i / S) (i % S)) (N * S)=sm (fun d=>sm (fun p=>f d p) S) N
 | 0=>by simp [sm]
 | N+1=>by
  rw [Nat.succ_mul,sm_app,sm_rows hS N,sm]
  congr 1
  refine sm_congr S fun p hp=> ?_
  have h1:(N * S+p) / S=N:=by rw [Nat.mul_comm,Nat.mul_add_div hS,Nat.div_eq_of_lt hp];omega
  have h2:(N * S+p) % S=p:=by rw [Nat.mul_comm,Nat.mul_add_mod,Nat.mod_eq_of_lt hp]
  rw [h1,h2]
def totX (X:Nat→Nat→Bool) (N sl st:Nat):Nat:=cntX X N 0+sm (fun n=>cntX X N (1+sl+n)) st
theorem tot_rows (X:Nat→Nat→Bool) (N sl st:Nat):(List.range (N * (1+sl+st))).countP (fun i=>X (i / (1+sl+st)) (i % (1+sl+st)) && (decide (i % (1+sl+st)=0) || decide (sl < i % (1+sl+st))))=totX X N sl st:=by
 rw [countP_sm,sm_rows (f:=fun d p=>if (X d p && (decide (p=0) || decide (sl < p)))=true then 1 else 0) (by omega)]
 unfold totX cntX
 rw [countP_sm]
 have e:∀ d,sm (fun p=>if (X d p && (decide (p=0) || decide (sl < p)))=true then 1 else 0) (1+sl+st)=(if X d 0=true then 1 else 0)+sm (fun n=>if X d (1+sl+n)=true then 1 else 0) st:=fun d=>by
  rw [sm_app (1+sl) st]
  congr 1
  ·rw [Nat.add_comm 1 sl,sm_head]
   have:sm (fun i=>if (X d (i+1) && (decide (i+1=0) || decide (sl < i+1)))=true then 1 else 0) sl=0:=by
    refine (sm_congr (g:=fun _=>0) sl fun i hi=> ?_).trans (sm_zero sl)
    have h1:¬i+1=0:=by omega
    have h2:¬sl < i+1:=by omega
    simp only [h1,h2,decide_false,Bool.or_false,Bool.and_false,Bool.false_eq_true,if_false]
   rw [this]
   simp
  ·refine sm_congr st fun i hi=> ?_
   have:(decide (1+sl+i=0) || decide (sl < 1+sl+i))=true:=by simp;omega
   rw [this,Bool.and_true]
 rw [sm_congr N fun d _=>e d,sm_add]
 congr 1
 rw [sm_swap]
 exact sm_congr st fun n _=>(countP_sm _ _).symm
theorem cnt_clr {X:Nat→Nat→Bool} {N p q:Nat} (h:p≠q):cntX (clr X q) N p=cntX X N p:=by
 unfold cntX
 exact List.countP_congr fun d _=>by unfold clr;rw [if_neg h]
theorem meX_all {c:Cfg} {N:Nat} : ∀ (k n:Nat) {X:Nat→Nat→Bool},(∀ i,n≤i→okX c N X i)→meX c N k n X=sm (fun i=>cntX X N (stP c (n+i))) k∧loX c N k n X=0∧∀ d p:Nat,afX c N k n X d p=true→X d p=true∧∀ i,i < k→p≠stP c (n+i)
 | 0,n,X,_=>⟨rfl,rfl,fun d p h=>⟨h,fun i hi=>by omega⟩⟩
 | k+1,n,X,h=>by
  have ho:oneX c N X n=clr X (stP c n):=by unfold oneX;rw [if_pos (h n (Nat.le_refl _))]
  have hne:∀ i,n < i→stP c i≠stP c n:=fun i hi=>by unfold stP;omega
  obtain ⟨i1,i2,i3⟩:=meX_all (c:=c) (N:=N) k (n+1) (X:=clr X (stP c n)) fun i hi=>by
   unfold okX
   rw [cnt_clr (hne i (by omega))]
   exact h i (by omega)
  rw [meX,loX,ho,if_pos (h n (Nat.le_refl _)),if_pos (h n (Nat.le_refl _)),i1,i2,sm_head]
  refine ⟨?_,rfl,fun d p hp=> ?_⟩
  ·rw [Nat.add_zero]
   congr 1
   refine sm_congr k fun i _=> ?_
   rw [cnt_clr (hne _ (by omega))]
   congr 1
   unfold stP
   omega
  ·rw [afX,ho] at hp
   obtain ⟨j1,j2⟩:=i3 d p hp
   unfold clr at j1
   split at j1
   ·cases j1
   ·rename_i hpn
    refine ⟨j1,fun i hi=> ?_⟩
    cases i with
    | zero=>exact hpn
    | succ i=>have:=j2 i (by omega);intro e;apply this;rw [e];unfold stP;omega
theorem EX.allOk {c:Cfg} {a:Arr} {sq:Int} {L:List Txt} {X:Nat→Nat→Bool} (E:EX c a sq L X) (hs:sq+1 < 36028797018963968) (ho:∀ i:Nat,okX c a.disks.length X i) :
  (scAllR a 7 c).er=0∧(scAllR a 7 c).rp=⟨c.st,(totX X a.disks.length c.sl.toNat c.st.toNat:Nat),0,true⟩∧EX c (scAllR a 7 c).ar sq L (fun _ _=>false)∧(scAllR a 7 c).ar.disks.length=a.disks.length:=by
 have hc:=conf_sl E.conf.1
 obtain ⟨a1,a2,a3,a4⟩:=E.all hs
 have ho':∀ i,0≤i→okX c a.disks.length (clr X 0) i:=fun i _=>by
  unfold okX
  rw [cnt_clr (by unfold stP;omega)]
  exact ho i
 obtain ⟨m1,m2,m3⟩:=meX_all (c:=c) (N:=a.disks.length) c.st.toNat 0 ho'
 refine ⟨a1,?_,?_,a3⟩
 ·rw [a4,m2,m1]
  unfold totX
  congr 3
  refine sm_congr _ fun i _=> ?_
  rw [cnt_clr (by unfold stP;omega)]
  congr 1
  unfold stP
  omega
 ·obtain ⟨⟨g,I,e,hL,hX⟩,hdn,hq,hll,hal,hlf⟩:=a2
  have hf:∀ d p:Nat,(p=0∨∃ n:Nat,(n:Int) < c.st∧p=stP c n)→afX c a.disks.length c.st.toNat 0 (clr X 0) d p=false:=fun d p hp=>by
   cases hx:afX c a.disks.length c.st.toNat 0 (clr X 0) d p with
   | false=>rfl
   | true =>
    obtain ⟨j1,j2⟩:=m3 d p hx
    rcases hp with rfl|⟨n,hn,rfl⟩
    ·unfold clr at j1;rw [if_pos rfl] at j1;cases j1
    ·exact (j2 n (by omega) (by rw [Nat.zero_add])).elim
  refine ⟨⟨g,I,e,hL,fun d hd=> ?_⟩,hdn,hq,hll,hal,hlf⟩
  obtain ⟨k1,k2,k3⟩:=hX d hd
  exact ⟨fun _=>k1 (hf d 0 (.inl rfl)),fun h=>(by cases h),fun n hn=>⟨fun _=>(k3 n hn).1 (hf d _ (.inr ⟨n,hn,rfl⟩)),fun h=>(by cases h)⟩⟩
end Go.Proofs.YtngbipjclpncoaaGreatDoor.X
