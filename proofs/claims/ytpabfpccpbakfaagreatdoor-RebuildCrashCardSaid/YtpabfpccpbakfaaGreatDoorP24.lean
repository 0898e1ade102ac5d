/-
  Which sectors are none any more, as a list (plain mathematics).
-/
import Derived.Test.YtpabfpccpbakfaaGreatDoorP23
namespace Go.Proofs.YtpabfpccpbakfaaGreatDoor.X
open F
set_option linter.unusedSimpArgs false
set_option linter.unusedVariables false
theorem Md (X:Nat→Nat→Bool) (N S:Nat):(Er X N S).length=N * S:=by simp [Er]
theorem Wz {X:Nat→Nat→Bool} {N S i:Nat} (h:i < N * S):(Er X N S)[i]? = some (X (i / S) (i % S)):=by
 unfold Er
 rw [List.getElem?_map,List.getElem?_range h]
 rfl
theorem ds_lt {N S d j:Nat} (hd:d < N) (hj:j < S):d * S+j < N * S:=by
 have:(d+1) * S≤N * S:=Nat.mul_le_mul_right _ hd
 rw [Nat.add_mul] at this
 omega
theorem ds_div {S d j:Nat} (hj:j < S):(d * S+j) / S=d∧(d * S+j) % S=j:=by
 have hS:0 < S:=by omega
 rw [Nat.add_comm,Nat.add_mul_div_right _ _ hS,Nat.add_mul_mod_self_right,Nat.div_eq_of_lt hj,Nat.mod_eq_of_lt hj]
 exact ⟨Nat.zero_add _,rfl⟩
theorem Abk {X:Nat→Nat→Bool} {N S d j:Nat} (hd:d < N) (hj:j < S):(Er X N S).set (d * S+j) true=Er (setX X d j) N S:=by
 apply List.ext_getElem?
 intro i
 have hS:0 < S:=by omega
 rw [List.getElem?_set]
 by_cases hi:i < N * S
 ·rw [Wz hi,Wz hi]
  by_cases h:d * S+j=i
  ·subst h
   obtain ⟨h1,h2⟩:=ds_div (d:=d) hj
   rw [if_pos rfl,if_pos (by rw [Md];exact hi),h1,h2]
   unfold setX
   rw [if_pos ⟨rfl,rfl⟩]
  ·rw [if_neg h]
   unfold setX
   rw [if_neg]
   rintro ⟨h1,h2⟩
   apply h
   rw [←h1,←h2,Nat.mul_comm]
   exact Nat.div_add_mod i S
 ·rw [if_neg (by have:=ds_lt hd hj;omega),List.getElem?_eq_none (by rw [Md];omega),List.getElem?_eq_none (by rw [Md];omega)]
theorem A4a {X Y:Nat→Nat→Bool} {N S:Nat} (hS:0 < S) (h:∀ e q,q < S→X e q=Y e q):Er X N S=Er Y N S:=by
 unfold Er
 refine List.map_congr_left fun i _=>h _ _ (Nat.mod_lt _ hS)
theorem A7a (N S:Nat):Er (fun _ _=>false) N S=List.replicate (N * S) false:=by
 unfold Er
 apply List.ext_getElem?
 intro i
 by_cases h:i < N * S
 ·rw [List.getElem?_map,List.getElem?_range h,List.getElem?_replicate,if_pos h];rfl
 ·rw [List.getElem?_eq_none (by simp;omega),List.getElem?_eq_none (by simp;omega)]
def mrkX (X:Nat→Nat→Bool) (d:Nat) (al:Bool) (n:Nat):Nat→Nat→Nat→Bool
 | 0=>X
 | j+1=>if al=true∨j=n then setX (mrkX X d al n j) d j else mrkX X d al n j
theorem A28 (X:Nat→Nat→Bool) (d:Nat) (al:Bool) (n:Nat):∀ j e q:Nat,mrkX X d al n j e q=if e=d∧q < j∧(al=true∨q=n) then true else X e q
 | 0,e,q=>by rw [mrkX,if_neg (by omega)]
 | j+1,e,q=>by
  rw [mrkX]
  by_cases h:al=true∨j=n
  ·rw [if_pos h]
   unfold setX
   by_cases h1:e=d∧q=j
   ·rw [if_pos h1,if_pos ⟨h1.1,by omega,by rw [h1.2];exact h⟩]
   ·rw [if_neg h1,A28 X d al n j e q]
    congr 1
    simp only [eq_iff_iff]
    constructor
    ·rintro ⟨a,b,c⟩;exact ⟨a,by omega,c⟩
    ·rintro ⟨a,b,c⟩;exact ⟨a,by have:¬q=j:=fun e=>h1 ⟨a,e⟩;omega,c⟩
  ·rw [if_neg h,A28 X d al n j e q]
   congr 1
   simp only [eq_iff_iff]
   constructor
   ·rintro ⟨a,b,c⟩;exact ⟨a,by omega,c⟩
   ·rintro ⟨a,b,c⟩
    refine ⟨a,?_,c⟩
    have:¬q=j:=fun e=>h (by rw [←e];exact c)
    omega
def hurX (X:Nat→Nat→Bool) (d:Nat) (al:Bool) (n:Nat):Nat→Nat→Bool:=if al=true then rowX X d else setX X d n
theorem Ajj {X:Nat→Nat→Bool} {d n N S:Nat} {al:Bool} (hS:0 < S) (hn:n < S):Er (mrkX X d al n S) N S=Er (hurX X d al n) N S:=by
 refine A4a hS fun e q hq=> ?_
 rw [A28]
 unfold hurX
 by_cases ha:al=true
 ·rw [if_pos ha]
  unfold rowX
  congr 1
  simp only [eq_iff_iff]
  exact ⟨fun h=>h.1,fun h=>⟨h,hq,.inl ha⟩⟩
 ·rw [if_neg ha]
  unfold setX
  congr 1
  simp only [eq_iff_iff]
  exact ⟨fun h=>⟨h.1,h.2.2.resolve_left ha⟩,fun h=>⟨h.1,hq,.inr h.2⟩⟩
theorem hur_bd {X:Nat→Nat→Bool} {bd:List Bool} {d n:Nat} {al:Bool} (hd:d < bd.length) (h:∀ e q:Nat,X e q=true→bd[e]? = some true):∀ e q:Nat,hurX X d al n e q=true→(bd.set d true)[e]? = some true:=by
 intro e q hx
 rw [List.getElem?_set]
 by_cases he:d=e
 ·rw [if_pos he,if_pos hd]
 ·rw [if_neg he]
  refine h e q ?_
  unfold hurX at hx
  split at hx
  ·unfold rowX at hx;rwa [if_neg (fun k=>he k.symm)] at hx
  ·unfold setX at hx;rwa [if_neg (fun k=>he k.1.symm)] at hx
def hurA (a:Arr) (d n:Int) (s:Txt) (al:Bool):Arr:=if al=true then (a.replace d).1 else (a.B9 d n s).1
theorem EX.hur {c:Cfg} {a:Arr} {sq:Int} {L:List Txt} {X:Nat→Nat→Bool} (E:EX c a sq L X) {d n:Nat} (hd:d < a.disks.length) (hn:(n:Int) < 1+c.sl+c.st) {s:Txt} (hs:(C5 s).2≠0) (hl:(s.length:Int)≤c.k * c.sh+42) (al:Bool) :
  EX c (hurA a d n s al) sq L (hurX X d al n)∧(hurA a d n s al).disks.length=a.disks.length:=by
 unfold hurA hurX
 by_cases ha:al=true
 ·rw [if_pos ha,if_pos ha];exact E.repl hd
 ·rw [if_neg ha,if_neg ha]
  obtain ⟨_,h1,h2⟩:=E.corr hd hn hs hl
  exact ⟨h1,h2⟩
def cntG (X:Nat→Nat→Bool) (sl S:Nat) (i:Nat):Nat:=(List.range i).countP fun i=>X (i / S) (i % S) && (decide (i % S=0) || decide (sl < i % S))
theorem Abm (X:Nat→Nat→Bool) (sl S i:Nat):cntG X sl S (i+1)=cntG X sl S i+if (X (i / S) (i % S) && (decide (i % S=0) || decide (sl < i % S)))=true then 1 else 0:=by
 unfold cntG
 rw [List.range_succ,List.countP_append,List.countP_cons,List.countP_nil,Nat.zero_add]
theorem Ajk (X:Nat→Nat→Bool) (sl S i:Nat):cntG X sl S i≤i:=by
 have:=List.countP_le_length (p:=fun i=>X (i / S) (i % S) && (decide (i % S=0) || decide (sl < i % S))) (l:=List.range i)
 rw [List.length_range] at this
 exact this
theorem Aez (X:Nat→Nat→Bool) (N sl st:Nat):cntG X sl (1+sl+st) (N * (1+sl+st))=totX X N sl st:=Aew X N sl st
theorem Abn {bd:List Bool} {i:Nat} (h:i < bd.length):bads (bd.take (i+1))=bads (bd.take i)+if bd[i]=true then 1 else 0:=by
 unfold bads
 rw [List.take_succ_eq_append_getElem h,List.countP_append,List.countP_cons,List.countP_nil]
 simp
end Go.Proofs.YtpabfpccpbakfaaGreatDoor.X
