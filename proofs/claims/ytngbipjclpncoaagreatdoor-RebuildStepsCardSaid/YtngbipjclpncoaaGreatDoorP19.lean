/-
  Damage of a scrub's laws: one stripe that is lost; sectors of few disks (plain mathematics).
-/
import Derived.Test.YtngbipjclpncoaaGreatDoorP18
namespace Go.Proofs.YtngbipjclpncoaaGreatDoor.X
open F
set_option linter.unusedSimpArgs false
set_option linter.unusedVariables false
theorem lost_one {c:Cfg} {N:Nat} {X:Nat→Nat→Bool} {n0:Nat} (h0:∀ i,i≠n0→∀ d,X d (stP c i)=false) (h1:¬okX c N X n0) (hk:c.k≤N):∀ k n,afX c N k n X=X∧meX c N k n X=0∧loX c N k n X=if n≤n0∧n0 < n+k then 1 else 0
 | 0,n=>⟨rfl,rfl,by rw [if_neg (by omega)];rfl⟩
 | k+1,n=>by
  have one:oneX c N X n=X:=by
   unfold oneX
   split
   ·rename_i hok
    by_cases hn:n=n0
    ·subst hn;exact (h1 hok).elim
    ·funext d p
     unfold clr
     split
     ·rename_i hp;rw [hp];exact (h0 n hn d).symm
     ·rfl
   ·rfl
  obtain ⟨i1,i2,i3⟩:=lost_one h0 h1 hk k (n+1)
  rw [afX,meX,loX,one]
  refine ⟨i1,?_,?_⟩
  ·rw [i2]
   by_cases hn:n=n0
   ·subst hn;rw [if_neg h1]
   ·split
    ·rw [cnt_none fun d _=>h0 n hn d]
    ·rfl
  ·rw [i3]
   by_cases hn:n=n0
   ·subst hn;rw [if_neg h1,if_neg (by omega),if_pos (by omega)]
   ·have hok:okX c N X n:=by unfold okX;rw [cnt_none fun d _=>h0 n hn d];simpa using hk
    rw [if_pos hok]
    by_cases h:n+1≤n0∧n0 < n+1+k
    ·rw [if_pos h,if_pos (by omega)]
    ·rw [if_neg h,if_neg (by omega)]
def colX (p j:Nat):Nat→Nat→Bool:=fun d q=>decide (d < j∧q=p)
theorem col_step (p j:Nat):setX (colX p j) j p=colX p (j+1):=by
 funext d q
 unfold setX colX
 by_cases h:d=j∧q=p
 ·rw [if_pos h];symm;simp;omega
 ·rw [if_neg h]
  congr 1
  simp only [eq_iff_iff]
  omega
theorem col_cnt {p j N:Nat} (h:j≤N):cntX (colX p j) N p=j:=by
 unfold cntX
 rw [countP_sm]
 have:∀ n,sm (fun i=>if colX p j i p=true then 1 else 0) n=min j n:=fun n=>by
  induction n with
  | zero=>simp [sm]
  | succ n ih =>
   rw [sm,ih]
   unfold colX
   by_cases h:n < j
   ·rw [if_pos (by simp [h])];omega
   ·rw [if_neg (by simp [h])];omega
 rw [this];omega
theorem EX.lost {c:Cfg} {a:Arr} {sq:Int} {L:List Txt} {n:Nat} (hn:(n:Int) < c.st) (E:EX c a sq L (colX (stP c n) (c.m+1).toNat)) (hs:sq+1 < 36028797018963968) :
  (scAllR a 7 c).er=0∧(scAllR a 7 c).rp=⟨c.st,0,1,true⟩∧EX c (scAllR a 7 c).ar sq L (colX (stP c n) (c.m+1).toNat)∧(scAllR a 7 c).ar.disks.length=a.disks.length∧(leastL (scAllR a 7 c).ar 7 c c.st.toNat 255).2=10:=by
 have hc:=conf_sl E.conf.1
 have hl:=E.conf.2.1
 obtain ⟨a1,a2,a3,a4⟩:=E.all hs
 have hne:∀ i,i≠n→stP c i≠stP c n:=fun i hi=>by unfold stP;omega
 have h00:(0:Nat)≠stP c n:=by unfold stP;omega
 have hclr:clr (colX (stP c n) (c.m+1).toNat) 0=colX (stP c n) (c.m+1).toNat:=by
  funext d q
  unfold clr
  split
  ·rename_i hq;subst hq;unfold colX;simp;omega
  ·rfl
 have hno:¬okX c a.disks.length (colX (stP c n) (c.m+1).toNat) n:=by
  unfold okX
  rw [col_cnt (by omega)]
  omega
 obtain ⟨l1,l2,l3⟩:=lost_one (c:=c) (N:=a.disks.length) (X:=colX (stP c n) (c.m+1).toNat) (n0:=n) (fun i hi d=>by unfold colX;simp;intro _;exact hne i hi) hno (by omega) c.st.toNat 0
 rw [hclr,l1] at a2
 rw [hclr,l2,l3,if_pos (by omega),cnt_none (fun d _=>by unfold colX;simp;intro _;exact h00)] at a4
 refine ⟨a1,by rw [a4];simp,a2,a3,(EX.least10 a2 hn (by rw [a3];exact hno) c.st.toNat (by omega)).1 (by omega)⟩
def listX (X:Nat→Nat→Bool) (N S:Nat):List Bool:=(List.range (N * S)).map fun i=>X (i / S) (i % S)
theorem cnt_bads {X:Nat→Nat→Bool} {bd:List Bool} (h:∀ d p:Nat,X d p=true→bd[d]? = some true) (p:Nat):cntX X bd.length p≤bads bd:=by
 have h1:=countP_range (fun b:Bool=>b) (fun d=>decide (bd[d]? = some true)) bd 0 fun i x hx=>by
  rw [Nat.zero_add,hx]
  cases x<;>simp
 have h2:(List.range bd.length).map (0 + ·)=List.range bd.length:=by simp
 rw [h2] at h1
 unfold bads
 rw [←h1]
 exact List.countP_mono_left fun d _ hd=>by simpa using h d p hd
theorem EX.found {c:Cfg} {a:Arr} {sq:Int} {L:List Txt} {X:Nat→Nat→Bool} {bd:List Bool} (E:EX c a sq L X) (hs:sq+1 < 36028797018963968) (hb:(bd.length:Int)=c.k+c.m) (h:∀ d p:Nat,X d p=true→bd[d]? = some true) (hm:(bads bd:Int)≤c.m) :
  (scAllR a 7 c).er=0∧(scAllR a 7 c).rp=⟨c.st,(totX X a.disks.length c.sl.toNat c.st.toNat:Nat),0,true⟩∧EX c (scAllR a 7 c).ar sq L (fun _ _=>false)∧(scAllR a 7 c).ar.disks.length=a.disks.length :=
 E.allOk hs fun i=>by
  have hl:=E.conf.2.1
  have e:a.disks.length=bd.length:=by omega
  have:=cnt_bads h (stP c i)
  unfold okX
  rw [e]
  omega
end Go.Proofs.YtngbipjclpncoaaGreatDoor.X
