/-
  Rebuild: what A29, a disk that is replaced, writes meanwhile (plain mathematics).
-/
import Derived.Test.YtpabfpccpbakfaaGreatDoorP24
namespace Go.Proofs.YtpabfpccpbakfaaGreatDoor.X
open F
set_option linter.unusedSimpArgs false
set_option linter.unusedVariables false
theorem VS.Aev {c:Cfg} {a:Arr} {sq:Int} {L:List Txt} (V:VS c a sq L (fun _=>False)) {n:Nat} (hn:(n:Int) < c.st):Cu a 7 c n=if c.k≤((Ak a a.disks.length).length:Int) then (((Ak a a.disks.length).length:Int),0) else (0,10):=by
 obtain ⟨⟨g,I,rfl,hL⟩,hdn,hq,hll⟩:=V
 have h1:=I.many hdn hn (fun d=>a.alive (d:Int)) fun d _ h=>⟨h,fun h=>h⟩
 have h2:=I.few hdn hn
 rw [←Gq] at h1
 have:ofN (stE a 7 c n) (g.ep n)=(Ak a a.disks.length).length:=by omega
 rw [I.Ajm hdn hn,this]
theorem VS.least {c:Cfg} {a:Arr} {sq:Int} {L:List Txt} (V:VS c a sq L (fun _=>False)) (hl:a.disks.length≤255):∀ k:Nat,(k:Int)≤c.st→D5 a 7 c k 255=if k=0 then (255,0) else if c.k≤((Ak a a.disks.length).length:Int) then (((Ak a a.disks.length).length:Int),0) else (0,10)
 | 0,_=>rfl
 | k+1,hk=>by
  have ih:=V.least hl k (by omega)
  have hh:=V.Aev (n:=k) (by omega)
  have h3:=Gq a a.disks.length
  have h4:=List.countP_le_length (p:=fun d:Nat=>a.alive (d:Int)) (l:=List.range a.disks.length)
  rw [List.length_range] at h4
  rw [D5,ih,hh]
  by_cases h0:k=0
  ·subst h0
   by_cases h:c.k≤((Ak a a.disks.length).length:Int)
   ·simp [h];omega
   ·simp [h]
  ·by_cases h:c.k≤((Ak a a.disks.length).length:Int)
   ·simp [h,h0]
   ·simp [h,h0]
def Jq (a:Arr) (id:Int) (c:Cfg):Int×Int:=if (Dy a id c).2=0 then ((Dy a id c).1 - c.k,0) else (0,(Dy a id c).2)
structure FL (c:Cfg) (a:Arr) (sq:Int) (L:List Txt) (j:Nat):Prop where
 v:VS c a sq L (fun _=>False)
 lf:a.left < 0
 len:(a.disks.length:Int)=c.k+c.m
 al:∀ d:Nat,d < a.disks.length→a.alive (d:Int)=decide (j≤d)
structure RB (c:Cfg) (a:Arr) (sq:Int) (L:List Txt) (d n:Nat):Prop where
 m:MS c a sq L (fun e=>e=d) (0 < n) n
 dn:a.down=false
 qt:Qt a
 lf:a.left < 0
 len:(a.disks.length:Int)=c.k+c.m
 dl:d < a.disks.length
 le:(n:Int)≤c.st
theorem Af0 {d:Nat} : ∀ N,d < N→(List.range N).countP (fun e=>decide (e≠d))+1=N
 | 0,h=>by omega
 | N+1,h=>by
  rw [List.range_succ,List.countP_append,List.countP_cons,List.countP_nil]
  by_cases hd:d=N
  ·subst hd
   have:(List.range d).countP (fun e=>decide (e≠d))=(List.range d).length:=List.countP_eq_length.2 fun e he=>by have:=List.mem_range.1 he;simp;omega
   rw [this]
   simp
  ·have:=Af0 (d:=d) N (by omega)
   rw [if_pos (show decide (N≠d)=true by simp;omega)]
   omega
theorem RB.gd {c:Cfg} {a:Arr} {sq:Int} {L:List Txt} {d n:Nat} (R:RB c a sq L d n) (hm:1≤c.m):Gd c a (fun e=>e=d):=by
 refine ⟨fun e=>decide (e≠d),fun e he h=>⟨R.m.al e he,by simpa using h⟩,?_⟩
 have h1:=Af0 a.disks.length R.dl
 have h2:=R.len
 omega
theorem Inv.rb {c:Cfg} {a:Arr} {g:Gh} {L:List Txt} {d:Nat} (I:Inv c 7 g (fun e=>e=d) none a) (hL:∀ n:Nat,(n:Int) < c.st→L[n]? = some (g.tx n)) (hdn:a.down=false) (hq:Qt a) (hll:(L.length:Int)=c.st) (hlf:a.left < 0) (hd:d < a.disks.length)
  (hal:∀ e:Nat,e < a.disks.length→e≠d→a.alive (e:Int)=true):RB c (a.replace (d:Int)).1 g.sq L d 0∧(a.replace (d:Int)).1.disks.length=a.disks.length:=by
 obtain ⟨I1,D⟩:=I.replace hd rfl
 have hl:=I.len
 have hc:=Bk I.conf
 refine ⟨⟨⟨⟨g,I1,rfl,hL,fun e _=>⟨fun h=>by omega,fun m hm=>by omega⟩⟩,hll,fun e he=> ?_⟩,by rw [D.dn];exact hdn,D.qt hq,by rw [D.lf];exact hlf,by rw [D.len];exact hl,by rw [D.len];exact hd,by omega⟩,D.len⟩
 rw [D.al]
 split
 ·rfl
 ·exact hal e (by rw [←D.len];exact he) (by assumption)
theorem Wh.rb {c:Cfg} {a:Arr} {sq:Int} {L:List Txt} (W:Wh c a sq L) {d:Nat} (hd:d < a.disks.length):RB c (a.replace (d:Int)).1 sq L d 0∧(a.replace (d:Int)).1.disks.length=a.disks.length:=by
 obtain ⟨⟨g,I,rfl,hL⟩,hdn,hq,hll⟩:=W.v
 exact (I.good fun e _ _=> .inl fun h=>h.elim:Inv c 7 g (fun e=>e=d) none a).rb hL hdn hq hll W.lf hd fun e he _=>W.al e he
end Go.Proofs.YtpabfpccpbakfaaGreatDoor.X
