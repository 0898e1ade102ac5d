/-
  Sectors that are damaged, one by one; what a look finds (plain mathematics).
-/
import Derived.Test.YtngbipjclpncoaaGreatDoorP16
namespace Go.Proofs.YtngbipjclpncoaaGreatDoor.X
open F
set_option linter.unusedSimpArgs false
set_option linter.unusedVariables false
def setX (X:Nat→Nat→Bool) (d p:Nat):Nat→Nat→Bool:=fun e q=>if e=d∧q=p then true else X e q
def rowX (X:Nat→Nat→Bool) (d:Nat):Nat→Nat→Bool:=fun e q=>if e=d then true else X e q
theorem SA.set {a b:Arr} {d e q:Nat} {x y:Dsk} (hx:a.disks[d]? = some x) (hb:b.disks=a.disks.set d y) (h:e=d→y.gone=x.gone∧y.secs.length=x.secs.length∧y.at_ q=x.at_ q):SA a b e q:=by
 intro z hz
 have hd:=(List.getElem?_eq_some_iff.1 hx).1
 rw [hb,List.getElem?_set]
 by_cases he:d=e
 ·subst he
  rw [hx] at hz;cases hz
  rw [if_pos rfl,if_pos hd]
  exact ⟨y,rfl,h rfl⟩
 ·rw [if_neg he];exact ⟨z,hz,rfl,rfl,rfl⟩
theorem EX.corr {c:Cfg} {a:Arr} {sq:Int} {L:List Txt} {X:Nat→Nat→Bool} (E:EX c a sq L X) {d p:Nat} (hd:d < a.disks.length) (hp:(p:Int) < 1+c.sl+c.st) {s:Txt} (hs:(openR s).2≠0) (hl:(s.length:Int)≤c.k * c.sh+42) :
  (a.corrupt (d:Int) (p:Int) s).2=0∧EX c (a.corrupt (d:Int) (p:Int) s).1 sq L (setX X d p)∧(a.corrupt (d:Int) (p:Int) s).1.disks.length=a.disks.length:=by
 obtain ⟨⟨g,I,e,hL,hX⟩,hdn,hq,hll,hal,hlf⟩:=E
 have hx:a.disks[d]? = some a.disks[d]:=List.getElem?_eq_getElem hd
 obtain ⟨y,hy,hg⟩:=Arr.alive_iff.1 (hal d hd)
 rw [hx] at hy;cases hy
 have hG:=I.dk _ (List.getElem_mem hd)
 have hps:p < a.disks[d].secs.length:=by have:=hG.secs;omega
 have hw0:=hq _ (List.getElem_mem hd)
 have hchk:a.disks[d].check (p:Int) s=0:=by
  unfold Dsk.check
  rw [if_neg (by simp [hg]),if_neg (by omega),if_neg (by have:=hG.size;omega)]
 have hE:a.corrupt (d:Int) (p:Int) s=(a.set (d:Int) (a.disks[d].corrupt (p:Int) s),a.disks[d].check (p:Int) s):=by unfold Arr.corrupt Arr.does;rw [on_eq,hx]
 have hcr:a.disks[d].corrupt (p:Int) s = { a.disks[d] with waits:=[],secs:=a.disks[d].secs.set p s } := by
  unfold Dsk.corrupt
  rw [if_pos hchk,hw0]
  simp
 obtain ⟨I1,D⟩:=I.corrupt (bad':=fun _=>True) (fun _ _=>trivial) hd trivial (p:Int) hs hq
 have hset:(a.corrupt (d:Int) (p:Int) s).1.disks=a.disks.set d (a.disks[d].corrupt (p:Int) s):=by rw [hE];simp [Arr.set]
 have sa:∀ e q:Nat,¬(e=d∧q=p)→SA a (a.corrupt (d:Int) (p:Int) s).1 e q:=fun e q hne=>SA.set hx hset fun he=>by
  have hqp:p≠q:=fun h=>hne ⟨he,h.symm⟩
  rw [hcr]
  refine ⟨rfl,by simp,?_⟩
  unfold Dsk.at_
  rw [hw0]
  simp [lastW,List.getElem?_set_ne hqp]
 have un:UnA (a.corrupt (d:Int) (p:Int) s).1 d p:=by
  refine ⟨a.disks[d].corrupt (p:Int) s,by rw [hset,List.getElem?_set];simp [hd],by rw [hcr];exact hg,by rw [hcr];simpa using hps,?_⟩
  have:(a.disks[d].corrupt (p:Int) s).at_ p=s:=by
   rw [hcr];unfold Dsk.at_
   simp [lastW,hps]
  rw [this]
  exact own_of_open hs _ _ _
 have al:∀ e:Nat,(a.corrupt (d:Int) (p:Int) s).1.alive (e:Int)=a.alive (e:Int):=fun e=>by
  rw [D.al];split
  ·rename_i h;rw [h]
  ·rfl
 refine ⟨by rw [hE];exact hchk,⟨⟨g,I1,e,hL,fun f hf=> ?_⟩,by rw [D.dn];exact hdn,D.qt hq,hll,fun f hf=>by rw [al];exact hal f (by rw [←D.len];exact hf),by rw [D.lf];exact hlf⟩,D.len⟩
 rw [D.len] at hf
 obtain ⟨k1,k2,k3⟩:=hX f hf
 have key:∀ (q:Nat) (b:BlkD),(X f q=false→Lst 7 a f q b)→(X f q=true→UnA a f q)→(setX X d p f q=false→Lst 7 (a.corrupt (d:Int) (p:Int) s).1 f q b)∧(setX X d p f q=true→UnA (a.corrupt (d:Int) (p:Int) s).1 f q):=fun q b j1 j2=>by
  unfold setX
  by_cases h:f=d∧q=p
  ·rw [if_pos h]
   obtain ⟨rfl,rfl⟩:=h
   exact ⟨fun h=>(by cases h),fun _=>un⟩
  ·rw [if_neg h]
   exact ⟨fun hx=>(j1 hx).sa (sa f q h),fun hx=>(j2 hx).sa (sa f q h)⟩
 obtain ⟨i1,i2⟩:=key 0 _ k1 k2
 exact ⟨i1,i2,fun n hn=>key _ _ (k3 n hn).1 (k3 n hn).2⟩
theorem EX.repl {c:Cfg} {a:Arr} {sq:Int} {L:List Txt} {X:Nat→Nat→Bool} (E:EX c a sq L X) {d:Nat} (hd:d < a.disks.length):EX c (a.replace (d:Int)).1 sq L (rowX X d)∧(a.replace (d:Int)).1.disks.length=a.disks.length:=by
 obtain ⟨⟨g,I,e,hL,hX⟩,hdn,hq,hll,hal,hlf⟩:=E
 have hx:a.disks[d]? = some a.disks[d]:=List.getElem?_eq_getElem hd
 have hG:=I.dk _ (List.getElem_mem hd)
 have hE:(a.replace (d:Int)).1=a.set (d:Int) a.disks[d].replace:=by unfold Arr.replace Arr.does;rw [on_eq,hx]
 have hset:(a.replace (d:Int)).1.disks=a.disks.set d a.disks[d].replace:=by rw [hE];simp [Arr.set]
 obtain ⟨I1,D⟩:=I.replace hd trivial
 have sa:∀ e q:Nat,e≠d→SA a (a.replace (d:Int)).1 e q:=fun e q hne=>SA.set hx hset fun he=>(hne he).elim
 have hc1:=conf_sl I.conf
 have un:∀ q:Nat,(q:Int) < 1+c.sl+c.st→UnA (a.replace (d:Int)).1 d q:=fun q hq=>by
  refine ⟨a.disks[d].replace,by rw [hset,List.getElem?_set];simp [hd],rfl,by have:=hG.secs;simp [Dsk.replace];omega,?_⟩
  have:a.disks[d].replace.at_ q=[]:=by
   unfold Dsk.at_ Dsk.replace
   simp [lastW,List.getElem?_replicate]
   split<;>rfl
  rw [this]
  exact own_empty _ _ _
 have al:∀ e:Nat,e < a.disks.length→(a.replace (d:Int)).1.alive (e:Int)=true:=fun e he=>by
  rw [D.al];split
  ·rfl
  ·exact hal e he
 refine ⟨⟨⟨g,I1,e,hL,fun f hf=> ?_⟩,by rw [D.dn];exact hdn,D.qt hq,hll,fun f hf=>al f (by rw [←D.len];exact hf),by rw [D.lf];exact hlf⟩,D.len⟩
 rw [D.len] at hf
 obtain ⟨k1,k2,k3⟩:=hX f hf
 have key:∀ (q:Nat) (b:BlkD),(q:Int) < 1+c.sl+c.st→(X f q=false→Lst 7 a f q b)→(X f q=true→UnA a f q)→(rowX X d f q=false→Lst 7 (a.replace (d:Int)).1 f q b)∧(rowX X d f q=true→UnA (a.replace (d:Int)).1 f q):=fun q b hq j1 j2=>by
  unfold rowX
  by_cases h:f=d
  ·rw [if_pos h]
   subst h
   exact ⟨fun h=>(by cases h),fun _=>un q hq⟩
  ·rw [if_neg h]
   exact ⟨fun hx=>(j1 hx).sa (sa f q h),fun hx=>(j2 hx).sa (sa f q h)⟩
 obtain ⟨i1,i2⟩:=key 0 _ (by show (0:Int) < _;omega) k1 k2
 exact ⟨i1,i2,fun n hn=>key _ _ (by unfold stP;push_cast;omega) (k3 n hn).1 (k3 n hn).2⟩
theorem EX.health {c:Cfg} {a:Arr} {sq:Int} {L:List Txt} {X:Nat→Nat→Bool} (E:EX c a sq L X) {n:Nat} (hn:(n:Int) < c.st) :
  vhealthR a 7 c n=if c.k+cntX X a.disks.length (stP c n)≤a.disks.length then ((a.disks.length:Int) - cntX X a.disks.length (stP c n),0) else (0,10):=by
 obtain ⟨⟨g,I,rfl,hL,hX⟩,hdn,hq,hll,hal,hlf⟩:=E
 obtain ⟨h1,h2⟩:=EX.ofN I hdn hn fun d hd=>(hX d hd).2.2 n hn
 rw [I.vhealth hdn hn]
 by_cases h:c.k+cntX X a.disks.length (stP c n)≤a.disks.length
 ·rw [if_pos h,if_pos (by omega)]
  congr 1
  omega
 ·rw [if_neg h,if_neg (by omega)]
theorem EX.least {c:Cfg} {a:Arr} {sq:Int} {L:List Txt} {X:Nat→Nat→Bool} (E:EX c a sq L X) (hX:∀ n:Nat,(n:Int) < c.st→cntX X a.disks.length (stP c n)=0):∀ k:Nat,(k:Int)≤c.st→leastL a 7 c k 255=(if k=0 then 255 else min 255 (a.disks.length:Int),0)
 | 0,_=>rfl
 | k+1,hk=>by
  have hN:=E.conf.2.1
  have hc:=conf_sl E.conf.1
  have ih:=EX.least E hX k (by omega)
  have hh:=E.health (n:=k) (by omega)
  rw [hX k (by omega),if_pos (by push_cast;omega)] at hh
  rw [leastL,ih,hh]
  simp
  split<;>omega
theorem EX.least10 {c:Cfg} {a:Arr} {sq:Int} {L:List Txt} {X:Nat→Nat→Bool} (E:EX c a sq L X) {n:Nat} (hn:(n:Int) < c.st) (hX:¬c.k+cntX X a.disks.length (stP c n)≤a.disks.length):∀ k:Nat,(k:Int)≤c.st→(n < k→(leastL a 7 c k 255).2=10)∧((leastL a 7 c k 255).2=0∨(leastL a 7 c k 255).2=10)
 | 0,_=>⟨fun h=>by omega,.inl rfl⟩
 | k+1,hk=>by
  obtain ⟨i1,i2⟩:=EX.least10 E hn hX k (by omega)
  have hh:=E.health (n:=k) (by omega)
  rw [leastL]
  by_cases h0:(leastL a 7 c k 255).2=0
  ·rw [if_neg (by simp [h0])]
   by_cases hk2:c.k+cntX X a.disks.length (stP c k)≤a.disks.length
   ·rw [if_pos hk2] at hh
    rw [hh]
    refine ⟨fun h=> ?_,.inl (by simp)⟩
    by_cases hkn:n=k
    ·subst hkn;exact (hX hk2).elim
    ·have:=i1 (by omega);omega
   ·rw [if_neg hk2] at hh
    rw [hh]
    exact ⟨fun _=>by simp,.inr (by simp)⟩
  ·rw [if_pos h0]
   have:(leastL a 7 c k 255).2=10:=i2.resolve_left h0
   exact ⟨fun _=>this,.inr this⟩
end Go.Proofs.YtngbipjclpncoaaGreatDoor.X
