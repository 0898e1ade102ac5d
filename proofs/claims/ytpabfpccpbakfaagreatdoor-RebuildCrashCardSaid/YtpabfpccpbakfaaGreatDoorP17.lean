/-
  Sectors that are damaged, one by one; what a look finds (plain mathematics).
-/
import Derived.Test.YtpabfpccpbakfaaGreatDoorP16
namespace Go.Proofs.YtpabfpccpbakfaaGreatDoor.X
open F
set_option linter.unusedSimpArgs false
set_option linter.unusedVariables false
def setX (X:Nat→Nat→Bool) (d p:Nat):Nat→Nat→Bool:=fun e q=>if e=d∧q=p then true else X e q
def rowX (X:Nat→Nat→Bool) (d:Nat):Nat→Nat→Bool:=fun e q=>if e=d then true else X e q
theorem SA.set {a b:Arr} {d e q:Nat} {x y:Dsk} (hx:a.disks[d]? = some x) (hb:b.disks=a.disks.set d y) (h:e=d→y.gone=x.gone∧y.secs.length=x.secs.length∧y.at_ q=x.at_ q):SA a b e q:=by
 intro z hz
 have hd:=(List.getElem?_eq_some_iff.1 hx).1
 rw [hb,List.getElem?_set]
 by_cases he:d=e
 ·subst he
  rw [hx] at hz;cases hz
  rw [if_pos rfl,if_pos hd]
  exact ⟨y,rfl,h rfl⟩
 ·rw [if_neg he];exact ⟨z,hz,rfl,rfl,rfl⟩
theorem EX.corr {c:Cfg} {a:Arr} {sq:Int} {L:List Txt} {X:Nat→Nat→Bool} (E:EX c a sq L X) {d p:Nat} (hd:d < a.disks.length) (hp:(p:Int) < 1+c.sl+c.st) {s:Txt} (hs:(C5 s).2≠0) (hl:(s.length:Int)≤c.k * c.sh+42) :
  (a.B9 (d:Int) (p:Int) s).2=0∧EX c (a.B9 (d:Int) (p:Int) s).1 sq L (setX X d p)∧(a.B9 (d:Int) (p:Int) s).1.disks.length=a.disks.length:=by
 obtain ⟨⟨g,I,e,hL,hX⟩,hdn,hq,hll,hal,hlf⟩:=E
 have hx:a.disks[d]? = some a.disks[d]:=List.getElem?_eq_getElem hd
 obtain ⟨y,hy,hg⟩:=Arr.Dd.1 (hal d hd)
 rw [hx] at hy;cases hy
 have hG:=I.dk _ (List.getElem_mem hd)
 have hps:p < a.disks[d].secs.length:=by have:=hG.secs;omega
 have hw0:=hq _ (List.getElem_mem hd)
 have hchk:a.disks[d].check (p:Int) s=0:=by
  unfold Dsk.check
  rw [if_neg (by simp [hg]),if_neg (by omega),if_neg (by have:=hG.size;omega)]
 have hE:a.B9 (d:Int) (p:Int) s=(a.set (d:Int) (a.disks[d].B9 (p:Int) s),a.disks[d].check (p:Int) s):=by unfold Arr.B9 Arr.does;rw [Um,hx]
 have hcr:a.disks[d].B9 (p:Int) s = { a.disks[d] with waits:=[],secs:=a.disks[d].secs.set p s } := by
  unfold Dsk.B9
  rw [if_pos hchk,hw0]
  simp
 obtain ⟨I1,D⟩:=I.B9 (bad':=fun _=>True) (fun _ _=>trivial) hd trivial (p:Int) hs hq
 have hset:(a.B9 (d:Int) (p:Int) s).1.disks=a.disks.set d (a.disks[d].B9 (p:Int) s):=by rw [hE];simp [Arr.set]
 have sa:∀ e q:Nat,¬(e=d∧q=p)→SA a (a.B9 (d:Int) (p:Int) s).1 e q:=fun e q hne=>SA.set hx hset fun he=>by
  have hqp:p≠q:=fun h=>hne ⟨he,h.symm⟩
  rw [hcr]
  refine ⟨rfl,by simp,?_⟩
  unfold Dsk.at_
  rw [hw0]
  simp [Dw,List.getElem?_set_ne hqp]
 have un:UnA (a.B9 (d:Int) (p:Int) s).1 d p:=by
  refine ⟨a.disks[d].B9 (p:Int) s,by rw [hset,List.getElem?_set];simp [hd],by rw [hcr];exact hg,by rw [hcr];simpa using hps,?_⟩
  have:(a.disks[d].B9 (p:Int) s).at_ p=s:=by
   rw [hcr];unfold Dsk.at_
   simp [Dw,hps]
  rw [this]
  exact Up hs _ _ _
 have al:∀ e:Nat,(a.B9 (d:Int) (p:Int) s).1.alive (e:Int)=a.alive (e:Int):=fun e=>by
  rw [D.al];split
  ·rename_i h;rw [h]
  ·rfl
 refine ⟨by rw [hE];exact hchk,⟨⟨g,I1,e,hL,fun f hf=> ?_⟩,by rw [D.dn];exact hdn,D.qt hq,hll,fun f hf=>by rw [al];exact hal f (by rw [←D.len];exact hf),by rw [D.lf];exact hlf⟩,D.len⟩
 rw [D.len] at hf
 obtain ⟨k1,k2,k3⟩:=hX f hf
 have key:∀ (q:Nat) (b:BlkD),(X f q=false→Lst 7 a f q b)→(X f q=true→UnA a f q)→(setX X d p f q=false→Lst 7 (a.B9 (d:Int) (p:Int) s).1 f q b)∧(setX X d p f q=true→UnA (a.B9 (d:Int) (p:Int) s).1 f q):=fun q b j1 j2=>by
  unfold setX
  by_cases h:f=d∧q=p
  ·rw [if_pos h]
   obtain ⟨rfl,rfl⟩:=h
   exact ⟨fun h=>(by cases h),fun _=>un⟩
  ·rw [if_neg h]
   exact ⟨fun hx=>(j1 hx).sa (sa f q h),fun hx=>(j2 hx).sa (sa f q h)⟩
 obtain ⟨i1,i2⟩:=key 0 _ k1 k2
 exact ⟨i1,i2,fun n hn=>key _ _ (k3 n hn).1 (k3 n hn).2⟩
theorem EX.repl {c:Cfg} {a:Arr} {sq:Int} {L:List Txt} {X:Nat→Nat→Bool} (E:EX c a sq L X) {d:Nat} (hd:d < a.disks.length):EX c (a.replace (d:Int)).1 sq L (rowX X d)∧(a.replace (d:Int)).1.disks.length=a.disks.length:=by
 obtain ⟨⟨g,I,e,hL,hX⟩,hdn,hq,hll,hal,hlf⟩:=E
 have hx:a.disks[d]? = some a.disks[d]:=List.getElem?_eq_getElem hd
 have hG:=I.dk _ (List.getElem_mem hd)
 have hE:(a.replace (d:Int)).1=a.set (d:Int) a.disks[d].replace:=by unfold Arr.replace Arr.does;rw [Um,hx]
 have hset:(a.replace (d:Int)).1.disks=a.disks.set d a.disks[d].replace:=by rw [hE];simp [Arr.set]
 obtain ⟨I1,D⟩:=I.replace hd trivial
 have sa:∀ e q:Nat,e≠d→SA a (a.replace (d:Int)).1 e q:=fun e q hne=>SA.set hx hset fun he=>(hne he).elim
 have hc1:=Bk I.conf
 have un:∀ q:Nat,(q:Int) < 1+c.sl+c.st→UnA (a.replace (d:Int)).1 d q:=fun q hq=>by
  refine ⟨a.disks[d].replace,by rw [hset,List.getElem?_set];simp [hd],rfl,by have:=hG.secs;simp [Dsk.replace];omega,?_⟩
  have:a.disks[d].replace.at_ q=[]:=by
   unfold Dsk.at_ Dsk.replace
   simp [Dw,List.getElem?_replicate]
   split<;>rfl
  rw [this]
  exact Ma _ _ _
 have al:∀ e:Nat,e < a.disks.length→(a.replace (d:Int)).1.alive (e:Int)=true:=fun e he=>by
  rw [D.al];split
  ·rfl
  ·exact hal e he
 refine ⟨⟨⟨g,I1,e,hL,fun f hf=> ?_⟩,by rw [D.dn];exact hdn,D.qt hq,hll,fun f hf=>al f (by rw [←D.len];exact hf),by rw [D.lf];exact hlf⟩,D.len⟩
 rw [D.len] at hf
 obtain ⟨k1,k2,k3⟩:=hX f hf
 have key:∀ (q:Nat) (b:BlkD),(q:Int) < 1+c.sl+c.st→(X f q=false→Lst 7 a f q b)→(X f q=true→UnA a f q)→(rowX X d f q=false→Lst 7 (a.replace (d:Int)).1 f q b)∧(rowX X d f q=true→UnA (a.replace (d:Int)).1 f q):=fun q b hq j1 j2=>by
  unfold rowX
  by_cases h:f=d
  ·rw [if_pos h]
   subst h
   exact ⟨fun h=>(by cases h),fun _=>un q hq⟩
  ·rw [if_neg h]
   exact ⟨fun hx=>(j1 hx).sa (sa f q h),fun hx=>(j2 hx).sa (sa f q h)⟩
 obtain ⟨i1,i2⟩:=key 0 _ (by show (0:Int) < _;omega) k1 k2
 exact ⟨i1,i2,fun n hn=>key _ _ (by unfold stP;push_cast;omega) (k3 n hn).1 (k3 n hn).2⟩
end Go.Proofs.YtpabfpccpbakfaaGreatDoor.X
