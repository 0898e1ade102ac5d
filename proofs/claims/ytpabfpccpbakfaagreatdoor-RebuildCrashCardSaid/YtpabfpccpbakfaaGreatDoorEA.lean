/-
  Texts of a proof, as one: E01, E02, E03, E04, E05, E06, E07, E08, E09, E10.
-/
import Derived.Test.YtpabfpccpbakfaaGreatDoorCA
import Derived.Test.YtpabfpccpbakfaaGreatDoorXB
import Derived.Test.YtpabfpccpbakfaaGreatDoorCB
import Derived.Shelf.Strings.OnBuilder
import Derived.Ground.NamesProg
import Derived.Test.YtpabfpccpbakfaaGreatDoorProg
namespace Go.Proofs.YtpabfpccpbakfaaGreatDoor.X
open Go.RowKit F
set_option maxRecDepth 100000
set_option linter.unusedSimpArgs false
set_option linter.unusedVariables false
structure Cfg where
 k:Int
 m:Int
 sh:Int
 st:Int
 sl:Int
def CfA (c:Cfg):AV:= .agg [.int .i64 c.k,.int .i64 c.m,.int .i64 c.sh,.int .i64 c.st,.int .i64 c.sl]
def As (c:Cfg):Prop:=GMay c.k c.m∧c.m≠0∧(8≤c.sh∧c.sh≤1024)∧(1≤c.st∧c.st≤1000)∧(1≤c.sl∧c.sl≤16)∧c.k * c.sh≤4000
instance (c:Cfg):Decidable (As c):=by unfold As;exact inferInstance
theorem A3v (n a b:Int):Aq Tryz.prog 95 [.int .i64 n,.int .i64 a,.int .i64 b] (.bool (decide (a≤n∧n≤b))):=by
 refine Aq.Az (k:=1) ?_
 refine CSem.body hm Tryz.func95 rfl (by kernel_rfl) (by kernel_rfl) (by simp [Tryz.ntmps95]) ?_
 by_cases h1:a≤n
 ·simp [Tryz.f95,h1]
 ·simp [Tryz.f95,h1]
theorem Lb (n a b:Int) (h:Heap):CSem Tryz.prog 95 [.int .i64 n,.int .i64 a,.int .i64 b] h fun x' h'=>x' = .bool (decide (a≤n∧n≤b))∧h'=h:=(A3v n a b).call (k:=1) (by simp)
theorem Tt {a b:Int} (h1:1≤a) (h2:a≤255) (h3:8≤b) (h4:b≤1024):IntKind.i64.wrap (a * b)=a * b:=by
 have:a * b≤255 * 1024:=Int.mul_le_mul h2 h4 (by omega) (by omega)
 have:0≤a * b:=Int.mul_nonneg (by omega) (by omega)
 exact wrap64 (by omega) (by omega)
theorem Wd (c:Cfg):Aq Tryz.prog 58 [CfA c] (.int .i64 (if As c then 0 else 1)):=by
 refine Aq.Az (k:=1) ?_
 refine CSem.body hm Tryz.func58 rfl (by kernel_rfl) (by kernel_rfl) (by simp [Tryz.ntmps58]) ?_
 simp [Tryz.f58,CfA,AV.cells,A8,Heap.Aa]
 refine (Ts _ _ _).use ?_
 by_cases h1:GMay c.k c.m
 rotate_left
 ·have:¬As c:=fun h=>h1 h.1
  simp [h1,this]
 by_cases h2:c.m=0
 ·have:¬As c:=fun h=>h.2.1 h2
  have h1':GMay c.k 0:=h2 ▸ h1
  simp [h1,h1',h2,this,A8,Heap.Aa]
 simp [h1,h2,A8,Heap.Aa]
 refine (Lb _ _ _ _).use ?_
 by_cases h3:8≤c.sh∧c.sh≤1024
 rotate_left
 ·have:¬As c:=fun h=>h3 h.2.2.1
  simp [h3,this,A8,Heap.Aa]
 simp [h3,A8,Heap.Aa]
 refine (Lb _ _ _ _).use ?_
 by_cases h4:1≤c.st∧c.st≤1000
 rotate_left
 ·have:¬As c:=fun h=>h4 h.2.2.2.1
  simp [h4,this,A8,Heap.Aa]
 simp [h4,A8,Heap.Aa]
 refine (Lb _ _ _ _).use ?_
 by_cases h5:1≤c.sl∧c.sl≤16
 rotate_left
 ·have:¬As c:=fun h=>h5 h.2.2.2.2.1
  simp [h5,this,A8,Heap.Aa]
 have hw:=Tt h1.1 h1.2.2.1 h3.1 h3.2
 by_cases h6:c.k * c.sh≤4000
 ·have:As c:=⟨h1,h2,h3,h4,h5,h6⟩
  have h7:¬ 4000 < c.k * c.sh:=by omega
  simp [h5,this,A8,Heap.Aa,hw,h7]
 ·have:¬As c:=fun h=>h6 h.2.2.2.2.2
  have h7:4000 < c.k * c.sh:=by omega
  simp [h5,this,A8,Heap.Aa,hw,h7]
theorem D4 (c:Cfg) (h:Heap):CSem Tryz.prog 58 [CfA c] h fun x' h'=>x' = .int .i64 (if As c then 0 else 1)∧h'=h:=(Wd c).call (k:=2) (by simp [CfA,snap,mapL])
theorem A3w (c:Cfg) (n:Int):Aq Tryz.prog 96 [CfA c,.int .i64 n] (.int .i64 (if As c then n else 0)):=by
 refine Aq.Az (k:=1) ?_
 refine CSem.body hm Tryz.func96 rfl (by kernel_rfl) (by kernel_rfl) (by simp [Tryz.ntmps96]) ?_
 simp [Tryz.f96,CfA,AV.cells,Ab,takeN,Heap.Aa]
 refine (D4 c _).use ?_
 by_cases h1:As c<;>simp [h1]
theorem J5 (c:Cfg) (n:Int) (h:Heap):CSem Tryz.prog 96 [CfA c,.int .i64 n] h fun x' h'=>x' = .int .i64 (if As c then n else 0)∧h'=h:=(A3w c n).call (k:=2) (by simp [CfA,snap,mapL])
def Bg (c:Cfg):Int:=if As c then c.k * c.sh - 4 else 0
theorem capW (c:Cfg):(if As c then IntKind.i64.wrap (IntKind.i64.wrap (c.k * c.sh) - 4) else 0)=Bg c:=by
 unfold Bg
 by_cases h:As c
 ·rw [if_pos h,if_pos h,Tt h.1.1 h.1.2.2.1 h.2.2.1.1 h.2.2.1.2,wrap64]
  ·have:0≤c.k * c.sh:=Int.mul_nonneg (by have:=h.1.1;omega) (by have:=h.2.2.1.1;omega)
   omega
  ·have:=h.2.2.2.2.2;omega
 ·rw [if_neg h,if_neg h]
theorem A1w (c:Cfg):Aq Tryz.prog 62 [CfA c] (.int .i64 (Bg c)):=by
 refine Aq.Az (k:=1) ?_
 refine CSem.body hm Tryz.func62 rfl (by kernel_rfl) (by kernel_rfl) (by simp [Tryz.ntmps62]) ?_
 simp [Tryz.f62,CfA,AV.cells,A8,Ab,takeN,Heap.Aa]
 refine (J5 c _ _).use ?_
 simp [capW]
theorem Se (c:Cfg) (h:Heap):CSem Tryz.prog 62 [CfA c] h fun x' h'=>x' = .int .i64 (Bg c)∧h'=h:=(A1w c).call (k:=2) (by simp [CfA,snap,mapL])
def C3 (c:Cfg):Int:=if As c then c.k+c.m else 0
theorem Aed (c:Cfg):(if As c then IntKind.i64.wrap (c.k+c.m) else 0)=C3 c:=by
 unfold C3
 by_cases h:As c
 ·rw [if_pos h,if_pos h,wrap64]
  ·have:=h.1.1;have:=h.1.2.1;omega
  ·have:=h.1.2.2;omega
 ·rw [if_neg h,if_neg h]
theorem We (c:Cfg):Aq Tryz.prog 59 [CfA c] (.int .i64 (C3 c)):=by
 refine Aq.Az (k:=1) ?_
 refine CSem.body hm Tryz.func59 rfl (by kernel_rfl) (by kernel_rfl) (by simp [Tryz.ntmps59]) ?_
 simp [Tryz.f59,CfA,AV.cells,A8,Ab,takeN,Heap.Aa]
 refine (J5 c _ _).use ?_
 simp [Aed]
theorem K8 (c:Cfg) (h:Heap):CSem Tryz.prog 59 [CfA c] h fun x' h'=>x' = .int .i64 (C3 c)∧h'=h:=(We c).call (k:=2) (by simp [CfA,snap,mapL])
theorem Va (c:Cfg):Aq Tryz.prog 21 [CfA c] (.int .i64 (if As c then 0 else 1)):=by
 refine Aq.Az (k:=1) ?_
 refine CSem.body hm Tryz.func21 rfl (by kernel_rfl) (by kernel_rfl) (by simp [Tryz.ntmps21]) ?_
 simp [Tryz.f21,CfA,AV.cells,A8,Heap.Aa]
 refine (A6u _ _ _).use ?_
 by_cases h1:GMay c.k c.m
 rotate_left
 ·have:¬As c:=fun h=>h1 h.1
  simp [h1,this]
 by_cases h2:c.m=0
 ·have:¬As c:=fun h=>h.2.1 h2
  have h1':GMay c.k 0:=h2 ▸ h1
  simp [h1,h1',h2,this,A8,Heap.Aa]
 by_cases h3:c.sh < 8
 ·have:¬As c:=fun h=>by have:=h.2.2.1.1;omega
  simp [h1,h2,h3,this,A8,Heap.Aa]
 by_cases h4:1024 < c.sh
 ·have:¬As c:=fun h=>by have:=h.2.2.1.2;omega
  simp [h1,h2,h3,h4,this,A8,Heap.Aa]
 by_cases h5:c.st < 1
 ·have:¬As c:=fun h=>by have:=h.2.2.2.1.1;omega
  simp [h1,h2,h3,h4,h5,this,A8,Heap.Aa]
 by_cases h6:1000 < c.st
 ·have:¬As c:=fun h=>by have:=h.2.2.2.1.2;omega
  simp [h1,h2,h3,h4,h5,h6,this,A8,Heap.Aa]
 by_cases h7:c.sl < 1
 ·have:¬As c:=fun h=>by have:=h.2.2.2.2.1.1;omega
  simp [h1,h2,h3,h4,h5,h6,h7,this,A8,Heap.Aa]
 by_cases h8:16 < c.sl
 ·have:¬As c:=fun h=>by have:=h.2.2.2.2.1.2;omega
  simp [h1,h2,h3,h4,h5,h6,h7,h8,this,A8,Heap.Aa]
 have hw:=Tt h1.1 h1.2.2.1 (show 8≤c.sh by omega) (show c.sh≤1024 by omega)
 by_cases h9:4000 < c.k * c.sh
 ·have:¬As c:=fun h=>by have:=h.2.2.2.2.2;omega
  simp [h1,h2,h3,h4,h5,h6,h7,h8,hw,h9,this,A8,Heap.Aa]
 ·have:As c:=⟨h1,h2,⟨by omega,by omega⟩,⟨by omega,by omega⟩,⟨by omega,by omega⟩,by omega⟩
  simp [h1,h2,h3,h4,h5,h6,h7,h8,hw,h9,this,A8,Heap.Aa]
theorem Nc (c:Cfg) (h:Heap):CSem Tryz.prog 21 [CfA c] h fun x' h'=>x' = .int .i64 (if As c then 0 else 1)∧h'=h:=(Va c).call (k:=2) (by simp [CfA,snap,mapL])
theorem A1x (c:Cfg) (n:Int):Aq Tryz.prog 57 [CfA c,.int .i64 n] (.int .i64 (if As c then n else 0)):=by
 refine Aq.Az (k:=1) ?_
 refine CSem.body hm Tryz.func57 rfl (by kernel_rfl) (by kernel_rfl) (by simp [Tryz.ntmps57]) ?_
 simp [Tryz.f57,CfA,AV.cells,Ab,takeN,Heap.Aa]
 refine (Nc c _).use ?_
 by_cases h1:As c<;>simp [h1]
theorem Mw (c:Cfg) (n:Int) (h:Heap):CSem Tryz.prog 57 [CfA c,.int .i64 n] h fun x' h'=>x' = .int .i64 (if As c then n else 0)∧h'=h:=(A1x c n).call (k:=2) (by simp [CfA,snap,mapL])
def PutP (n sz:Int):Prop:=1≤sz∧sz≤7∧0≤n
instance (n sz:Int):Decidable (PutP n sz):=by unfold PutP;exact inferInstance
def putR (n sz:Int):List UInt8×Int:=if PutP n sz then (if 0 < dv n.toNat sz.toNat then ([],12) else (le n.toNat sz.toNat,0)) else ([],1)
def putA (n sz:Int):AV:= .tup [S (putR n sz).1,.int .i64 (putR n sz).2]
theorem Ajd {sz:Nat} (h:sz≤7):256 ^ sz≤256 ^ 7:=Nat.pow_le_pow_right (by omega) h
structure PutInv (n sz:Nat) (i:Nat) (r:Regs) (h:Heap):Prop where
 hi:i≤sz
 g0:rg r 0 = .int .i64 ((dv n i:Nat):Int)
 g1:rg r 1 = .int .i64 (sz:Int)
 g6:rg r 6 = .sl 0 0 sz sz 1
 g21:rg r 21 = .int .i64 (sz:Int)
 g22:rg r 22 = .int .i64 (i:Int)
 hg:h.get 0=some ((mid (le n sz) (List.replicate sz 0) i).map B8)
theorem Aee (n sz:Int) (hn:n < 9223372036854775808):Aq Tryz.prog 101 [.int .i64 n,.int .i64 sz] (putA n sz):=by
 refine Aq.Az (k:=2) ?_
 refine CSem.body hm Tryz.func101 rfl (by kernel_rfl) (by kernel_rfl) (by simp [Tryz.ntmps101]) ?_
 by_cases h1:sz < 1
 ·have:¬PutP n sz:=fun h=>by have:=h.1;omega
  simp [Tryz.f101,h1,putA,putR,this]
 by_cases h2:7 < sz
 ·have:¬PutP n sz:=fun h=>by have:=h.2.1;omega
  simp [Tryz.f101,h1,h2,putA,putR,this]
 by_cases h3:n < 0
 ·have:¬PutP n sz:=fun h=>by have:=h.2.2;omega
  simp [Tryz.f101,h1,h2,h3,putA,putR,this]
 have hP:PutP n sz:=⟨by omega,by omega,by omega⟩
 obtain ⟨N,rfl⟩:=Int.eq_ofNat_of_zero_le (show 0≤n by omega)
 obtain ⟨Z,rfl⟩:=Int.eq_ofNat_of_zero_le (show 0≤sz by omega)
 have hl:(le N Z).length=(List.replicate Z (0:UInt8)).length:=by simp
 have hz0:(0:Int)≤Z:=by omega
 have hz1:(Z:Int)≤140737488355328:=by omega
 simp [Tryz.f101,h1,h2,h3,hz0,hz1]
 refine Am (PutInv N Z) (Z - ·) ?_ 0 ?_
 ·rintro i r h ⟨hi,g0,g1,g6,g21,g22,hg⟩
  rcases Nat.lt_or_eq_of_le hi with hlt|heq
  ·have hrem:intX .rem .i64 ((dv N i:Nat):Int) 256=some (.int .i64 ((dv N i:Int) % 256)):=by
    rw [A3x (by decide),Int.tmod_eq_emod_of_nonneg (by omega)]
   have hdl:=dv_le N (i+1)
   have hquo:intX .quo .i64 ((dv N i:Nat):Int) 256=some (.int .i64 ((dv N (i+1):Nat):Int)):=by
    rw [Aef (by decide)]
    have e:((dv N i:Nat):Int).tdiv 256=((dv N i / 256:Nat):Int):=rfl
    rw [e,Ajc,wrap64 (by omega) (by omega)]
   have hb8:AV.int .u8 (IntKind.u8.wrap ((dv N i:Int) % 256))=B8 (UInt8.ofNat (N / 256 ^ i % 256)):=by
    rw [Z6 (by omega) (by omega)]
    simp only [B8,UInt8.toNat_ofNat']
    congr 1
    rw [show N / 256 ^ i=dv N i from rfl,Nat.mod_eq_of_lt (by omega:dv N i % 256 < 2 ^ 8)]
    omega
   have hget:=le_get Z N i hlt
   have hlen:i < (mid (le N Z) (List.replicate Z 0) i).length:=by rw [Hk hl (by simpa using hi)];simpa using hlt
   simp [g0,g1,g6,g21,g22,hlt,hrem,hquo,hb8,hg,hlen,wrap64 (n:=(i:Int)+1) (by omega) (by omega)]
   refine ⟨i+1,by omega,by omega,by simp,by simp [g1],by simp [g6],by simp [g21],by simp,?_⟩
   rw [Heap.Ac hg,←List.map_set,Gz hl (by simpa using hlt) hget]
  ·subst heq
   have hfull:=Fg hl
   simp only [List.length_replicate] at hfull
   rw [hfull] at hg
   by_cases h4:0 < dv N i
   ·simp [g0,g1,g6,g21,g22,h4,putA,putR,hP]
   ·simp [g0,g1,g6,g21,g22,h4,putA,putR,hP,hg]
 ·exact ⟨by omega,by simp [Ajb],by simp,by simp,by simp,by simp,by simp [Heap.Aa,Jm]⟩
theorem K9 (n sz:Int) (hn:n < 9223372036854775808) (h:Heap):CSem Tryz.prog 101 [.int .i64 n,.int .i64 sz] h fun x' h'=>x'=putA n sz∧h'=h:=(Aee n sz hn).call (k:=1) (by simp)
theorem Mx {P:Program} (F:Regs→Heap→Prop) {g:Operand} {ps:Array Tmp} {a1 bd:Code} {Q:Out→Regs→Heap→Prop} {r:Regs} {h:Heap} {gf:FuncId} {a b:List AV} (hl:h.lp=none) (he:Aj r g=some (.fn gf a b)) (hF:F r h)
  (hc:∀ id r h,h.lp=none→F r h→CSem P gf (a ++ [.yld id] ++ b) (h.Bs (some ⟨id,.ready,r,ps,a1,bd⟩)) (Wf Q r)):wpc P (.rangeFunc g ps a1 bd) Q r h:=Ab9 hl he (fun id=>hc id r h hl hF)
theorem Aba (x:AV) (hx:x.atom=true) (h:Heap):CSem Tryz.prog 138 [x] h fun x' h'=>x' = .fn 163 [] [.ptr h.next 0]∧h'=h.alloc [x]:=by
 refine CSem.body hm Tryz.func138 rfl (by kernel_rfl) (by kernel_rfl) (by simp [Tryz.ntmps138]) ?_
 simp [Tryz.f138,Ef hx,hx]
theorem A6x {id:Nat} {b sb:Nat} {l:List UInt8} (hn:l.length < 2 ^ 40) (J:Nat→Heap→Prop) (D:Heap→Prop)
  (hJ:∀ i h,J i h→h.get b=some [.sl sb 0 l.length l.length 1]∧h.get sb=some (l.map B8))
  (hstep:∀ i h (hi:i < l.length),J (i+1) h→YSem Tryz.prog id [.int .i64 (i:Int),B8 l[i]] h fun v h'=>(v = .bool true∧J i h')∨(v = .bool false∧D h')) {h:Heap} (h0:J l.length h) :
  CSem Tryz.prog 163 [.yld id,.ptr b 0] h fun _ h'=>J 0 h'∨D h':=by
 refine CSem.body hm Tryz.func163 rfl (by kernel_rfl) (by kernel_rfl) (by simp [Tryz.ntmps163]) ?_
 obtain ⟨k1,k2⟩:=hJ _ _ h0
 simp [Tryz.f163,k1,k2,wrap64 (n:=(l.length:Int) - 1) (by omega) (by omega)]
 refine Am (fun (i:Nat) r h=>i≤l.length∧rg r 0 = .yld id∧rg r 1 = .ptr b 0∧rg r 3 = .int .i64 ((i:Int) - 1)∧J i h) (fun i=>i) ?_ l.length ?_
 ·rintro i r h ⟨hi,g0,g1,g3,hj⟩
  obtain ⟨k1,k2⟩:=hJ _ _ hj
  cases i with
  | zero=>simp [g0,g1,g3,hj]
  | succ i =>
   have e:((i+1:Nat):Int) - 1=(i:Int):=by omega
   rw [e] at g3
   have hil:i < l.length:=by omega
   simp [g0,g1,g3,k1,k2,hil]
   refine YSem.mono (hstep i h hil hj) ?_
   rintro v h' (⟨rfl,hj'⟩|⟨rfl,hd⟩)
   ·simp [g0,g1,g3,wrap64 (n:=(i:Int) - 1) (by omega) (by omega)]
    exact ⟨i,by omega,by omega,rfl,hj'⟩
   ·simp [g0,g1,g3,hd]
 ·exact ⟨Nat.le_refl _,by simp,by simp,by simp,h0⟩
def CutP (s:List UInt8) (sz:Int):Prop:=1≤sz∧sz≤7
instance (s:List UInt8) (sz:Int):Decidable (CutP s sz):=by unfold CutP;exact inferInstance
def cutR (s:List UInt8) (sz:Int):Int×List UInt8×Int:=if CutP s sz then (if s.length < sz.toNat then (0,[],4) else (((unle (s.take sz.toNat):Nat):Int),s.drop sz.toNat,0)) else (0,[],1)
def cutA (s:List UInt8) (sz:Int):AV:= .tup [.int .i64 (cutR s sz).1,S (cutR s sz).2.1,.int .i64 (cutR s sz).2.2]
theorem Zd {l:List UInt8} {i:Nat} (hi:i < l.length):unle (l.drop i)=l[i].toNat+256 * unle (l.drop (i+1)):=by
 rw [List.drop_eq_getElem_cons hi];rfl
theorem R9 {l:List UInt8} (h:l.length≤7):unle l < 72057594037927936:=by
 have h1:=A9e l
 have h2:256 ^ l.length≤256 ^ 7:=Ajd h
 omega
theorem Aeg (s:List UInt8) (sz:Int) (hs:s.length < 2 ^ 47):Aq Tryz.prog 114 [S s,.int .i64 sz] (cutA s sz):=by
 refine Aq.Az (k:=2) ?_
 refine CSem.body hm Tryz.func114 rfl (by kernel_rfl) (by kernel_rfl) (by simp [Tryz.ntmps114]) ?_
 by_cases h1:sz < 1
 ·have:¬CutP s sz:=fun h=>by have:=h.1;omega
  simp [Tryz.f114,h1,cutA,cutR,this]
 by_cases h2:7 < sz
 ·have:¬CutP s sz:=fun h=>by have:=h.2;omega
  simp [Tryz.f114,h1,h2,cutA,cutR,this]
 have hP:CutP s sz:=⟨by omega,by omega⟩
 obtain ⟨Z,rfl⟩:=Int.eq_ofNat_of_zero_le (show 0≤sz by omega)
 by_cases h3:s.length < Z
 ·simp [Tryz.f114,h1,h2,h3,cutA,cutR,hP]
 have hz:(Z:Int)≤s.length:=by omega
 have hmin:min Z s.length=Z:=by omega
 have hll:(s.take Z).length=Z:=by simp;omega
 have hZ7:Z≤7:=by omega
 simp [Tryz.f114,h1,h2,h3,Ct,hz,Heap.Aa]
 refine (Aba _ rfl _).then ?_
 rintro _ _ ⟨rfl,rfl⟩
 simp [hmin]
 refine Mx (gf:=163) (a:=[]) (b:=[.ptr 2 0]) (fun r h=>rg r 0=S s∧rg r 1 = .int .i64 (Z:Int)∧rg r 7 = .ptr 0 0∧h.get 0=some [.int .i64 0]∧h.get 1=some ((s.take Z).map B8)∧h.get 2=some [.sl 1 0 Z Z 1]) (by simp) (by simp) (by simp [Heap.Aa,Heap.Ad]) ?_
 rintro id r h hlp ⟨g0,g1,g7,k0,k1,k2⟩
 generalize hH:h.Bs _=H0
 have e0:H0.get 0=some [.int .i64 0]:=by rw [←hH];exact k0
 have e1:H0.get 1=some ((s.take Z).map B8):=by rw [←hH];exact k1
 have e2:H0.get 2=some [.sl 1 0 Z Z 1]:=by rw [←hH];exact k2
 refine (A6x (id:=id) (l:=s.take Z) (sb:=1) (b:=2) (by omega) (fun i h'=>h'.lp=H0.lp∧h'.get 0=some [.int .i64 ((unle ((s.take Z).drop i):Nat):Int)]∧h'.get 1=some ((s.take Z).map B8)∧h'.get 2=some [.sl 1 0 Z Z 1]) (fun _=>False) ?_ ?_ ⟨rfl,by rw [List.drop_length];exact e0,e1,e2⟩).mono ?_
 ·rintro i h' ⟨_,_,f1,f2⟩
  rw [hll]
  exact ⟨f2,f1⟩
 ·rintro i h' hi ⟨fl,f0,f1,f2⟩
  rw [←hH] at fl
  have hsm:unle ((s.take Z).drop i) < 72057594037927936:=R9 (by simp;omega)
  have hu:=Zd hi
  rw [hu] at hsm
  have hb:=lt8 (s.take Z)[i]
  generalize hq:unle ((s.take Z).drop (i+1))=q at hsm f0 hu
  generalize hc:(s.take Z)[i]=c at hsm hb hu
  refine YSem.of hm fl rfl ?_
  have hlt:=Heap.Ah f0
  simp [g7,f0,fl,wrap64 (n:=(q:Int) * 256) (by omega) (by omega),wrap64 (n:=(c.toNat:Int)) (by omega) (by omega),wrap64 (n:=(q:Int) * 256+(c.toNat:Int)) (by omega) (by omega),Heap.Ad,hlt,B8]
  exact ⟨by rw [←hH];rfl,by rw [hu];push_cast;omega,by simpa using f1,f2⟩
 ·rintro x h' (⟨fl,f0,f1,f2⟩|hf)
  rotate_left
  ·exact hf.elim
  refine ⟨_,fl.trans (by rw [←hH];rfl),?_⟩
  have hu0:unle ((s.take Z).drop 0)=unle (s.take Z):=rfl
  rw [hu0] at f0
  simp [g0,g1,g7,f0,Ct,hz]
  change wpc _ _ _ _ (h'.Bs none)
  refine Bh 7 (by kernel_rfl) ?_
  have hzn:Z≤s.length:=by omega
  simp [g0,g1,g7,f0,Ct,hz,cutA,cutR,hP,h3,hzn]
theorem Ka (s:List UInt8) (sz:Int) (hs:s.length < 2 ^ 47) (h:Heap):CSem Tryz.prog 114 [S s,.int .i64 sz] h fun x' h'=>x'=cutA s sz∧h'=h:=(Aeg s sz hs).call (k:=1) (by simp)
theorem Abb (s:List UInt8) (sz:Int) (hs:s.length < 2 ^ 63):Aq Tryz.prog 68 [S s,.int .i64 sz] (cutA s sz):=by
 refine Aq.Az (k:=2) ?_
 refine CSem.body hm Tryz.func68 rfl (by kernel_rfl) (by kernel_rfl) (by simp [Tryz.ntmps68]) ?_
 by_cases h1:sz < 1
 ·have:¬CutP s sz:=fun h=>by have:=h.1;omega
  simp [Tryz.f68,h1,cutA,cutR,this]
 by_cases h2:7 < sz
 ·have:¬CutP s sz:=fun h=>by have:=h.2;omega
  simp [Tryz.f68,h1,h2,cutA,cutR,this]
 have hP:CutP s sz:=⟨by omega,by omega⟩
 obtain ⟨Z,rfl⟩:=Int.eq_ofNat_of_zero_le (show 0≤sz by omega)
 by_cases h3:s.length < Z
 ·simp [Tryz.f68,h1,h2,h3,cutA,cutR,hP]
 have hz:(Z:Int)≤s.length:=by omega
 have hzn:Z≤s.length:=by omega
 have hll:(s.take Z).length=Z:=by simp;omega
 have hZ7:Z≤7:=by omega
 simp [Tryz.f68,h1,h2,h3,Ct,hz,wrap64 (n:=(Z:Int) - 1) (by omega) (by omega)]
 refine Am (fun (i:Nat) r h=>i≤Z∧rg r 0=S s∧rg r 1 = .int .i64 (Z:Int)∧rg r 7 = .int .i64 ((unle ((s.take Z).drop i):Nat):Int)∧rg r 8 = .int .i64 ((i:Int) - 1)) (fun i=>i) ?_ Z ?_
 ·rintro i r h ⟨hi,g0,g1,g7,g8⟩
  cases i with
  | zero =>
   have hu0:unle ((s.take Z).drop 0)=unle (s.take Z):=rfl
   rw [hu0] at g7
   simp [g0,g1,g7,g8]
   refine Bh 7 (by kernel_rfl) ?_
   simp [g0,g1,g7,g8,Ct,hz,cutA,cutR,hP,h3,hzn]
  | succ i =>
   have e:((i+1:Nat):Int) - 1=(i:Int):=by omega
   rw [e] at g8
   have hil:i < (s.take Z).length:=by omega
   have hu:=Zd hil
   have hsm:unle ((s.take Z).drop i) < 72057594037927936:=R9 (by simp;omega)
   rw [hu] at hsm
   have hb:=lt8 (s.take Z)[i]
   have hsi:s[i]? = some (s.take Z)[i]:=by rw [List.getElem_take];exact List.getElem?_eq_getElem _
   generalize hq:unle ((s.take Z).drop (i+1))=q at hsm g7 hu
   generalize hc:(s.take Z)[i]=c at hsm hb hu hsi
   have hsi':s[i]=c:=by rw [List.getElem?_eq_getElem (by omega)] at hsi;exact Option.some.inj hsi
   simp [g0,g1,g7,g8,hsi',show i < s.length by omega,wrap64 (n:=256 * (q:Int)) (by omega) (by omega),wrap64 (n:=(c.toNat:Int)) (by omega) (by omega),wrap64 (n:=256 * (q:Int)+(c.toNat:Int)) (by omega) (by omega),wrap64 (n:=(i:Int) - 1) (by omega) (by omega),B8]
   exact ⟨i,by omega,by omega,by rw [hu];push_cast;omega,rfl⟩
 ·exact ⟨Nat.le_refl _,by simp,by simp,by rw [List.drop_eq_nil_of_le (by omega)];simp [unle],by simp⟩
theorem Jt (s:List UInt8) (sz:Int) (hs:s.length < 2 ^ 63) (h:Heap):CSem Tryz.prog 68 [S s,.int .i64 sz] h fun x' h'=>x'=cutA s sz∧h'=h:=(Abb s sz hs).call (k:=1) (by simp)
theorem Wg {P:Program} {h h':Heap} {t xt:TypeId} {s x y:AV} (hx:Bn P h t xt s x=some (y,h')):h'.lp=h.lp:=by
 have apz:∀ {e xt:TypeId} {z b:Nat} {s x y:AV} {h':Heap},Jn P h e xt z b s x=some (y,h')→h'.lp=h.lp:=by
  intro e xt z b s x y h' hx
  unfold Jn Ra at hx
  repeat' split at hx
  all_goals first|(cases hx;done)|(cases hx;rfl)|skip
  all_goals
   simp only [Option.map_eq_some_iff] at hx
   obtain ⟨cs',_,e⟩:=hx
   cases e
   rfl
 unfold Bn at hx
 repeat' split at hx
 all_goals first|(cases hx;done)|(cases hx;rfl)|exact apz hx|skip
 all_goals
  simp only [Option.map_eq_some_iff] at hx
  obtain ⟨cs',_,e⟩:=hx
  cases e
  rfl
def apZ (P:Program) (t xt:TypeId):Bool:=match elT P t with
 | some e=>(match szT P e with|some z=>z == 1|none=>false) && (intT P xt).isSome && (match byT P e with|some b=>decide (b≤64)|none=>false) && (match Au P e with|some (.int .u8 n)=>n == 0|_=>false)
 | none=>false
theorem A1y {P:Program} {t xt:TypeId} (ha:apZ P t xt=true) {h:Heap} {b:Nat} {l:List UInt8} (hb:h.get b=some (l.map B8)) (z:Nat) (hz:z < 2 ^ 36) (hl:l.length < 2 ^ 36) :
  ∃ b' h',Bn P h t xt (.sl b 0 l.length l.length 1) (.int .i64 (z:Int))=some (.sl b' 0 (l.length+z) (l.length+z) 1,h')∧h'.get b'=some ((l ++ List.replicate z 0).map B8)∧h.next≤h'.next∧(b'=b∨b'=h.next) ∧
   ∀ k zs,h.get k=some zs→k≠b→h'.get k=some zs:=by
 unfold apZ at ha
 split at ha
 ·rename_i e he
  simp only [Bool.and_eq_true] at ha
  obtain ⟨⟨⟨h1,h2⟩,h3⟩,h4⟩:=ha
  split at h1
  ·rename_i z1 hz1
   have hz1':z1=1:=by simpa using h1
   subst hz1'
   split at h3
   ·rename_i by1 hby
    have hby64:by1≤64:=by simpa using h3
    split at h4
    ·rename_i n hza
     have hn:n=0:=by simpa using h4
     subst hn
     obtain ⟨k,hk⟩:=Option.isSome_iff_exists.1 h2
     have hzs:∀ n,F0 P e n=some (List.replicate n (B8 0)):=by
      intro n
      simp only [F0,hza,AV.cells,B8]
      rw [Np]
      rfl
     have hmb:(z:Int) * (by1:Int)≤2 ^ 47:=by
      have:z * by1≤2 ^ 36 * 64:=Nat.mul_le_mul (by omega) hby64
      have:((z * by1:Nat):Int)≤2 ^ 47:=by omega
      push_cast at this
      exact this
     have hz40:(z:Int)≤2 ^ 40:=by omega
     have hall:(List.replicate z (B8 0)).all AV.atom=true:=by simp
     have hun:(AV.int .i64 (z:Int)).len? = none:=rfl
     by_cases h0:z=0
     ·subst h0
      refine ⟨b,h.put b (l.map B8),?_,by simpa using Heap.Ac hb,Nat.le_refl _,.inl rfl,fun k zs hk hkb=>by rw [Heap.Ag hb hkb];exact hk⟩
      have hp:putN (l.map B8) l.length []=some (l.map B8):=by simp [putN,List.take_of_length_le]
      simp [Bn,Br he,hz1,hby,show (AV.int .i64 0).len? = none from rfl,Jn,Nq hk,hzs,Ra,hb,hp]
     ·refine ⟨h.next,(h.kill b).alloc ((l ++ List.replicate z 0).map B8),?_,Heap.A9 (h.kill b) _,by simp,.inr rfl,fun k zs hk hkb=> ?_⟩
      ·have hlb:(l.length+z) * by1≤2 ^ 47:=by
        have:(l.length+z) * by1≤2 ^ 37 * 64:=Nat.mul_le_mul (by omega) hby64
        omega
       have hlz:l.length+z≤2 ^ 47:=by omega
       have hgt:¬(l.length+z≤l.length):=by omega
       have ht:takeN (l.map B8) 0 l.length=some (l.map B8):=Tp (by simp)
       simp only [Bn,Br he,hz1,hby,hun,Jn,Nq hk,hzs,Ra,hb]
       simp [h0,hlb,hlz,ht]
       refine ⟨⟨by omega,by omega⟩,by omega⟩
      ·have:(h.kill b).get k=some zs:=by rw [Heap.G9,if_neg hkb,hk]
       exact Heap.Af this
    ·cases h4
   ·cases h3
  ·cases h1
 ·cases ha
@[simp] theorem wpI_min2 {P:Program} {x y:Operand} {ts:Array TypeId} {dst:Option Tmp} {K:Regs→Heap→Prop} {r:Regs} {h:Heap} : wpI P (.call ⟨.builtin .min, #[x,y],ts⟩) dst K r h=Has (Aj r x) fun x=>Has (Aj r y) fun y=>Has (Nr x y) fun v=>K (Ar r dst v) h:=by
 simp only [wpI,Aw,opB,spO,ghO,or_false,C4,Cw,Ba,Bd,Be]
 cases Aj r x with
 | none=>simp
 | some x=>cases Aj r y with
  | none=>simp
  | some y=>simp [Ba]
@[simp] theorem min2X_int {k:IntKind} {a b:Int} : Nr (.int k a) (.int k b)=some (.int k (if b < a then b else a)):=by simp [Nr]
theorem A6y {P:Program} {t:TypeId} {b off n c z:Nat} {lo hi m:AV} (hz:(elT P t).bind (szT P)=some z) :
  Fj P t (.sl b off n c z) (some lo) (some hi) (some m)=(Bt c (some m) c).bind fun m=>(Bt m (some hi) n).bind fun h=>(Bt h (some lo) 0).map fun l=>if m=l then .emp else .sl b (off+l * z) (h - l) (m - l) z:=by
 obtain ⟨e,he,hz⟩:=Option.bind_eq_some_iff.1 hz
 simp only [Fj,Br he,hz]
 simp
 cases Bt c (some m) c with
 | none=>rfl
 | some m =>
  simp only [Option.bind_some]
  cases Bt m (some hi) n with
  | none=>rfl
  | some h =>
   simp only [Option.bind_some]
   cases Bt h (some lo) 0 with
   | none=>rfl
   | some l =>
    simp only [Option.map_some]
    split<;>rfl
theorem A6z (x:AV) (hx:x.atom=true) (n:Int) (hn:1≤n) (h:Heap):CSem Tryz.prog 122 [x,.int .i64 n] h fun x' h'=>x' = .fn 144 [] [.ptr h.next 0,.ptr (h.next+1) 0]∧h'=(h.alloc [x]).alloc [.int .i64 n]:=by
 refine CSem.body hm Tryz.func122 rfl (by kernel_rfl) (by kernel_rfl) (by simp [Tryz.ntmps122]) ?_
 simp [Tryz.f122,Ef hx,hx,Heap.Aa,show ¬n < 1 by omega]
theorem A3y {id:Nat} {p1 p2 sb K sh:Nat} (hsh:1≤sh) (hn:K * sh < 2 ^ 36) (J:Nat→Heap→Prop) (D:Heap→Prop)
  (hJ:∀ i h,J i h→h.get p1=some [.sl sb 0 (K * sh) (K * sh) 1]∧h.get p2=some [.int .i64 (sh:Int)])
  (hstep:∀ i h,i < K→J i h→YSem Tryz.prog id [.sl sb (i * sh) sh sh 1] h fun v h'=>(v = .bool true∧J (i+1) h')∨(v = .bool false∧D h')) {h:Heap} (h0:J 0 h) :
  CSem Tryz.prog 144 [.yld id,.ptr p1 0,.ptr p2 0] h fun _ h'=>J K h'∨D h':=by
 refine CSem.body hm Tryz.func144 rfl (by kernel_rfl) (by kernel_rfl) (by simp [Tryz.ntmps144]) ?_
 generalize hN:K * sh=N at hn hJ
 simp [Tryz.f144]
 refine Am (fun (i:Nat) r h=>i≤K∧rg r 0 = .yld id∧rg r 1 = .ptr p1 0∧rg r 2 = .ptr p2 0∧(∃ p:Nat,p=i * sh∧rg r 4 = .int .i64 (p:Int))∧J i h) (K - ·) ?_ 0 ?_
 ·rintro i r h ⟨hi,g0,g1,g2,⟨p,hp,g4⟩,hj⟩
  obtain ⟨k1,k2⟩:=hJ _ _ hj
  rcases Nat.lt_or_eq_of_le hi with hlt|heq
  ·have hps:p+sh≤N:=by
    have:(i+1) * sh≤K * sh:=Nat.mul_le_mul_right _ hlt
    rw [Nat.add_mul,Nat.one_mul] at this
    omega
   have hpn:p < N:=by omega
   have hmn:¬((N:Int) - p < sh):=by omega
   have hst:=hstep i h hlt hj
   rw [←hp] at hst
   simp [g0,g1,g2,g4,k1,k2,hpn]
   refine Bh 7 (by kernel_rfl) ?_
   simp [g0,g1,g2,g4,k1,k2,M7,hpn,show p≤N by omega,show ((N - p:Nat):Int)=(N:Int) - p by omega,hmn]
   have hw:IntKind.i64.wrap ((p:Int)+sh)=((p+sh:Nat):Int):=by rw [wrap64 (by omega) (by omega)];omega
   have hs3:Fj Tryz.prog 175 (.sl sb 0 N N 1) (some (.int .i64 (p:Int))) (some (.int .i64 ((p+sh:Nat):Int))) (some (.int .i64 ((p+sh:Nat):Int)))=some (.sl sb p sh sh 1):=by
    rw [A6y (z:=1) (by simp)]
    have e1:((p+sh:Nat):Int)≤(N:Int):=by omega
    have e2:(p:Int)≤((p+sh:Nat):Int):=by omega
    have e3:¬(p+sh=p):=by omega
    simp only [A3z,Option.bind_some]
    rw [if_pos ⟨by omega,e1⟩]
    simp only [Option.bind_some,Int.toNat_natCast]
    rw [if_pos ⟨by omega,Int.le_refl _⟩]
    simp only [Option.bind_some,Int.toNat_natCast]
    rw [if_pos ⟨by omega,e2⟩]
    simp only [Option.map_some,Int.toNat_natCast]
    rw [if_neg e3]
    congr 2<;>omega
   rw [hw,hs3]
   simp
   refine YSem.mono hst ?_
   rintro v h' (⟨rfl,hj'⟩|⟨rfl,hd⟩)
   ·obtain ⟨k1',k2'⟩:=hJ _ _ hj'
    simp [g0,g1,g2,g4,k1',k2',hw]
    refine ⟨i+1,by omega,by omega,?_,hj'⟩
    rw [hp];push_cast;rw [Int.add_mul,Int.one_mul]
   ·simp [g0,g1,g2,g4,hd]
  ·have hpn:p=N:=by rw [hp,heq,hN]
   subst heq
   simp [g0,g1,g2,g4,k1,k2,hpn,hj]
 ·exact ⟨by omega,by simp,by simp,by simp,⟨0,by simp,by simp⟩,h0⟩
def Dg (n:Nat) (data:List UInt8):List UInt8:=le data.length 4 ++ data ++ List.replicate (n - 4 - data.length) 0
def chunk (sh:Nat) (t:List UInt8) (i:Nat):List UInt8:=(t.drop (i * sh)).take sh
def chunks (k sh:Nat) (t:List UInt8):Tab:=(List.range k).map (chunk sh t)
def splL (c:Cfg) (data:List UInt8):Tab:=chunks c.k.toNat c.sh.toNat (Dg (c.k.toNat * c.sh.toNat) data)
def splR (c:Cfg) (data:List UInt8):Tab×Int:=if As c then (if Bg c < data.length then ([],12) else encR (splL c data) c.m) else ([],1)
theorem Tu {n:Nat} {data:List UInt8} (h:4+data.length≤n):(Dg n data).length=n:=by simp [Dg];omega
theorem Abc {k sh:Nat} {t:List UInt8} (ht:t.length=k * sh) {i:Nat} (hi:i < k):(chunk sh t i).length=sh:=by
 have:(i+1) * sh≤k * sh:=Nat.mul_le_mul_right _ hi
 rw [Nat.add_mul,Nat.one_mul] at this
 simp [chunk];omega
theorem A70 {k sh:Nat} {t:List UInt8} : (chunks k sh t).length=k:=by simp [chunks]
theorem Abd {k sh:Nat} {t:List UInt8} (hk:k < 2 ^ 40) (hs:sh < 2 ^ 40):Sm (chunks k sh t):=by
 refine ⟨by simpa [chunks] using hk,fun x hx=> ?_⟩
 obtain ⟨i,_,rfl⟩:=List.mem_map.1 hx
 simp [chunk];omega
def chT (sh:Nat) (t:List UInt8) (i:Nat):List AV:=((List.range i).map (chunk sh t)).map S
theorem Aje {sh i:Nat} {t:List UInt8} : (chT sh t i).length=i:=by simp [chT]
theorem Aeh {sh i:Nat} {t:List UInt8} : chT sh t i ++ [S (chunk sh t i)]=chT sh t (i+1):=by simp [chT,List.range_succ]
theorem put4 {n:Nat} (h:n < 2 ^ 32):putA n 4 = .tup [S (le n 4),.int .i64 0]:=by
 have hP:PutP n 4:=⟨by omega,by omega,by omega⟩
 have hd:¬ 0 < dv n 4:=by rw [Aec];omega
 simp [putA,putR,hP,hd]
theorem A40 (c:Cfg) (data:List UInt8) (hd:data.length < 2 ^ 47):Jx Tryz.prog 90 [CfA c,S data] (splR c data).1 (splR c data).2:=by
 refine CSem.body hm Tryz.func90 rfl (by kernel_rfl) (by kernel_rfl) (by simp [Tryz.ntmps90]) ?_
 simp [Tryz.f90,CfA,AV.cells,Ab,takeN,Heap.Aa]
 refine (D4 c _).use ?_
 by_cases hC:As c
 rotate_left
 ·simp [hC,splR,FrQ.nil]
 simp [hC,CfA,AV.cells,Ab,takeN,Heap.Aa]
 refine (Se c _).use ?_
 by_cases hcap:Bg c < data.length
 ·simp [hC,hcap,splR,FrQ.nil]
 have hcv:Bg c=c.k * c.sh - 4:=by simp [Bg,hC]
 have hC':=hC
 obtain ⟨ck,cm,csh,cst,csl⟩:=c
 obtain ⟨hG,hm0,⟨hs8,hs1024⟩,_,_,h4000⟩:=hC
 have hk1:=hG.1
 have hk255:=hG.2.2.1
 simp only at hG hm0 hs8 hs1024 h4000 hk1 hk255 hcv
 obtain ⟨K,rfl⟩:=Int.eq_ofNat_of_zero_le (show 0≤ck by omega)
 obtain ⟨Z,rfl⟩:=Int.eq_ofNat_of_zero_le (show 0≤csh by omega)
 obtain ⟨N,hN⟩:∃ N,N=K * Z:=⟨_,rfl⟩
 have hNi:(K:Int) * (Z:Int)=(N:Int):=by rw [hN];push_cast;rfl
 have hcap2:¬((N:Int) - 4 < data.length):=by rw [hcv,hNi] at hcap;exact hcap
 rw [hNi] at h4000
 have hspl:splR ⟨K,cm,Z,cst,csl⟩ data=encR (chunks K Z (Dg N data)) cm:=by
  unfold splR
  rw [if_pos hC',if_neg hcap]
  show encR (splL _ data) cm=_
  unfold splL
  rw [hN]
  rfl
 rw [hspl]
 have hdl:data.length < 2 ^ 32:=by omega
 have hl0:(le data.length 4 ++ data).length=4+data.length:=by simp
 have ht:(Dg N data).length=K * Z:=by rw [←hN];exact Tu (by omega)
 have hbl:4+data.length≤140737488355328:=by omega
 simp [hcap]
 refine (K9 _ _ (by omega) _).use ?_
 rw [put4 hdl]
 simp [hbl,A8,Heap.Aa]
 obtain ⟨z,hz⟩:∃ z,N=4+data.length+z:=⟨N - (4+data.length),by omega⟩
 have hst:Dg N data=(le data.length 4 ++ data) ++ List.replicate z 0:=by
  simp only [Dg]
  rw [show N - 4 - data.length=z by omega]
 have hzw:IntKind.i64.wrap (IntKind.i64.wrap ((K:Int) * Z) - (4+(data.length:Int)))=(z:Int):=by
  rw [hNi,wrap64 (n:=(N:Int)) (by omega) (by omega),wrap64 (by omega) (by omega)];omega
 rw [hzw]
 generalize hH1:Heap.alloc _ _=H1
 have e0:H1.get 0=some [.int .i64 (K:Int),.int .i64 cm,.int .i64 (Z:Int),.int .i64 cst,.int .i64 csl]:=by rw [←hH1];simp [Heap.Aa]
 have e1:H1.get 1=some ((le data.length 4 ++ data).map B8):=by rw [←hH1];simp [Heap.Aa]
 have el:H1.lp=none:=by rw [←hH1];rfl
 have en:H1.next=2:=by rw [←hH1];rfl
 obtain ⟨b',H2,e,hb',hnx,hbb,hold⟩:=A1y (P:=Tryz.prog) (t:=175) (xt:=3) (by kernel_rfl) e1 z (by omega) (by simp;omega)
 rw [hl0] at e
 rw [←hst] at hb'
 have hN4:4+data.length+z=N:=hz.symm
 rw [hN4] at e
 have f0:=hold 0 _ e0 (by omega)
 have hlp2:H2.lp=none:=by rw [Wg e,el]
 have hb2:b'≤2:=by omega
 have hb0:b'≠0:=by omega
 have hn2:2≤H2.next:=by omega
 have hbn:b' < H2.next:=Heap.Ah hb'
 simp [e,A8,Heap.Aa,f0,show (0:Nat)≠H2.next by omega]
 refine (A6z _ rfl _ (by omega) _).then ?_
 rintro _ _ ⟨rfl,rfl⟩
 simp
 obtain ⟨q,hq⟩:∃ q,q=H2.next:=⟨_,rfl⟩
 have hbq:b' < q:=by omega
 have hq2:2≤q:=by omega
 refine Mx (gf:=144) (a:=[]) (b:=[.ptr (q+1) 0,.ptr (q+2) 0]) (fun r h=>rg r 2 = .ptr 0 0∧rg r 10 = .ptr q 0∧h.get 0=some [.int .i64 (K:Int),.int .i64 cm,.int .i64 (Z:Int),.int .i64 cst,.int .i64 csl] ∧
  h.get b'=some ((Dg N data).map B8)∧h.get q=some [.nilSl]∧h.get (q+1)=some [.sl b' 0 N N 1]∧h.get (q+2)=some [.int .i64 (Z:Int)]∧h.next=q+3) (by simp [hlp2]) (by simp [hq]) ?_ ?_
 ·simp only [hq] at hbq ⊢
  simp [Heap.Aa,f0,hb',show b'≠H2.next by omega,show b'≠H2.next+1 by omega,show b'≠H2.next+2 by omega,show (0:Nat)≠H2.next by omega]
  omega
 rintro id r h hlp ⟨g2,g10,k0,kb,kq,k1,k2,kn⟩
 generalize hH:h.Bs _=H0
 have z0:H0.get 0=some [.int .i64 (K:Int),.int .i64 cm,.int .i64 (Z:Int),.int .i64 cst,.int .i64 csl]:=by rw [←hH];exact k0
 have zb:H0.get b'=some ((Dg N data).map B8):=by rw [←hH];exact kb
 have zq:H0.get q=some [.nilSl]:=by rw [←hH];exact kq
 have z1:H0.get (q+1)=some [.sl b' 0 N N 1]:=by rw [←hH];exact k1
 have z2:H0.get (q+2)=some [.int .i64 (Z:Int)]:=by rw [←hH];exact k2
 have zn:H0.next=q+3:=by rw [←hH];exact kn
 refine (A3y (id:=id) (p1:=q+1) (p2:=q+2) (sb:=b') (K:=K) (sh:=Z) (by omega) (by omega) (fun i h'=>h'.lp=H0.lp∧h'.get 0=some [.int .i64 (K:Int),.int .i64 cm,.int .i64 (Z:Int),.int .i64 cst,.int .i64 csl] ∧
  h'.get b'=some ((Dg N data).map B8)∧h'.get (q+1)=some [.sl b' 0 N N 1]∧h'.get (q+2)=some [.int .i64 (Z:Int)]∧q+3≤h'.next ∧
  ∃ x,h'.get q=some [x]∧Own h' x (chT Z (Dg N data) i)∧∀ b off n c z,x = .sl b off n c z→q+3≤b) (fun _=>False) ?_ ?_
  ⟨rfl,z0,zb,z1,z2,by omega,.nilSl,zq,.inl ⟨rfl,rfl⟩,fun _ _ _ _ _ e=>by cases e⟩).mono ?_
 ·rintro i h' ⟨_,_,_,f1,f2,_⟩
  rw [←hN]
  exact ⟨f1,f2⟩
 ·rintro i h' hi ⟨fl,f0,fb,f1,f2,fn,x,fx,ho,hxb⟩
  rw [←hH] at fl
  refine YSem.of hm fl rfl ?_
  have hps:i * Z+Z≤N:=by
   have:(i+1) * Z≤K * Z:=Nat.mul_le_mul_right _ hi
   rw [Nat.add_mul,Nat.one_mul] at this
   omega
  have htl:(Dg N data).length=N:=by rw [ht,hN]
  have htk:takeN ((Dg N data).map B8) (i * Z) Z=some ((chunk Z (Dg N data) i).map B8):=by
   simp only [takeN,List.length_map]
   rw [if_pos (by omega),chunk,List.map_take,List.map_drop]
  simp [g2,g10,fx,fl,fb,htk]
  generalize hL:(some _:Option Lp)=L
  have hio:(chT Z (Dg N data) i).length < 2 ^ 40:=by rw [Aje];omega
  obtain ⟨x',H3,e,ho',hnx,⟨hat,hxq⟩,hk3⟩:=Hj (P:=Tryz.prog) (t:=24) (xt:=24) (h:=h'.Bs L) (by kernel_rfl) (x:=x) (xs:=chT Z (Dg N data) i) ho hio (Mr (chunk Z (Dg N data) i))
  have hl3:=Wg e
  simp only [A1z,A41,Hn,Ju] at e hnx hxq hk3 hl3
  simp [g2,g10,fx,fl,fb,htk,C0 (P:=Tryz.prog) (t:=24) (xt:=24) (by kernel_rfl),e]
  have ne:∀ k,k < q+3→∀ off n c z,x≠.sl k off n c z:=fun k hk off n c z e=>by have:=hxb _ _ _ _ _ e;omega
  have q0:=hk3 _ _ f0 (ne _ (by omega))
  have qb:=hk3 _ _ fb (ne _ (by omega))
  have q1:=hk3 _ _ f1 (ne _ (by omega))
  have q2:=hk3 _ _ f2 (ne _ (by omega))
  have qq:=hk3 _ _ fx (ne _ (by omega))
  simp [qq,hat]
  refine ⟨by rw [hl3,←hL],by rw [←hH];rfl,by rw [Heap.Ag qq (by omega)];exact q0,by rw [Heap.Ag qq (by omega)];exact qb,by rw [Heap.Ag qq (by omega)];exact q1,
   by rw [Heap.Ag qq (by omega)];exact q2,by omega,x',Heap.Ac qq,?_,fun b off n c z e=>by have:=hxq _ _ _ _ _ e;omega⟩
  rw [Aeh] at ho'
  rcases ho' with ⟨rfl,h0⟩|⟨b,rfl,hg⟩
  ·exact .inl ⟨rfl,h0⟩
  ·have:=hxq _ _ _ _ _ rfl
   exact .inr ⟨b,rfl,by show (H3.put q _).get b=_;rw [Heap.Ag qq (by omega)];exact hg⟩
 ·rintro x' h' (⟨fl,f0,fb,f1,f2,fn,x,fx,ho,hxb⟩|hf)
  rotate_left
  ·exact hf.elim
  refine ⟨_,fl.trans (by rw [←hH];rfl),?_⟩
  change Blk _ _ _ _ (h'.Bs none)
  simp [g2,g10,f0,fx,A8]
  have hsn:X.snap (h'.Bs none) true 2 x=some (SL (chunks K Z (Dg N data))):=Own.snap (h:=h'.Bs none) (f:=S) (l:=chunks K Z (Dg N data)) ho (fun _=>rfl)
  refine ((Ab6 (chunks K Z (Dg N data)) cm (Abd (by omega) (by omega))).call (k:=2) (by simp [hsn])).then ?_
  rintro _ _ ⟨rfl,rfl⟩
  obtain ⟨y,ey,_,_,_,hfr⟩:=Ae0 (h'.Bs none) (encR (chunks K Z (Dg N data)) cm).1 (encR (chunks K Z (Dg N data)) cm).2
  simp [ey,hfr]
theorem Uj (c:Cfg) (data:List UInt8) (hd:data.length < 2 ^ 47) (h:Heap):CSem Tryz.prog 90 [CfA c,S data] h fun x' h'=>x'=rL (splR c data).1 (splR c data).2∧h'=h :=
 (A40 c data hd).pure.call (k:=2) (by simp [CfA])
end Go.Proofs.YtpabfpccpbakfaaGreatDoor.X
namespace Go.Proofs
open Go.Shelf
set_option maxRecDepth 100000
def Tryz.Uk:Go.Shelf.Ren:=⟨fun|156=>103|165=>132|166=>125|169=>126|240=>149|241=>153|276=>176|277=>178|n=>n,fun|31=>24|9=>9|3=>3|4=>4|0=>0|20=>20|72=>183|76=>186|70=>181|37=>175|75=>185|127=>218|164=>248|5=>5|80=>188|n=>n,fun|n=>n⟩
theorem Tryz.Vg:Go.Proofs.Lays.n156 Tryz.prog Tryz.Uk:= {
 mixed:=by kernel_rfl
 f156:=Tryz.func103.trans (congrArg some (by kernel_rfl))
 f165:=Tryz.func132.trans (congrArg some (by kernel_rfl))
 f166:=Tryz.func125.trans (congrArg some (by kernel_rfl))
 f169:=Tryz.func126.trans (congrArg some (by kernel_rfl))
 f240:=Tryz.func149.trans (congrArg some (by kernel_rfl))
 f241:=Tryz.func153.trans (congrArg some (by kernel_rfl))
 f276:=Tryz.func176.trans (congrArg some (by kernel_rfl))
 f277:=Tryz.func178.trans (congrArg some (by kernel_rfl))
 t0:=Tryz.underlying0
 a0:=Tryz.isAgg0
 z0:=Tryz.sizeOf0
 v0:=Tryz.zeroValue0
 t3:=Tryz.underlying3
 a3:=Tryz.isAgg3
 z3:=Tryz.sizeOf3
 v3:=Tryz.zeroValue3
 t4:=Tryz.underlying4
 a4:=Tryz.isAgg4
 z4:=Tryz.sizeOf4
 v4:=Tryz.zeroValue4
 t9:=Tryz.underlying9
 a9:=Tryz.isAgg9
 z9:=Tryz.sizeOf9
 v9:=Tryz.zeroValue9
 t20:=Tryz.underlying20
 a20:=Tryz.isAgg20
 z20:=Tryz.sizeOf20
 v20:=Tryz.zeroValue20
 t31:=Tryz.underlying24
 a31:=Tryz.isAgg24
 z31:=Tryz.sizeOf24
 v31:=Tryz.zeroValue24
 t37:=Tryz.underlying175
 a37:=Tryz.isAgg175
 z37:=Tryz.sizeOf175
 v37:=Tryz.zeroValue175
 t70:=Tryz.underlying181
 a70:=Tryz.isAgg181
 z70:=Tryz.sizeOf181
 v70:=Tryz.zeroValue181
 t72:=Tryz.underlying183
 a72:=Tryz.isAgg183
 z72:=Tryz.sizeOf183
 v72:=Tryz.zeroValue183
 t75:=Tryz.underlying185
 a75:=Tryz.isAgg185
 z75:=Tryz.sizeOf185
 v75:=Tryz.zeroValue185
 t76:=Tryz.underlying186
 a76:=Tryz.isAgg186
 z76:=Tryz.sizeOf186
 v76:=Tryz.zeroValue186
 t127:=Tryz.underlying218
 a127:=Tryz.isAgg218
 z127:=Tryz.sizeOf218
 v127:=Tryz.zeroValue218
 t164:=Tryz.underlying248
 a164:=Tryz.isAgg248
 z164:=Tryz.sizeOf248
 v164:=Tryz.zeroValue248 }
theorem Tryz.Fc:Builder.Extra Tryz.prog Tryz.Uk:= {
 sizeBuilder:=by kernel_rfl
 liesBuilder:=by kernel_rfl
 t5:=Tryz.underlying5
 a5:=Tryz.isAgg5
 z5:=Tryz.sizeOf5
 v5:=Tryz.zeroValue5
 infoByte:=by kernel_rfl
 cellsByte:=by kernel_rfl
 sizeByte:=by kernel_rfl
 neB5:=by decide }
open Go.RowKit in
theorem Tryz.strings_Join_none (a:Option Addr) (c:Nat) (sep:ByteArray) (w:World) :
  Calls Tryz.prog 103 #[.slice a 0 c,.string sep] w fun e w'=>e = .returned (.string ⟨#[]⟩)∧w'=w:=Any.strings_Join_none Tryz.Vg Tryz.Fc a c sep w
open Go.RowKit in
theorem Tryz.strings_Join (bk o c:Nat) (xs:List ByteArray) (sep:ByteArray) (w:World) (hcells:∀ (j:Nat) x,xs[j]? = some x→w.cell? ⟨bk,o+j,none⟩=some (.string x)) (hbk:bk < w.heap.size) (hN:xs.length≤140737488355328) (hcap:xs.length≤c) (hlen:(Lib.join (xs.map (·.data.toList)) sep.data.toList).length≤140737488355328) :
  Calls Tryz.prog 103 #[.slice (some ⟨bk,o,none⟩) xs.length c,.string sep] w fun e w'=>e = .returned (.string ⟨(Lib.join (xs.map (·.data.toList)) sep.data.toList).toArray⟩)∧Below w.heap.size w w':=Any.strings_Join Tryz.Vg Tryz.Fc bk o c xs sep w hcells hbk hN hcap hlen
end Go.Proofs
namespace Go.Proofs.YtpabfpccpbakfaaGreatDoor.X
open Go.RowKit F
set_option maxRecDepth 100000
set_option linter.unusedSimpArgs false
set_option linter.unusedVariables false
theorem Abe (l:Tab) (sep:List UInt8) (hl:l.length < 2 ^ 40) (hj:(Lib.join l sep).length≤140737488355328):Aq Tryz.prog 103 [SL l,S sep] (S (Lib.join l sep)):=by
 refine ⟨by kernel_rfl,fun I w cargs hI hc=> ?_⟩
 match cargs,hc.len,hc with
 | [v,u],_,hc =>
  have hv:=hc.ok 0 _ _ rfl rfl
  have hu:=hc.ok 1 _ _ rfl rfl
  have hu':u = .string ⟨sep.toArray⟩:=by cases hu;rfl
  subst hu'
  have none_case:∀ (a:Option Addr) (c:Nat),l=[]→Calls Tryz.prog 103 #[.slice a 0 c,.string ⟨sep.toArray⟩] w fun e w'=> ∃ v,e = .returned v∧Below w.heap.size w w'∧VR w' (fun B=>w.heap.size≤B∧B < w'.heap.size) Fk (S (Lib.join l sep)) v:=by
   intro a c h0
   refine (Tryz.strings_Join_none a c ⟨sep.toArray⟩ w).mono ?_
   rintro e w' ⟨rfl,rfl⟩
   refine ⟨_,rfl,Below.refl _ _,?_⟩
   rw [h0]
   exact .str _
  generalize hx:SL l=x at hv
  cases hv with
  | vec0 a cap =>
   exact none_case (some a) cap (by simp [TL] at hx;exact hx)
  | vecN=>exact none_case none 0 (by simp [TL] at hx;exact hx)
  | vec len xs B o cap cs e fz vs hIB hg hlc hcs hvs =>
   simp only [TL,AV.vec.injEq] at hx
   obtain ⟨rfl,rfl⟩:=hx
   have hB:B < w.heap.size:=hI B hIB
   have e1:(l.map fun x=>ByteArray.mk x.toArray).map (·.data.toList)=l:=by simp [Function.comp_def]
   have:=Tryz.strings_Join B o cap (l.map fun x=>ByteArray.mk x.toArray) ⟨sep.toArray⟩ w ?_ hB (by simp;omega) (by simpa using hlc) (by rw [e1];exact hj)
   ·simp only [List.length_map,e1] at this
    refine this.mono ?_
    rintro e' w' ⟨rfl,hb⟩
    exact ⟨_,rfl,hb,.str _⟩
   ·intro j y hy
    simp only [List.getElem?_map,Option.map_eq_some_iff] at hy
    obtain ⟨z,hz,rfl⟩:=hy
    have hj':=(List.getElem?_eq_some_iff.1 hz).1
    have h1:=hcs j (by simpa using hj')
    have h2:=hvs j (by simpa using hj')
    have h3:vs j = .string ⟨z.toArray⟩:=by
     have:(l.map S)[j]'(by simpa using hj')=S z:=by
      rw [List.getElem_map,(List.getElem?_eq_some_iff.1 hz).2]
     rw [this] at h2
     generalize vs j=v0 at h2
     cases h2;rfl
    rw [h3] at h1
    unfold World.cell?
    simp [hg,h1]
  | _=>simp [SL,TL] at hx
theorem Wj (l:Tab) (sep:List UInt8) (hl:l.length < 2 ^ 40) (hj:(Lib.join l sep).length≤140737488355328) {h:Heap} {x:AV} (hx:snap h true 2 x=some (SL l)):CSem Tryz.prog 103 [x,S sep] h fun x' h'=>x'=S (Lib.join l sep)∧h'=h :=
 (Abe l sep hl hj).call (k:=2) (by simp [hx])
theorem My (l:Tab):Lib.join l []=l.flatten:=by
 cases l with
 | nil=>rfl
 | cons x r=>rw [Lib.join_cons,Lib.joinTail];simp
theorem Qj {P:Program} {t:TypeId} (a b:UInt8):binX P .eql t (B8 a) (B8 b)=some (.bool (decide (a=b))):=by
 simp only [B8]
 rw [Aej (op:= .eql) (by decide) (by decide),Aek]
 congr 2
 apply decide_eq_decide.2
 constructor
 ·intro h;exact UInt8.toNat_inj.1 (by omega)
 ·intro h;rw [h]
def Kb (c:UInt8) (s:List UInt8):List UInt8:=s.dropWhile (· == c)
def Gv (c:UInt8) (s:List UInt8):List UInt8:=(s.reverse.dropWhile (· == c)).reverse
theorem A71 (s:List UInt8) (c:UInt8) (hs:s.length < 2 ^ 62):Aq Tryz.prog 155 [S s,B8 c] (S (Kb c s)):=by
 refine Aq.Az (k:=1) ?_
 refine CSem.body hm Tryz.func155 rfl (by kernel_rfl) (by kernel_rfl) (by simp [Tryz.ntmps155]) ?_
 simp [Tryz.f155]
 refine Am (fun (t:List UInt8) r h=>t.length≤s.length∧Kb c t=Kb c s∧rg r 0=S t∧rg r 1=B8 c) (fun t=>t.length) ?_ s ?_
 ·rintro t r h ⟨ht,h1,g0,g1⟩
  cases t with
  | nil =>
   have h2:Kb c s=[]:=by rw [←h1];rfl
   simp [g0,g1,h2]
  | cons b t =>
   by_cases hb:b=c
   ·subst hb
    have h2:Kb b (b :: t)=Kb b t:=by simp [Kb]
    simp [g0,g1,Ct,Qj]
    simp at ht
    exact ⟨by omega,t,by omega,by omega,by rw [←h2,h1],rfl⟩
   ·have h2:Kb c (b :: t)=b :: t:=by simp [Kb,hb]
    simp [g0,g1,hb,←h1,h2,Qj]
 ·exact ⟨Nat.le_refl _,rfl,by simp,by simp⟩
theorem A72 (s:List UInt8) (c:UInt8) (hs:s.length < 2 ^ 62):Aq Tryz.prog 156 [S s,B8 c] (S (Gv c s)):=by
 refine Aq.Az (k:=1) ?_
 refine CSem.body hm Tryz.func156 rfl (by kernel_rfl) (by kernel_rfl) (by simp [Tryz.ntmps156]) ?_
 simp [Tryz.f156]
 refine Am (fun (t:List UInt8) r h=>t.length≤s.length∧Gv c t.reverse=Gv c s∧rg r 0=S t.reverse∧rg r 1=B8 c) (fun t=>t.length) ?_ s.reverse ?_
 ·rintro t r h ⟨ht,h1,g0,g1⟩
  cases t with
  | nil =>
   have h2:Gv c s=[]:=by rw [←h1];rfl
   simp [g0,g1,h2]
  | cons b t =>
   have hlw:IntKind.i64.wrap (t.length:Int)=(t.length:Int):=wrap64 (by omega) (by simp at ht;omega)
   by_cases hb:b=c
   ·subst hb
    simp [g0,g1,Ct,Qj,hlw,List.getElem?_append]
    simp at ht
    exact ⟨by omega,t,by omega,by omega,by rw [←h1];simp [Gv],rfl⟩
   ·have h2:Gv c (b :: t).reverse=(b :: t).reverse:=by simp [Gv,hb]
    rw [h2] at h1
    simp at h1
    simp [g0,g1,hb,←h1,Qj,hlw,List.getElem?_append]
 ·exact ⟨by simp,by simp,by simp,by simp⟩
theorem Abf (s:List UInt8) (hs:s.length < 2 ^ 62):Aq Tryz.prog 136 [S s,S [0]] (S (Kb 0 (Gv 0 s))):=by
 refine Aq.Az (k:=1) ?_
 refine CSem.body hm Tryz.func136 rfl (by kernel_rfl) (by kernel_rfl) (by simp [Tryz.ntmps136]) ?_
 by_cases h0:s=[]
 ·subst h0
  simp [Tryz.f136,Kb,Gv]
 have hlt:AV.int .u8 128=B8 128:=rfl
 have h8:B8 0 = .int .u8 0:=rfl
 simp [Tryz.f136,h0,h8]
 refine Bh 8 (by kernel_rfl) ?_
 simp [h0]
 refine Cp.use (x:=S (Gv 0 s)) ((A72 s 0 hs).quiet (k:=1) (fun _=>by simp)) ?_
 simp
 refine Cp.use (x:=S (Kb 0 (Gv 0 s))) ((A71 _ 0 (by simp [Gv];have:=(List.dropWhile_suffix (fun x=>x == (0:UInt8)) (l:=s.reverse)).length_le;simp at this;omega)).quiet (k:=1) (fun _=>by simp)) ?_
 simp
theorem Abg (s:List UInt8) (hs:s.length < 2 ^ 62) (h:Heap):CSem Tryz.prog 136 [S s,S [0]] h fun x' h'=>x'=S (Kb 0 (Gv 0 s))∧h'=h:=(Abf s hs).call (k:=1) (by simp)
theorem Tv {α:Type} (p:α→Bool):∀ l:List α,l.dropWhile p=[]↔∀ x∈l,p x=true
 | []=>by simp
 | a :: l=>by
  by_cases h:p a=true
  ·rw [List.dropWhile_cons_of_pos h,Tv p l]
   simp [h]
  ·rw [List.dropWhile_cons_of_neg h]
   simp [h]
theorem Ze {α:Type} (p:α→Bool):∀ (l:List α) (x:α),x∈l.takeWhile p→p x=true
 | [],x,h=>by simp at h
 | a :: l,x,h=>by
  by_cases ha:p a=true
  ·rw [List.takeWhile_cons_of_pos ha] at h
   rcases List.mem_cons.1 h with rfl|h
   ·exact ha
   ·exact Ze p l x h
  ·rw [List.takeWhile_cons_of_neg ha] at h
   cases h
theorem A42 (s:List UInt8):Kb 0 (Gv 0 s)=[]↔∀ b∈s,b=0:=by
 constructor
 ·intro h b hb
  have h1:∀ x∈Gv 0 s,x=0:=by
   intro x hx
   have:=(Tv _ _).1 h x hx
   simpa using this
  by_cases hz:b=0
  ·exact hz
  ·have:b∈Gv 0 s:=by
    simp only [Gv,List.mem_reverse]
    have hbr:b∈s.reverse:=by simpa using hb
    rw [←List.takeWhile_append_dropWhile (p:=fun x=>x == (0:UInt8)) (l:=s.reverse)] at hbr
    rcases List.mem_append.1 hbr with h2|h2
    ·have:=Ze _ _ _ h2
     exact (hz (by simpa using this)).elim
    ·exact h2
   exact h1 b this
 ·intro h
  have:Gv 0 s=[]:=by
   simp only [Gv,List.reverse_eq_nil_iff]
   exact (Tv _ _).2 (fun x hx=>by simpa using h x (by simpa using hx))
  rw [this];rfl
def SzP (sh:Int) (l:Tab) (have_:List Bool):Prop:= ∀ p∈l.zip have_,p.2=true→(p.1.length:Int)=sh
instance (sh:Int) (l:Tab) (have_:List Bool):Decidable (SzP sh l have_):=by unfold SzP;exact inferInstance
def txtD (d:Tab):List UInt8×Int :=
 if ((cutR d.flatten 4).2.1.length:Int) < (cutR d.flatten 4).1 then ([],5)
 else if ∀ b∈(cutR d.flatten 4).2.1.drop (cutR d.flatten 4).1.toNat,b=0 then ((cutR d.flatten 4).2.1.take (cutR d.flatten 4).1.toNat,0) else ([],5)
def Je (c:Cfg) (l:Tab) (have_:List Bool):List UInt8×Int :=
 if ¬As c then ([],1) else if (l.length:Int)≠c.k+c.m then ([],1) else if decE c.k l have_=1 then ([],1) else if ¬SzP c.sh l have_ then ([],1)
 else if decE c.k l have_≠0 then ([],decE c.k l have_) else txtD (decD c.k l have_).1
def Nd (c:Cfg) (l:Tab) (have_:List Bool):AV:= .tup [S (Je c l have_).1,.int .i64 (Je c l have_).2]
theorem Sf (s:List UInt8) (n:Int):0≤(cutR s n).1∧(cutR s n).1 < 72057594037927936:=by
 unfold cutR
 split
 ·rename_i hP
  split
  ·exact ⟨by simp,by simp⟩
  ·have:unle (s.take n.toNat) < 72057594037927936:=R9 (by simp;have:=hP.2;omega)
   simp
   omega
 ·exact ⟨by simp,by simp⟩
theorem A20 {sh:Int} {l:Tab} {have_:List Bool} (hh:have_.length=l.length):SzP sh l have_↔∀ i (h:i < l.length),have_[i]? = some true→(l[i].length:Int)=sh:=by
 constructor
 ·intro h i hi hb
  refine h (l[i],true) ?_ rfl
  obtain ⟨hi2,hb2⟩:=List.getElem?_eq_some_iff.1 hb
  rw [List.mem_iff_getElem]
  exact ⟨i,by simp;omega,by simp [hb2]⟩
 ·intro h p hp hb
  obtain ⟨i,hi,rfl⟩:=List.mem_iff_getElem.1 hp
  simp at hi hb ⊢
  exact h i (by omega) (by rw [List.getElem?_eq_getElem (by omega),hb])
theorem A73 (c:Cfg) (l:Tab) (have_:List Bool) (h:Sm l) (hk:(Lit.int .i64 c.k).wf=true) (hh:have_.length < 2 ^ 48) (hfl:(decD c.k l have_).1.flatten.length < 2 ^ 46) :
  Aq Tryz.prog 111 [CfA c,SL l,OL have_] (Nd c l have_):=by
 refine Aq.Az (k:=2) ?_
 refine CSem.body hm Tryz.func111 rfl (by kernel_rfl) (by kernel_rfl) (by simp [Tryz.ntmps111]) ?_
 simp [Tryz.f111,CfA,AV.cells,Ab,takeN,Heap.Aa]
 refine (D4 c _).use ?_
 by_cases hC:As c
 rotate_left
 ·simp [hC,Nd,Je]
 simp [hC,CfA,AV.cells,Ab,takeN,Heap.Aa]
 refine (K8 c _).use ?_
 have hdk:C3 c=c.k+c.m:=by simp [C3,hC]
 rw [hdk]
 by_cases h1:(l.length:Int)=c.k+c.m
 rotate_left
 ·simp [h1,hC,Nd,Je]
 simp [h1,A8,Heap.Aa]
 refine (A1s c.k l have_ h hk hh (by simp) (by simp)).use ?_
 have he:=(Aea (k:=c.k) (l:=l) (have_:=have_)).1
 simp [rL,he]
 by_cases h2:decE c.k l have_=1
 ·simp [h1,h2,hC,Nd,Je]
 have hD:DkP c.k l have_:=by
  by_cases hD:DkP c.k l have_
  ·exact hD
  ·exact (h2 (by rw [decE,if_pos hD])).elim
 have hhl:=hD.1
 have hl40:=h.1
 simp [h2]
 refine Am (fun (i:Nat) r hp=>i≤l.length∧rg r 2=OL have_∧rg r 3 = .ptr 0 0∧rg r 9=SL (decD c.k l have_).1∧rg r 10 = .int .i64 (decE c.k l have_)∧rg r 37=SL l∧rg r 38 = .int .i64 (l.length:Int)∧rg r 39 = .int .i64 (i:Int) ∧
  hp.get 0=some [.int .i64 c.k,.int .i64 c.m,.int .i64 c.sh,.int .i64 c.st,.int .i64 c.sl]∧∀ j (hj:j < l.length),j < i→have_[j]? = some true→(l[j].length:Int)=c.sh) (l.length - ·) ?_ 0 ?_
 ·rintro i r hp ⟨hi,g2,g3,g9,g10,g37,g38,g39,k0,hok⟩
  rcases Nat.lt_or_eq_of_le hi with hlt|heq
  ·have hb:have_[i]? = some have_[i]:=List.getElem?_eq_getElem (by omega)
   have hih:i < have_.length:=by omega
   have hnext:IntKind.i64.wrap ((i:Int)+1)=(i:Int)+1:=wrap64 (by omega) (by omega)
   by_cases hbi:have_[i]=true
   ·by_cases hsz:(l[i].length:Int)=c.sh
    ·simp [g2,g3,g37,g38,g39,hlt,hih,hbi,hsz,A8,k0,hnext]
     refine ⟨i+1,by omega,by omega,g9,g10,by push_cast;rfl,fun j hj hji hbj=> ?_⟩
     rcases Nat.lt_or_eq_of_le (Nat.lt_succ_iff.1 hji) with h5|h5
     ·exact hok j hj h5 hbj
     ·subst h5;exact hsz
    ·have hnz:¬SzP c.sh l have_:=fun hz=>hsz ((A20 hhl).1 hz i hlt (by rw [hb,hbi]))
     have hres:Nd c l have_ = .tup [S [],.int .i64 1]:=by simp [Nd,Je,hC,h1,h2,hnz]
     simp [g2,g3,g37,g38,g39,hlt,hih,hbi,hsz,A8,k0,hres]
   ·have hbf:have_[i]=false:=by simpa using hbi
    simp [g2,g3,g37,g38,g39,hlt,hih,hbf,hnext]
    refine ⟨i+1,by omega,by omega,g9,g10,by push_cast;rfl,k0,fun j hj hji hbj=> ?_⟩
    rcases Nat.lt_or_eq_of_le (Nat.lt_succ_iff.1 hji) with h5|h5
    ·exact hok j hj h5 hbj
    ·subst h5;rw [hb,hbf] at hbj;cases hbj
  ·subst heq
   have hz:SzP c.sh l have_:=(A20 hhl).2 (fun j hj hbj=>hok j hj hj hbj)
   by_cases h3:decE c.k l have_=0
   rotate_left
   ·have hres:Nd c l have_ = .tup [S [],.int .i64 (decE c.k l have_)]:=by simp [Nd,Je,hC,h1,h2,hz,h3]
    simp [g2,g3,g9,g10,g37,g38,g39,h3,hres]
   simp [g2,g3,g9,g10,g37,g38,g39,h3]
   have hjl:(Lib.join (decD c.k l have_).1 []).length≤140737488355328:=by rw [My];omega
   have hdm:(decD c.k l have_).1.length < 2 ^ 40:=(Aj9 h).1
   refine (Wj (decD c.k l have_).1 [] hdm hjl (by simp)).use ?_
   rw [My]
   simp
   refine (Ka _ _ (by omega) _).use ?_
   have hcn:=Sf (decD c.k l have_).1.flatten 4
   have hres:Je c l have_=txtD (decD c.k l have_).1:=by simp [Je,hC,h1,h2,hz,h3]
   have hrl:(cutR (decD c.k l have_).1.flatten 4).2.1.length < 2 ^ 46:=by
    unfold cutR
    split
    ·split
     ·simp
     ·show ((decD c.k l have_).1.flatten.drop _).length < _
      rw [List.length_drop];omega
    ·simp
   rw [Nd,hres,txtD]
   simp only [cutA]
   generalize (cutR (decD c.k l have_).1.flatten 4).1=n at hcn
   generalize (cutR (decD c.k l have_).1.flatten 4).2.1=rest at hrl
   generalize (cutR (decD c.k l have_).1.flatten 4).2.2=ee
   obtain ⟨N,rfl⟩:=Int.eq_ofNat_of_zero_le hcn.1
   by_cases h5:rest.length < N
   ·simp [g2,g3,g9,g10,h5]
   simp [g2,g3,g9,g10,h5,Ct,show N≤rest.length by omega]
   refine (Abg (rest.drop N) (by simp;omega) _).use ?_
   by_cases h6:∀ b∈rest.drop N,b=0
   ·have h7:=(A42 (rest.drop N)).2 h6
    simp [g2,g3,g9,g10,h5,Ct,show N≤rest.length by omega,h7]
    rw [if_pos h6]
    simp
   ·have h7:¬Kb 0 (Gv 0 (rest.drop N))=[]:=fun e=>h6 ((A42 _).1 e)
    simp [g2,g3,g9,g10,h5,Ct,show N≤rest.length by omega,h7]
    rw [if_neg h6]
    simp
 ·exact ⟨by omega,by simp,by simp,by simp,by simp,by simp,by simp,by simp,by simp [Heap.Aa],fun j _ h=>by omega⟩
end Go.Proofs.YtpabfpccpbakfaaGreatDoor.X
