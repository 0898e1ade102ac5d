/-
  Texts of a proof, as one: E01, E02, E03, E04, E05, E06, E07, E08, E09, E10.
-/
import Derived.Test.YtmbndhciflilbaaGreatDoorCA
import Derived.Test.YtmbndhciflilbaaGreatDoorXB
import Derived.Test.YtmbndhciflilbaaGreatDoorCB
import Derived.Shelf.Strings.OnBuilder
import Derived.Ground.NamesProg
import Derived.Test.YtmbndhciflilbaaGreatDoorProg
namespace Go.Proofs.YtmbndhciflilbaaGreatDoor.X
open Go.RowKit F
set_option maxRecDepth 100000
set_option linter.unusedSimpArgs false
set_option linter.unusedVariables false
structure Cfg where
 k:Int
 m:Int
 sh:Int
 st:Int
 sl:Int
def CfA (c:Cfg):AV:= .agg [.int .i64 c.k,.int .i64 c.m,.int .i64 c.sh,.int .i64 c.st,.int .i64 c.sl]
def Ax (c:Cfg):Prop:=GMay c.k c.m∧c.m≠0∧(8≤c.sh∧c.sh≤1024)∧(1≤c.st∧c.st≤1000)∧(1≤c.sl∧c.sl≤16)∧c.k * c.sh≤4000
instance (c:Cfg):Decidable (Ax c):=by unfold Ax;exact inferInstance
theorem A30 (n a b:Int):As Tryz.prog 79 [.int .i64 n,.int .i64 a,.int .i64 b] (.bool (decide (a≤n∧n≤b))):=by
 refine As.Ba (k:=1) ?_
 refine CSem.body hm Tryz.func79 rfl κ κ (by simp [Tryz.ntmps79]) ?_
 by_cases h1:a≤n
 ·simp [Tryz.f79,h1]
 ·simp [Tryz.f79,h1]
theorem Kq (n a b:Int) (h:Heap):CSem Tryz.prog 79 [.int .i64 n,.int .i64 a,.int .i64 b] h fun x' h'=>x' = .bool (decide (a≤n∧n≤b))∧h'=h:=(A30 n a b).call (k:=1) μ
theorem T0 {a b:Int} (h1:1≤a) (h2:a≤255) (h3:8≤b) (h4:b≤1024):IntKind.i64.wrap (a * b)=a * b:=by
 have:a * b≤255 * 1024:=Int.mul_le_mul h2 h4 ω ω
 have:0≤a * b:=Int.mul_nonneg ω ω
 exact wrap64 ω ω
theorem Vs (c:Cfg):As Tryz.prog 54 [CfA c] (.int .i64 (if Ax c then 0 else 1)):=by
 refine As.Ba (k:=1) ?_
 refine CSem.body hm Tryz.func54 rfl κ κ (by simp [Tryz.ntmps54]) ?_
 simp [Tryz.f54,CfA,AV.cells,A8,Heap.Aa]
 refine (Sy _ _ _).use ?_
 by_cases h1:GMay c.k c.m
 rotate_left
 ·have:¬Ax c:=fun h=>h1 h.1
  simp [h1,this]
 by_cases h2:c.m=0
 ·have:¬Ax c:=fun h=>h.2.1 h2
  have h1':GMay c.k 0:=h2 ▸ h1
  simp [h1,h1',h2,this,A8,Heap.Aa]
 simp [h1,h2,A8,Heap.Aa]
 refine (Kq _ _ _ _).use ?_
 by_cases h3:8≤c.sh∧c.sh≤1024
 rotate_left
 ·have:¬Ax c:=fun h=>h3 h.2.2.1
  simp [h3,this,A8,Heap.Aa]
 simp [h3,A8,Heap.Aa]
 refine (Kq _ _ _ _).use ?_
 by_cases h4:1≤c.st∧c.st≤1000
 rotate_left
 ·have:¬Ax c:=fun h=>h4 h.2.2.2.1
  simp [h4,this,A8,Heap.Aa]
 simp [h4,A8,Heap.Aa]
 refine (Kq _ _ _ _).use ?_
 by_cases h5:1≤c.sl∧c.sl≤16
 rotate_left
 ·have:¬Ax c:=fun h=>h5 h.2.2.2.2.1
  simp [h5,this,A8,Heap.Aa]
 have hw:=T0 h1.1 h1.2.2.1 h3.1 h3.2
 by_cases h6:c.k * c.sh≤4000
 ·have:Ax c:=⟨h1,h2,h3,h4,h5,h6⟩
  have h7:¬ 4000 < c.k * c.sh:=by omega
  simp [h5,this,A8,Heap.Aa,hw,h7]
 ·have:¬Ax c:=fun h=>h6 h.2.2.2.2.2
  have h7:4000 < c.k * c.sh:=by omega
  simp [h5,this,A8,Heap.Aa,hw,h7]
theorem Cw (c:Cfg) (h:Heap):CSem Tryz.prog 54 [CfA c] h fun x' h'=>x' = .int .i64 (if Ax c then 0 else 1)∧h'=h:=(Vs c).call (k:=2) (by simp [CfA,snap,mapL])
theorem A31 (c:Cfg) (n:Int):As Tryz.prog 58 [CfA c,.int .i64 n] (.int .i64 (if Ax c then n else 0)):=by
 refine As.Ba (k:=1) ?_
 refine CSem.body hm Tryz.func58 rfl κ κ (by simp [Tryz.ntmps58]) ?_
 simp [Tryz.f58,CfA,AV.cells,Ac,takeN,Heap.Aa]
 refine (Cw c _).use ?_
 by_cases h1:Ax c<;>simp [h1]
theorem Hs (c:Cfg) (n:Int) (h:Heap):CSem Tryz.prog 58 [CfA c,.int .i64 n] h fun x' h'=>x' = .int .i64 (if Ax c then n else 0)∧h'=h:=(A31 c n).call (k:=2) (by simp [CfA,snap,mapL])
def Aw (c:Cfg):Int:=if Ax c then c.k * c.sh - 4 else 0
theorem capW (c:Cfg):(if Ax c then IntKind.i64.wrap (IntKind.i64.wrap (c.k * c.sh) - 4) else 0)=Aw c:=by
 unfold Aw
 by_cases h:Ax c
 ·rw [if_pos h,if_pos h,T0 h.1.1 h.1.2.2.1 h.2.2.1.1 h.2.2.1.2,wrap64]
  ·have:0≤c.k * c.sh:=Int.mul_nonneg (by have:=h.1.1;omega) (by have:=h.2.2.1.1;omega)
   omega
  ·have:=h.2.2.2.2.2;omega
 ·rw [if_neg h,if_neg h]
theorem A1a (c:Cfg):As Tryz.prog 33 [CfA c] (.int .i64 (Aw c)):=by
 refine As.Ba (k:=1) ?_
 refine CSem.body hm Tryz.func33 rfl κ κ (by simp [Tryz.ntmps33]) ?_
 simp [Tryz.f33,CfA,AV.cells,A8,Ac,takeN,Heap.Aa]
 refine (Hs c _ _).use ?_
 simp [capW]
theorem M5 (c:Cfg) (h:Heap):CSem Tryz.prog 33 [CfA c] h fun x' h'=>x' = .int .i64 (Aw c)∧h'=h:=(A1a c).call (k:=2) (by simp [CfA,snap,mapL])
def C7 (c:Cfg):Int:=if Ax c then c.k+c.m else 0
theorem Adg (c:Cfg):(if Ax c then IntKind.i64.wrap (c.k+c.m) else 0)=C7 c:=by
 unfold C7
 by_cases h:Ax c
 ·rw [if_pos h,if_pos h,wrap64]
  ·have:=h.1.1;have:=h.1.2.1;omega
  ·have:=h.1.2.2;omega
 ·rw [if_neg h,if_neg h]
theorem Vt (c:Cfg):As Tryz.prog 55 [CfA c] (.int .i64 (C7 c)):=by
 refine As.Ba (k:=1) ?_
 refine CSem.body hm Tryz.func55 rfl κ κ (by simp [Tryz.ntmps55]) ?_
 simp [Tryz.f55,CfA,AV.cells,A8,Ac,takeN,Heap.Aa]
 refine (Hs c _ _).use ?_
 simp [Adg]
theorem Jp (c:Cfg) (h:Heap):CSem Tryz.prog 55 [CfA c] h fun x' h'=>x' = .int .i64 (C7 c)∧h'=h:=(Vt c).call (k:=2) (by simp [CfA,snap,mapL])
theorem Ud (c:Cfg):As Tryz.prog 26 [CfA c] (.int .i64 (if Ax c then 0 else 1)):=by
 refine As.Ba (k:=1) ?_
 refine CSem.body hm Tryz.func26 rfl κ κ (by simp [Tryz.ntmps26]) ?_
 simp [Tryz.f26,CfA,AV.cells,A8,Heap.Aa]
 refine (A64 _ _ _).use ?_
 by_cases h1:GMay c.k c.m
 rotate_left
 ·have:¬Ax c:=fun h=>h1 h.1
  simp [h1,this]
 by_cases h2:c.m=0
 ·have:¬Ax c:=fun h=>h.2.1 h2
  have h1':GMay c.k 0:=h2 ▸ h1
  simp [h1,h1',h2,this,A8,Heap.Aa]
 by_cases h3:c.sh < 8
 ·have:¬Ax c:=fun h=>by have:=h.2.2.1.1;omega
  simp [h1,h2,h3,this,A8,Heap.Aa]
 by_cases h4:1024 < c.sh
 ·have:¬Ax c:=fun h=>by have:=h.2.2.1.2;omega
  simp [h1,h2,h3,h4,this,A8,Heap.Aa]
 by_cases h5:c.st < 1
 ·have:¬Ax c:=fun h=>by have:=h.2.2.2.1.1;omega
  simp [h1,h2,h3,h4,h5,this,A8,Heap.Aa]
 by_cases h6:1000 < c.st
 ·have:¬Ax c:=fun h=>by have:=h.2.2.2.1.2;omega
  simp [h1,h2,h3,h4,h5,h6,this,A8,Heap.Aa]
 by_cases h7:c.sl < 1
 ·have:¬Ax c:=fun h=>by have:=h.2.2.2.2.1.1;omega
  simp [h1,h2,h3,h4,h5,h6,h7,this,A8,Heap.Aa]
 by_cases h8:16 < c.sl
 ·have:¬Ax c:=fun h=>by have:=h.2.2.2.2.1.2;omega
  simp [h1,h2,h3,h4,h5,h6,h7,h8,this,A8,Heap.Aa]
 have hw:=T0 h1.1 h1.2.2.1 (show 8≤c.sh by omega) (show c.sh≤1024 by omega)
 by_cases h9:4000 < c.k * c.sh
 ·have:¬Ax c:=fun h=>by have:=h.2.2.2.2.2;omega
  simp [h1,h2,h3,h4,h5,h6,h7,h8,hw,h9,this,A8,Heap.Aa]
 ·have:Ax c:=⟨h1,h2,⟨ω,ω⟩,⟨ω,ω⟩,⟨ω,ω⟩,ω⟩
  simp [h1,h2,h3,h4,h5,h6,h7,h8,hw,h9,this,A8,Heap.Aa]
theorem Mp (c:Cfg) (h:Heap):CSem Tryz.prog 26 [CfA c] h fun x' h'=>x' = .int .i64 (if Ax c then 0 else 1)∧h'=h:=(Ud c).call (k:=2) (by simp [CfA,snap,mapL])
theorem A1b (c:Cfg) (n:Int):As Tryz.prog 53 [CfA c,.int .i64 n] (.int .i64 (if Ax c then n else 0)):=by
 refine As.Ba (k:=1) ?_
 refine CSem.body hm Tryz.func53 rfl κ κ (by simp [Tryz.ntmps53]) ?_
 simp [Tryz.f53,CfA,AV.cells,Ac,takeN,Heap.Aa]
 refine (Mp c _).use ?_
 by_cases h1:Ax c<;>simp [h1]
theorem J9 (c:Cfg) (n:Int) (h:Heap):CSem Tryz.prog 53 [CfA c,.int .i64 n] h fun x' h'=>x' = .int .i64 (if Ax c then n else 0)∧h'=h:=(A1b c n).call (k:=2) (by simp [CfA,snap,mapL])
theorem Ya (c:Cfg):As Tryz.prog 34 [CfA c] (.int .i64 (Aw c)):=by
 refine As.Ba (k:=1) ?_
 refine CSem.body hm Tryz.func34 rfl κ κ (by simp [Tryz.ntmps34]) ?_
 simp [Tryz.f34,CfA,AV.cells,A8,Ac,takeN,Heap.Aa]
 refine (J9 c _ _).use ?_
 simp [capW]
theorem Yb (c:Cfg) (h:Heap):CSem Tryz.prog 34 [CfA c] h fun x' h'=>x' = .int .i64 (Aw c)∧h'=h:=(Ya c).call (k:=2) (by simp [CfA,snap,mapL])
def PutP (n sz:Int):Prop:=1≤sz∧sz≤7∧0≤n
instance (n sz:Int):Decidable (PutP n sz):=by unfold PutP;exact inferInstance
def putR (n sz:Int):List UInt8×Int:=if PutP n sz then (if 0 < dv n.toNat sz.toNat then ([],12) else (le n.toNat sz.toNat,0)) else ([],1)
def putA (n sz:Int):AV:= .tup [S (putR n sz).1,.int .i64 (putR n sz).2]
theorem Ah2 {sz:Nat} (h:sz≤7):256 ^ sz≤256 ^ 7:=Nat.pow_le_pow_right ω h
structure PutInv (n sz:Nat) (i:Nat) (r:Regs) (h:Heap):Prop where
 hi:i≤sz
 g0:rg r 0 = .int .i64 ((dv n i:Nat):Int)
 g1:rg r 1 = .int .i64 (sz:Int)
 g6:rg r 6 = .sl 0 0 sz sz 1
 g21:rg r 21 = .int .i64 (sz:Int)
 g22:rg r 22 = .int .i64 (i:Int)
 hg:h.get 0=some ((mid (le n sz) (List.replicate sz 0) i).map B8)
theorem Adh (n sz:Int) (hn:n < 9223372036854775808):As Tryz.prog 102 [.int .i64 n,.int .i64 sz] (putA n sz):=by
 refine As.Ba (k:=2) ?_
 refine CSem.body hm Tryz.func102 rfl κ κ (by simp [Tryz.ntmps102]) ?_
 by_cases h1:sz < 1
 ·have:¬PutP n sz:=fun h=>by have:=h.1;omega
  simp [Tryz.f102,h1,putA,putR,this]
 by_cases h2:7 < sz
 ·have:¬PutP n sz:=fun h=>by have:=h.2.1;omega
  simp [Tryz.f102,h1,h2,putA,putR,this]
 by_cases h3:n < 0
 ·have:¬PutP n sz:=fun h=>by have:=h.2.2;omega
  simp [Tryz.f102,h1,h2,h3,putA,putR,this]
 have hP:PutP n sz:=⟨ω,ω,ω⟩
 obtain ⟨N,rfl⟩:=Int.eq_ofNat_of_zero_le (show 0≤n by omega)
 obtain ⟨Z,rfl⟩:=Int.eq_ofNat_of_zero_le (show 0≤sz by omega)
 have hl:(le N Z).length=(List.replicate Z (0:UInt8)).length:=by simp
 have hz0:(0:Int)≤Z:=by omega
 have hz1:(Z:Int)≤140737488355328:=by omega
 simp [Tryz.f102,h1,h2,h3,hz0,hz1]
 refine Ar (PutInv N Z) (Z - ·) ?_ 0 ?_
 ·rintro i r h ⟨hi,g0,g1,g6,g21,g22,hg⟩
  rcases Nat.lt_or_eq_of_le hi with hlt|heq
  ·have hrem:intX .rem .i64 ((dv N i:Nat):Int) 256=some (.int .i64 ((dv N i:Int) % 256)):=by
    rw [Adj ν,Int.tmod_eq_emod_of_nonneg ω]
   have hdl:=dv_le N (i+1)
   have hquo:intX .quo .i64 ((dv N i:Nat):Int) 256=some (.int .i64 ((dv N (i+1):Nat):Int)):=by
    rw [A32 ν]
    have e:((dv N i:Nat):Int).tdiv 256=((dv N i / 256:Nat):Int):=rfl
    rw [e,Ah1,wrap64 ω ω]
   have hb8:AV.int .u8 (IntKind.u8.wrap ((dv N i:Int) % 256))=B8 (UInt8.ofNat (N / 256 ^ i % 256)):=by
    rw [Yu ω ω]
    simp only [B8,UInt8.toNat_ofNat']
    congr 1
    rw [show N / 256 ^ i=dv N i from rfl,Nat.mod_eq_of_lt (by omega:dv N i % 256 < 2 ^ 8)]
    omega
   have hget:=le_get Z N i hlt
   have hlen:i < (mid (le N Z) (List.replicate Z 0) i).length:=by rw [H8 hl (by simpa using hi)];simpa using hlt
   simp [g0,g1,g6,g21,g22,hlt,hrem,hquo,hb8,hg,hlen,wrap64 (n:=(i:Int)+1) ω ω]
   refine ⟨i+1,ω,ω,μ,by simp [g1],by simp [g6],by simp [g21],μ,?_⟩
   rw [Heap.Ak hg,←List.map_set,Gm hl (by simpa using hlt) hget]
  ·subst heq
   have hfull:=F7 hl
   simp only [List.length_replicate] at hfull
   rw [hfull] at hg
   by_cases h4:0 < dv N i
   ·simp [g0,g1,g6,g21,g22,h4,putA,putR,hP]
   ·simp [g0,g1,g6,g21,g22,h4,putA,putR,hP,hg]
 ·exact ⟨ω,by simp [Ah0],μ,μ,μ,μ,by simp [Heap.Aa,J8]⟩
theorem Jq (n sz:Int) (hn:n < 9223372036854775808) (h:Heap):CSem Tryz.prog 102 [.int .i64 n,.int .i64 sz] h fun x' h'=>x'=putA n sz∧h'=h:=(Adh n sz hn).call (k:=1) μ
theorem M6 {P:Program} (F:Regs→Heap→Prop) {g:Operand} {ps:Array Tmp} {a1 bd:Code} {Q:Out→Regs→Heap→Prop} {r:Regs} {h:Heap} {gf:FuncId} {a b:List AV} (hl:h.lp=none) (he:Ae r g=some (.fn gf a b)) (hF:F r h)
  (hc:∀ id r h,h.lp=none→F r h→CSem P gf (a ++ [.yld id] ++ b) (h.Bp (some ⟨id,.ready,r,ps,a1,bd⟩)) (Vu Q r)):wpc P (.rangeFunc g ps a1 bd) Q r h:=Aa5 hl he (fun id=>hc id r h hl hF)
theorem Aa6 (x:AV) (hx:x.atom=true) (h:Heap):CSem Tryz.prog 118 [x] h fun x' h'=>x' = .fn 148 [] [.ptr h.next 0]∧h'=h.alloc [x]:=by
 refine CSem.body hm Tryz.func118 rfl κ κ (by simp [Tryz.ntmps118]) ?_
 simp [Tryz.f118,G9 hx,hx]
theorem A67 {id:Nat} {b sb:Nat} {l:List UInt8} (hn:l.length < 2 ^ 40) (J:Nat→Heap→Prop) (D:Heap→Prop)
  (hJ:∀ i h,J i h→h.get b=some [.sl sb 0 l.length l.length 1]∧h.get sb=some (l.map B8))
  (hstep:∀ i h (hi:i < l.length),J (i+1) h→YSem Tryz.prog id [.int .i64 (i:Int),B8 l[i]] h fun v h'=>(v = .bool true∧J i h')∨(v = .bool false∧D h')) {h:Heap} (h0:J l.length h) :
  CSem Tryz.prog 148 [.yld id,.ptr b 0] h fun _ h'=>J 0 h'∨D h':=by
 refine CSem.body hm Tryz.func148 rfl κ κ (by simp [Tryz.ntmps148]) ?_
 obtain ⟨k1,k2⟩:=hJ _ _ h0
 simp [Tryz.f148,k1,k2,wrap64 (n:=(l.length:Int) - 1) ω ω]
 refine Ar (fun (i:Nat) r h=>i≤l.length∧rg r 0 = .yld id∧rg r 1 = .ptr b 0∧rg r 3 = .int .i64 ((i:Int) - 1)∧J i h) (fun i=>i) ?_ l.length ?_
 ·rintro i r h ⟨hi,g0,g1,g3,hj⟩
  obtain ⟨k1,k2⟩:=hJ _ _ hj
  cases i with
  | zero=>simp [g0,g1,g3,hj]
  | succ i =>
   have e:((i+1:Nat):Int) - 1=(i:Int):=by omega
   rw [e] at g3
   have hil:i < l.length:=by omega
   simp [g0,g1,g3,k1,k2,hil]
   refine YSem.mono (hstep i h hil hj) ?_
   rintro v h' (⟨rfl,hj'⟩|⟨rfl,hd⟩)
   ·simp [g0,g1,g3,wrap64 (n:=(i:Int) - 1) ω ω]
    exact ⟨i,ω,ω,rfl,hj'⟩
   ·simp [g0,g1,g3,hd]
 ·exact ⟨Nat.le_refl _,μ,μ,μ,h0⟩
def CutP (s:List UInt8) (sz:Int):Prop:=1≤sz∧sz≤7
instance (s:List UInt8) (sz:Int):Decidable (CutP s sz):=by unfold CutP;exact inferInstance
def cutR (s:List UInt8) (sz:Int):Int×List UInt8×Int:=if CutP s sz then (if s.length < sz.toNat then (0,[],4) else (((unle (s.take sz.toNat):Nat):Int),s.drop sz.toNat,0)) else (0,[],1)
def cutA (s:List UInt8) (sz:Int):AV:= .tup [.int .i64 (cutR s sz).1,S (cutR s sz).2.1,.int .i64 (cutR s sz).2.2]
theorem Aa7 {l:List UInt8} {i:Nat} (hi:i < l.length):unle (l.drop i)=l[i].toNat+256 * unle (l.drop (i+1)):=by
 rw [List.drop_eq_getElem_cons hi];rfl
theorem Vv {l:List UInt8} (h:l.length≤7):unle l < 72057594037927936:=by
 have h1:=A8b l
 have h2:256 ^ l.length≤256 ^ 7:=Ah2 h
 omega
theorem Adk (s:List UInt8) (sz:Int) (hs:s.length < 2 ^ 47):As Tryz.prog 89 [S s,.int .i64 sz] (cutA s sz):=by
 refine As.Ba (k:=2) ?_
 refine CSem.body hm Tryz.func89 rfl κ κ (by simp [Tryz.ntmps89]) ?_
 by_cases h1:sz < 1
 ·have:¬CutP s sz:=fun h=>by have:=h.1;omega
  simp [Tryz.f89,h1,cutA,cutR,this]
 by_cases h2:7 < sz
 ·have:¬CutP s sz:=fun h=>by have:=h.2;omega
  simp [Tryz.f89,h1,h2,cutA,cutR,this]
 have hP:CutP s sz:=⟨ω,ω⟩
 obtain ⟨Z,rfl⟩:=Int.eq_ofNat_of_zero_le (show 0≤sz by omega)
 by_cases h3:s.length < Z
 ·simp [Tryz.f89,h1,h2,h3,cutA,cutR,hP]
 have hz:(Z:Int)≤s.length:=by omega
 have hmin:min Z s.length=Z:=by omega
 have hll:(s.take Z).length=Z:=by simp;omega
 have hZ7:Z≤7:=by omega
 simp [Tryz.f89,h1,h2,h3,Ej,hz,Heap.Aa]
 refine (Aa6 _ rfl _).then ?_
 rintro _ _ ⟨rfl,rfl⟩
 simp [hmin]
 refine M6 (gf:=148) (a:=[]) (b:=[.ptr 2 0]) (fun r h=>rg r 0=S s∧rg r 1 = .int .i64 (Z:Int)∧rg r 7 = .ptr 0 0∧h.get 0=some [.int .i64 0]∧h.get 1=some ((s.take Z).map B8)∧h.get 2=some [.sl 1 0 Z Z 1]) μ μ (by simp [Heap.Aa,Heap.Ad]) ?_
 rintro id r h hlp ⟨g0,g1,g7,k0,k1,k2⟩
 generalize hH:h.Bp _=H0
 have e0:H0.get 0=some [.int .i64 0]:=by rw [←hH];exact k0
 have e1:H0.get 1=some ((s.take Z).map B8):=by rw [←hH];exact k1
 have e2:H0.get 2=some [.sl 1 0 Z Z 1]:=by rw [←hH];exact k2
 refine (A67 (id:=id) (l:=s.take Z) (sb:=1) (b:=2) ω (fun i h'=>h'.lp=H0.lp∧h'.get 0=some [.int .i64 ((unle ((s.take Z).drop i):Nat):Int)]∧h'.get 1=some ((s.take Z).map B8)∧h'.get 2=some [.sl 1 0 Z Z 1]) (fun _=>False) ?_ ?_ ⟨rfl,by rw [List.drop_length];exact e0,e1,e2⟩).mono ?_
 ·rintro i h' ⟨_,_,f1,f2⟩
  rw [hll]
  exact ⟨f2,f1⟩
 ·rintro i h' hi ⟨fl,f0,f1,f2⟩
  rw [←hH] at fl
  have hsm:unle ((s.take Z).drop i) < 72057594037927936:=Vv (by simp;omega)
  have hu:=Aa7 hi
  rw [hu] at hsm
  have hb:=lt8 (s.take Z)[i]
  generalize hq:unle ((s.take Z).drop (i+1))=q at hsm f0 hu
  generalize hc:(s.take Z)[i]=c at hsm hb hu
  refine YSem.of hm fl rfl ?_
  have hlt:=Heap.Ah f0
  simp [g7,f0,fl,wrap64 (n:=(q:Int) * 256) ω ω,wrap64 (n:=(c.toNat:Int)) ω ω,wrap64 (n:=(q:Int) * 256+(c.toNat:Int)) ω ω,Heap.Ad,hlt,B8]
  exact ⟨by rw [←hH];rfl,by rw [hu];push_cast;omega,by simpa using f1,f2⟩
 ·rintro x h' (⟨fl,f0,f1,f2⟩|hf)
  rotate_left
  ·exact hf.elim
  refine ⟨_,fl.trans (by rw [←hH];rfl),?_⟩
  have hu0:unle ((s.take Z).drop 0)=unle (s.take Z):=rfl
  rw [hu0] at f0
  simp [g0,g1,g7,f0,Ej,hz]
  change wpc _ _ _ _ (h'.Bp none)
  refine Br 7 κ ?_
  have hzn:Z≤s.length:=by omega
  simp [g0,g1,g7,f0,Ej,hz,cutA,cutR,hP,h3,hzn]
theorem Jr (s:List UInt8) (sz:Int) (hs:s.length < 2 ^ 47) (h:Heap):CSem Tryz.prog 89 [S s,.int .i64 sz] h fun x' h'=>x'=cutA s sz∧h'=h:=(Adk s sz hs).call (k:=1) μ
theorem Vw {P:Program} {h h':Heap} {t xt:TypeId} {s x y:AV} (hx:Bm P h t xt s x=some (y,h')):h'.lp=h.lp:=by
 have apz:∀ {e xt:TypeId} {z b:Nat} {s x y:AV} {h':Heap},Ja P h e xt z b s x=some (y,h')→h'.lp=h.lp:=by
  intro e xt z b s x y h' hx
  unfold Ja Qa at hx
  repeat' split at hx
  all_goals first|(cases hx;done)|(cases hx;rfl)|skip
  all_goals
   simp only [Option.map_eq_some_iff] at hx
   obtain ⟨cs',_,e⟩:=hx
   cases e
   rfl
 unfold Bm at hx
 repeat' split at hx
 all_goals first|(cases hx;done)|(cases hx;rfl)|exact apz hx|skip
 all_goals
  simp only [Option.map_eq_some_iff] at hx
  obtain ⟨cs',_,e⟩:=hx
  cases e
  rfl
def apZ (P:Program) (t xt:TypeId):Bool:=match elT P t with
 | some e=>(match szT P e with|some z=>z == 1|none=>false) && (intT P xt).isSome && (match byT P e with|some b=>decide (b≤64)|none=>false) && (match B7 P e with|some (.int .u8 n)=>n == 0|_=>false)
 | none=>false
theorem A1c {P:Program} {t xt:TypeId} (ha:apZ P t xt=true) {h:Heap} {b:Nat} {l:List UInt8} (hb:h.get b=some (l.map B8)) (z:Nat) (hz:z < 2 ^ 36) (hl:l.length < 2 ^ 36) :
  ∃ b' h',Bm P h t xt (.sl b 0 l.length l.length 1) (.int .i64 (z:Int))=some (.sl b' 0 (l.length+z) (l.length+z) 1,h')∧h'.get b'=some ((l ++ List.replicate z 0).map B8)∧h.next≤h'.next∧(b'=b∨b'=h.next) ∧
   ∀ k zs,h.get k=some zs→k≠b→h'.get k=some zs:=by
 unfold apZ at ha
 split at ha
 ·rename_i e he
  simp only [Bool.and_eq_true] at ha
  obtain ⟨⟨⟨h1,h2⟩,h3⟩,h4⟩:=ha
  split at h1
  ·rename_i z1 hz1
   have hz1':z1=1:=by simpa using h1
   subst hz1'
   split at h3
   ·rename_i by1 hby
    have hby64:by1≤64:=by simpa using h3
    split at h4
    ·rename_i n hza
     have hn:n=0:=by simpa using h4
     subst hn
     obtain ⟨k,hk⟩:=Option.isSome_iff_exists.1 h2
     have hzs:∀ n,Fu P e n=some (List.replicate n (B8 0)):=by
      intro n
      simp only [Fu,hza,AV.cells,B8]
      rw [Vx]
      rfl
     have hmb:(z:Int) * (by1:Int)≤2 ^ 47:=by
      have:z * by1≤2 ^ 36 * 64:=Nat.mul_le_mul ω hby64
      have:((z * by1:Nat):Int)≤2 ^ 47:=by omega
      push_cast at this
      exact this
     have hz40:(z:Int)≤2 ^ 40:=by omega
     have hall:(List.replicate z (B8 0)).all AV.atom=true:=by simp
     have hun:(AV.int .i64 (z:Int)).len? = none:=rfl
     by_cases h0:z=0
     ·subst h0
      refine ⟨b,h.put b (l.map B8),?_,by simpa using Heap.Ak hb,Nat.le_refl _,.inl rfl,fun k zs hk hkb=>by rw [Heap.Aq hb hkb];exact hk⟩
      have hp:putN (l.map B8) l.length []=some (l.map B8):=by simp [putN,List.take_of_length_le]
      simp [Bm,Bu he,hz1,hby,show (AV.int .i64 0).len? = none from rfl,Ja,Mx hk,hzs,Qa,hb,hp]
     ·refine ⟨h.next,(h.kill b).alloc ((l ++ List.replicate z 0).map B8),?_,Heap.A9 (h.kill b) _,μ,.inr rfl,fun k zs hk hkb=> ?_⟩
      ·have hlb:(l.length+z) * by1≤2 ^ 47:=by
        have:(l.length+z) * by1≤2 ^ 37 * 64:=Nat.mul_le_mul ω hby64
        omega
       have hlz:l.length+z≤2 ^ 47:=by omega
       have hgt:¬(l.length+z≤l.length):=by omega
       have ht:takeN (l.map B8) 0 l.length=some (l.map B8):=Sw μ
       simp only [Bm,Bu he,hz1,hby,hun,Ja,Mx hk,hzs,Qa,hb]
       simp [h0,hlb,hlz,ht]
       refine ⟨⟨ω,ω⟩,ω⟩
      ·have:(h.kill b).get k=some zs:=by rw [Heap.Ek,if_neg hkb,hk]
       exact Heap.Ag this
    ·cases h4
   ·cases h3
  ·cases h1
 ·cases ha
@[simp] theorem wpI_min2 {P:Program} {x y:Operand} {ts:Array TypeId} {dst:Option Tmp} {K:Regs→Heap→Prop} {r:Regs} {h:Heap} : wpI P (.call ⟨.builtin .min, #[x,y],ts⟩) dst K r h=Has (Ae r x) fun x=>Has (Ae r y) fun y=>Has (My x y) fun v=>K (Av r dst v) h:=by
 simp only [wpI,Ay,opB,spO,ghO,or_false,By,Cs,Bb,Bg,Bh]
 cases Ae r x with
 | none=>simp
 | some x=>cases Ae r y with
  | none=>simp
  | some y=>simp [Bb]
@[simp] theorem min2X_int {k:IntKind} {a b:Int} : My (.int k a) (.int k b)=some (.int k (if b < a then b else a)):=by simp [My]
theorem A68 {P:Program} {t:TypeId} {b off n c z:Nat} {lo hi m:AV} (hz:(elT P t).bind (szT P)=some z) :
  F9 P t (.sl b off n c z) (some lo) (some hi) (some m)=(Bq c (some m) c).bind fun m=>(Bq m (some hi) n).bind fun h=>(Bq h (some lo) 0).map fun l=>if m=l then .emp else .sl b (off+l * z) (h - l) (m - l) z:=by
 obtain ⟨e,he,hz⟩:=Option.bind_eq_some_iff.1 hz
 simp only [F9,Bu he,hz]
 simp
 cases Bq c (some m) c with
 | none=>rfl
 | some m =>
  simp only [Option.bind_some]
  cases Bq m (some hi) n with
  | none=>rfl
  | some h =>
   simp only [Option.bind_some]
   cases Bq h (some lo) 0 with
   | none=>rfl
   | some l =>
    simp only [Option.map_some]
    split<;>rfl
theorem A69 (x:AV) (hx:x.atom=true) (n:Int) (hn:1≤n) (h:Heap):CSem Tryz.prog 103 [x,.int .i64 n] h fun x' h'=>x' = .fn 136 [] [.ptr h.next 0,.ptr (h.next+1) 0]∧h'=(h.alloc [x]).alloc [.int .i64 n]:=by
 refine CSem.body hm Tryz.func103 rfl κ κ (by simp [Tryz.ntmps103]) ?_
 simp [Tryz.f103,G9 hx,hx,Heap.Aa,show ¬n < 1 by omega]
theorem A33 {id:Nat} {p1 p2 sb K sh:Nat} (hsh:1≤sh) (hn:K * sh < 2 ^ 36) (J:Nat→Heap→Prop) (D:Heap→Prop)
  (hJ:∀ i h,J i h→h.get p1=some [.sl sb 0 (K * sh) (K * sh) 1]∧h.get p2=some [.int .i64 (sh:Int)])
  (hstep:∀ i h,i < K→J i h→YSem Tryz.prog id [.sl sb (i * sh) sh sh 1] h fun v h'=>(v = .bool true∧J (i+1) h')∨(v = .bool false∧D h')) {h:Heap} (h0:J 0 h) :
  CSem Tryz.prog 136 [.yld id,.ptr p1 0,.ptr p2 0] h fun _ h'=>J K h'∨D h':=by
 refine CSem.body hm Tryz.func136 rfl κ κ (by simp [Tryz.ntmps136]) ?_
 generalize hN:K * sh=N at hn hJ
 simp [Tryz.f136]
 refine Ar (fun (i:Nat) r h=>i≤K∧rg r 0 = .yld id∧rg r 1 = .ptr p1 0∧rg r 2 = .ptr p2 0∧(∃ p:Nat,p=i * sh∧rg r 4 = .int .i64 (p:Int))∧J i h) (K - ·) ?_ 0 ?_
 ·rintro i r h ⟨hi,g0,g1,g2,⟨p,hp,g4⟩,hj⟩
  obtain ⟨k1,k2⟩:=hJ _ _ hj
  rcases Nat.lt_or_eq_of_le hi with hlt|heq
  ·have hps:p+sh≤N:=by
    have:(i+1) * sh≤K * sh:=Nat.mul_le_mul_right _ hlt
    rw [Nat.add_mul,Nat.one_mul] at this
    omega
   have hpn:p < N:=by omega
   have hmn:¬((N:Int) - p < sh):=by omega
   have hst:=hstep i h hlt hj
   rw [←hp] at hst
   simp [g0,g1,g2,g4,k1,k2,hpn]
   refine Br 7 κ ?_
   simp [g0,g1,g2,g4,k1,k2,Sz,hpn,show p≤N by omega,show ((N - p:Nat):Int)=(N:Int) - p by omega,hmn]
   have hw:IntKind.i64.wrap ((p:Int)+sh)=((p+sh:Nat):Int):=by rw [wrap64 ω ω];omega
   have hs3:F9 Tryz.prog 53 (.sl sb 0 N N 1) (some (.int .i64 (p:Int))) (some (.int .i64 ((p+sh:Nat):Int))) (some (.int .i64 ((p+sh:Nat):Int)))=some (.sl sb p sh sh 1):=by
    rw [A68 (z:=1) μ]
    have e1:((p+sh:Nat):Int)≤(N:Int):=by omega
    have e2:(p:Int)≤((p+sh:Nat):Int):=by omega
    have e3:¬(p+sh=p):=by omega
    simp only [A34,Option.bind_some]
    rw [if_pos ⟨ω,e1⟩]
    simp only [Option.bind_some,Int.toNat_natCast]
    rw [if_pos ⟨ω,Int.le_refl _⟩]
    simp only [Option.bind_some,Int.toNat_natCast]
    rw [if_pos ⟨ω,e2⟩]
    simp only [Option.map_some,Int.toNat_natCast]
    rw [if_neg e3]
    congr 2<;>omega
   rw [hw,hs3]
   simp
   refine YSem.mono hst ?_
   rintro v h' (⟨rfl,hj'⟩|⟨rfl,hd⟩)
   ·obtain ⟨k1',k2'⟩:=hJ _ _ hj'
    simp [g0,g1,g2,g4,k1',k2',hw]
    refine ⟨i+1,ω,ω,?_,hj'⟩
    rw [hp];push_cast;rw [Int.add_mul,Int.one_mul]
   ·simp [g0,g1,g2,g4,hd]
  ·have hpn:p=N:=by rw [hp,heq,hN]
   subst heq
   simp [g0,g1,g2,g4,k1,k2,hpn,hj]
 ·exact ⟨ω,μ,μ,μ,⟨0,μ,μ⟩,h0⟩
def Db (n:Nat) (data:List UInt8):List UInt8:=le data.length 4 ++ data ++ List.replicate (n - 4 - data.length) 0
def chunk (sh:Nat) (t:List UInt8) (i:Nat):List UInt8:=(t.drop (i * sh)).take sh
def chunks (k sh:Nat) (t:List UInt8):Tab:=(List.range k).map (chunk sh t)
def splL (c:Cfg) (data:List UInt8):Tab:=chunks c.k.toNat c.sh.toNat (Db (c.k.toNat * c.sh.toNat) data)
def splR (c:Cfg) (data:List UInt8):Tab×Int:=if Ax c then (if Aw c < data.length then ([],12) else encR (splL c data) c.m) else ([],1)
theorem T1 {n:Nat} {data:List UInt8} (h:4+data.length≤n):(Db n data).length=n:=by simp [Db];omega
theorem Aa8 {k sh:Nat} {t:List UInt8} (ht:t.length=k * sh) {i:Nat} (hi:i < k):(chunk sh t i).length=sh:=by
 have:(i+1) * sh≤k * sh:=Nat.mul_le_mul_right _ hi
 rw [Nat.add_mul,Nat.one_mul] at this
 simp [chunk];omega
theorem A6a {k sh:Nat} {t:List UInt8} : (chunks k sh t).length=k:=by simp [chunks]
theorem Aa9 {k sh:Nat} {t:List UInt8} (hk:k < 2 ^ 40) (hs:sh < 2 ^ 40):Sm (chunks k sh t):=by
 refine ⟨by simpa [chunks] using hk,fun x hx=> ?_⟩
 obtain ⟨i,_,rfl⟩:=List.mem_map.1 hx
 simp [chunk];omega
def chT (sh:Nat) (t:List UInt8) (i:Nat):List AV:=((List.range i).map (chunk sh t)).map S
theorem Ah3 {sh i:Nat} {t:List UInt8} : (chT sh t i).length=i:=by simp [chT]
theorem Adm {sh i:Nat} {t:List UInt8} : chT sh t i ++ [S (chunk sh t i)]=chT sh t (i+1):=by simp [chT,List.range_succ]
theorem put4 {n:Nat} (h:n < 2 ^ 32):putA n 4 = .tup [S (le n 4),.int .i64 0]:=by
 have hP:PutP n 4:=⟨ω,ω,ω⟩
 have hd:¬ 0 < dv n 4:=by rw [Adf];omega
 simp [putA,putR,hP,hd]
theorem A35 (c:Cfg) (data:List UInt8) (hd:data.length < 2 ^ 47):Jj Tryz.prog 75 [CfA c,S data] (splR c data).1 (splR c data).2:=by
 refine CSem.body hm Tryz.func75 rfl κ κ (by simp [Tryz.ntmps75]) ?_
 simp [Tryz.f75,CfA,AV.cells,Ac,takeN,Heap.Aa]
 refine (Cw c _).use ?_
 by_cases hC:Ax c
 rotate_left
 ·simp [hC,splR,FrQ.nil]
 simp [hC,CfA,AV.cells,Ac,takeN,Heap.Aa]
 refine (M5 c _).use ?_
 by_cases hcap:Aw c < data.length
 ·simp [hC,hcap,splR,FrQ.nil]
 have hcv:Aw c=c.k * c.sh - 4:=by simp [Aw,hC]
 have hC':=hC
 obtain ⟨ck,cm,csh,cst,csl⟩:=c
 obtain ⟨hG,hm0,⟨hs8,hs1024⟩,_,_,h4000⟩:=hC
 have hk1:=hG.1
 have hk255:=hG.2.2.1
 simp only at hG hm0 hs8 hs1024 h4000 hk1 hk255 hcv
 obtain ⟨K,rfl⟩:=Int.eq_ofNat_of_zero_le (show 0≤ck by omega)
 obtain ⟨Z,rfl⟩:=Int.eq_ofNat_of_zero_le (show 0≤csh by omega)
 obtain ⟨N,hN⟩:∃ N,N=K * Z:=⟨_,rfl⟩
 have hNi:(K:Int) * (Z:Int)=(N:Int):=by rw [hN];push_cast;rfl
 have hcap2:¬((N:Int) - 4 < data.length):=by rw [hcv,hNi] at hcap;exact hcap
 rw [hNi] at h4000
 have hspl:splR ⟨K,cm,Z,cst,csl⟩ data=encR (chunks K Z (Db N data)) cm:=by
  unfold splR
  rw [if_pos hC',if_neg hcap]
  show encR (splL _ data) cm=_
  unfold splL
  rw [hN]
  rfl
 rw [hspl]
 have hdl:data.length < 2 ^ 32:=by omega
 have hl0:(le data.length 4 ++ data).length=4+data.length:=by simp
 have ht:(Db N data).length=K * Z:=by rw [←hN];exact T1 ω
 have hbl:4+data.length≤140737488355328:=by omega
 simp [hcap]
 refine (Jq _ _ ω _).use ?_
 rw [put4 hdl]
 simp [hbl,A8,Heap.Aa]
 obtain ⟨z,hz⟩:∃ z,N=4+data.length+z:=⟨N - (4+data.length),ω⟩
 have hst:Db N data=(le data.length 4 ++ data) ++ List.replicate z 0:=by
  simp only [Db]
  rw [show N - 4 - data.length=z by omega]
 have hzw:IntKind.i64.wrap (IntKind.i64.wrap ((K:Int) * Z) - (4+(data.length:Int)))=(z:Int):=by
  rw [hNi,wrap64 (n:=(N:Int)) ω ω,wrap64 ω ω];omega
 rw [hzw]
 generalize hH1:Heap.alloc _ _=H1
 have e0:H1.get 0=some [.int .i64 (K:Int),.int .i64 cm,.int .i64 (Z:Int),.int .i64 cst,.int .i64 csl]:=by rw [←hH1];simp [Heap.Aa]
 have e1:H1.get 1=some ((le data.length 4 ++ data).map B8):=by rw [←hH1];simp [Heap.Aa]
 have el:H1.lp=none:=by rw [←hH1];rfl
 have en:H1.next=2:=by rw [←hH1];rfl
 obtain ⟨b',H2,e,hb',hnx,hbb,hold⟩:=A1c (P:=Tryz.prog) (t:=53) (xt:=3) κ e1 z ω (by simp;omega)
 rw [hl0] at e
 rw [←hst] at hb'
 have hN4:4+data.length+z=N:=hz.symm
 rw [hN4] at e
 have f0:=hold 0 _ e0 ω
 have hlp2:H2.lp=none:=by rw [Vw e,el]
 have hb2:b'≤2:=by omega
 have hb0:b'≠0:=by omega
 have hn2:2≤H2.next:=by omega
 have hbn:b' < H2.next:=Heap.Ah hb'
 simp [e,A8,Heap.Aa,f0,show (0:Nat)≠H2.next by omega]
 refine (A69 _ rfl _ ω _).then ?_
 rintro _ _ ⟨rfl,rfl⟩
 simp
 obtain ⟨q,hq⟩:∃ q,q=H2.next:=⟨_,rfl⟩
 have hbq:b' < q:=by omega
 have hq2:2≤q:=by omega
 refine M6 (gf:=136) (a:=[]) (b:=[.ptr (q+1) 0,.ptr (q+2) 0]) (fun r h=>rg r 2 = .ptr 0 0∧rg r 10 = .ptr q 0∧h.get 0=some [.int .i64 (K:Int),.int .i64 cm,.int .i64 (Z:Int),.int .i64 cst,.int .i64 csl] ∧
  h.get b'=some ((Db N data).map B8)∧h.get q=some [.nilSl]∧h.get (q+1)=some [.sl b' 0 N N 1]∧h.get (q+2)=some [.int .i64 (Z:Int)]∧h.next=q+3) (by simp [hlp2]) (by simp [hq]) ?_ ?_
 ·simp only [hq] at hbq ⊢
  simp [Heap.Aa,f0,hb',show b'≠H2.next by omega,show b'≠H2.next+1 by omega,show b'≠H2.next+2 by omega,show (0:Nat)≠H2.next by omega]
  omega
 rintro id r h hlp ⟨g2,g10,k0,kb,kq,k1,k2,kn⟩
 generalize hH:h.Bp _=H0
 have z0:H0.get 0=some [.int .i64 (K:Int),.int .i64 cm,.int .i64 (Z:Int),.int .i64 cst,.int .i64 csl]:=by rw [←hH];exact k0
 have zb:H0.get b'=some ((Db N data).map B8):=by rw [←hH];exact kb
 have zq:H0.get q=some [.nilSl]:=by rw [←hH];exact kq
 have z1:H0.get (q+1)=some [.sl b' 0 N N 1]:=by rw [←hH];exact k1
 have z2:H0.get (q+2)=some [.int .i64 (Z:Int)]:=by rw [←hH];exact k2
 have zn:H0.next=q+3:=by rw [←hH];exact kn
 refine (A33 (id:=id) (p1:=q+1) (p2:=q+2) (sb:=b') (K:=K) (sh:=Z) ω ω (fun i h'=>h'.lp=H0.lp∧h'.get 0=some [.int .i64 (K:Int),.int .i64 cm,.int .i64 (Z:Int),.int .i64 cst,.int .i64 csl] ∧
  h'.get b'=some ((Db N data).map B8)∧h'.get (q+1)=some [.sl b' 0 N N 1]∧h'.get (q+2)=some [.int .i64 (Z:Int)]∧q+3≤h'.next ∧
  ∃ x,h'.get q=some [x]∧Own h' x (chT Z (Db N data) i)∧∀ b off n c z,x = .sl b off n c z→q+3≤b) (fun _=>False) ?_ ?_
  ⟨rfl,z0,zb,z1,z2,ω,.nilSl,zq,.inl ⟨rfl,rfl⟩,fun _ _ _ _ _ e=>by cases e⟩).mono ?_
 ·rintro i h' ⟨_,_,_,f1,f2,_⟩
  rw [←hN]
  exact ⟨f1,f2⟩
 ·rintro i h' hi ⟨fl,f0,fb,f1,f2,fn,x,fx,ho,hxb⟩
  rw [←hH] at fl
  refine YSem.of hm fl rfl ?_
  have hps:i * Z+Z≤N:=by
   have:(i+1) * Z≤K * Z:=Nat.mul_le_mul_right _ hi
   rw [Nat.add_mul,Nat.one_mul] at this
   omega
  have htl:(Db N data).length=N:=by rw [ht,hN]
  have htk:takeN ((Db N data).map B8) (i * Z) Z=some ((chunk Z (Db N data) i).map B8):=by
   simp only [takeN,List.length_map]
   rw [if_pos ω,chunk,List.map_take,List.map_drop]
  simp [g2,g10,fx,fl,fb,htk]
  generalize hL:(some _:Option Lp)=L
  have hio:(chT Z (Db N data) i).length < 2 ^ 40:=by rw [Ah3];omega
  obtain ⟨x',H3,e,ho',hnx,⟨hat,hxq⟩,hk3⟩:=H7 (P:=Tryz.prog) (t:=51) (xt:=51) (h:=h'.Bp L) κ (x:=x) (xs:=chT Z (Db N data) i) ho hio (Jk (chunk Z (Db N data) i))
  have hl3:=Vw e
  simp only [A1d,A36,Ha,Jf] at e hnx hxq hk3 hl3
  simp [g2,g10,fx,fl,fb,htk,Bt (P:=Tryz.prog) (t:=51) (xt:=51) κ,e]
  have ne:∀ k,k < q+3→∀ off n c z,x≠.sl k off n c z:=fun k hk off n c z e=>by have:=hxb _ _ _ _ _ e;omega
  have q0:=hk3 _ _ f0 (ne _ ω)
  have qb:=hk3 _ _ fb (ne _ ω)
  have q1:=hk3 _ _ f1 (ne _ ω)
  have q2:=hk3 _ _ f2 (ne _ ω)
  have qq:=hk3 _ _ fx (ne _ ω)
  simp [qq,hat]
  refine ⟨by rw [hl3,←hL],by rw [←hH];rfl,by rw [Heap.Aq qq ω];exact q0,by rw [Heap.Aq qq ω];exact qb,by rw [Heap.Aq qq ω];exact q1,
   by rw [Heap.Aq qq ω];exact q2,ω,x',Heap.Ak qq,?_,fun b off n c z e=>by have:=hxq _ _ _ _ _ e;omega⟩
  rw [Adm] at ho'
  rcases ho' with ⟨rfl,h0⟩|⟨b,rfl,hg⟩
  ·exact .inl ⟨rfl,h0⟩
  ·have:=hxq _ _ _ _ _ rfl
   exact .inr ⟨b,rfl,by show (H3.put q _).get b=_;rw [Heap.Aq qq ω];exact hg⟩
 ·rintro x' h' (⟨fl,f0,fb,f1,f2,fn,x,fx,ho,hxb⟩|hf)
  rotate_left
  ·exact hf.elim
  refine ⟨_,fl.trans (by rw [←hH];rfl),?_⟩
  change Blk _ _ _ _ (h'.Bp none)
  simp [g2,g10,f0,fx,A8]
  have hsn:X.snap (h'.Bp none) true 2 x=some (SL (chunks K Z (Db N data))):=Own.snap (h:=h'.Bp none) (f:=S) (l:=chunks K Z (Db N data)) ho (fun _=>rfl)
  refine ((Aa2 (chunks K Z (Db N data)) cm (Aa9 ω ω)).call (k:=2) (by simp [hsn])).then ?_
  rintro _ _ ⟨rfl,rfl⟩
  obtain ⟨y,ey,_,_,_,hfr⟩:=Ad0 (h'.Bp none) (encR (chunks K Z (Db N data)) cm).1 (encR (chunks K Z (Db N data)) cm).2
  simp [ey,hfr]
theorem Ty (c:Cfg) (data:List UInt8) (hd:data.length < 2 ^ 47) (h:Heap):CSem Tryz.prog 75 [CfA c,S data] h fun x' h'=>x'=rL (splR c data).1 (splR c data).2∧h'=h :=
 (A35 c data hd).pure.call (k:=2) (by simp [CfA])
end Go.Proofs.YtmbndhciflilbaaGreatDoor.X
namespace Go.Proofs
open Go.Shelf
set_option maxRecDepth 100000
def Tryz.Tz:Go.Shelf.Ren:=⟨fun|156=>90|165=>119|166=>106|169=>107|240=>139|241=>149|276=>164|277=>174|n=>n,fun|31=>51|9=>9|3=>3|4=>4|0=>0|20=>20|72=>160|76=>163|70=>158|37=>53|75=>162|127=>205|164=>234|5=>5|80=>43|n=>n,fun|n=>n⟩
theorem Tryz.Uj:Go.Proofs.Lays.n156 Tryz.prog Tryz.Tz:= {
 mixed:=by kernel_rfl
 f156:=Tryz.func90.trans (congrArg some (by kernel_rfl))
 f165:=Tryz.func119.trans (congrArg some (by kernel_rfl))
 f166:=Tryz.func106.trans (congrArg some (by kernel_rfl))
 f169:=Tryz.func107.trans (congrArg some (by kernel_rfl))
 f240:=Tryz.func139.trans (congrArg some (by kernel_rfl))
 f241:=Tryz.func149.trans (congrArg some (by kernel_rfl))
 f276:=Tryz.func164.trans (congrArg some (by kernel_rfl))
 f277:=Tryz.func174.trans (congrArg some (by kernel_rfl))
 t0:=Tryz.underlying0
 a0:=Tryz.isAgg0
 z0:=Tryz.sizeOf0
 v0:=Tryz.zeroValue0
 t3:=Tryz.underlying3
 a3:=Tryz.isAgg3
 z3:=Tryz.sizeOf3
 v3:=Tryz.zeroValue3
 t4:=Tryz.underlying4
 a4:=Tryz.isAgg4
 z4:=Tryz.sizeOf4
 v4:=Tryz.zeroValue4
 t9:=Tryz.underlying9
 a9:=Tryz.isAgg9
 z9:=Tryz.sizeOf9
 v9:=Tryz.zeroValue9
 t20:=Tryz.underlying20
 a20:=Tryz.isAgg20
 z20:=Tryz.sizeOf20
 v20:=Tryz.zeroValue20
 t31:=Tryz.underlying51
 a31:=Tryz.isAgg51
 z31:=Tryz.sizeOf51
 v31:=Tryz.zeroValue51
 t37:=Tryz.underlying53
 a37:=Tryz.isAgg53
 z37:=Tryz.sizeOf53
 v37:=Tryz.zeroValue53
 t70:=Tryz.underlying158
 a70:=Tryz.isAgg158
 z70:=Tryz.sizeOf158
 v70:=Tryz.zeroValue158
 t72:=Tryz.underlying160
 a72:=Tryz.isAgg160
 z72:=Tryz.sizeOf160
 v72:=Tryz.zeroValue160
 t75:=Tryz.underlying162
 a75:=Tryz.isAgg162
 z75:=Tryz.sizeOf162
 v75:=Tryz.zeroValue162
 t76:=Tryz.underlying163
 a76:=Tryz.isAgg163
 z76:=Tryz.sizeOf163
 v76:=Tryz.zeroValue163
 t127:=Tryz.underlying205
 a127:=Tryz.isAgg205
 z127:=Tryz.sizeOf205
 v127:=Tryz.zeroValue205
 t164:=Tryz.underlying234
 a164:=Tryz.isAgg234
 z164:=Tryz.sizeOf234
 v164:=Tryz.zeroValue234 }
theorem Tryz.Ey:Builder.Extra Tryz.prog Tryz.Tz:= {
 sizeBuilder:=by kernel_rfl
 liesBuilder:=by kernel_rfl
 t5:=Tryz.underlying5
 a5:=Tryz.isAgg5
 z5:=Tryz.sizeOf5
 v5:=Tryz.zeroValue5
 infoByte:=by kernel_rfl
 cellsByte:=by kernel_rfl
 sizeByte:=by kernel_rfl
 neB5:=by decide }
open Go.RowKit in
theorem Tryz.strings_Join_none (a:Option Addr) (c:Nat) (sep:ByteArray) (w:World) :
  Calls Tryz.prog 90 #[.slice a 0 c,.string sep] w fun e w'=>e = .returned (.string ⟨#[]⟩)∧w'=w:=Any.strings_Join_none Tryz.Uj Tryz.Ey a c sep w
open Go.RowKit in
theorem Tryz.strings_Join (bk o c:Nat) (xs:List ByteArray) (sep:ByteArray) (w:World) (hcells:∀ (j:Nat) x,xs[j]? = some x→w.cell? ⟨bk,o+j,none⟩=some (.string x)) (hbk:bk < w.heap.size) (hN:xs.length≤140737488355328) (hcap:xs.length≤c) (hlen:(Lib.join (xs.map (·.data.toList)) sep.data.toList).length≤140737488355328) :
  Calls Tryz.prog 90 #[.slice (some ⟨bk,o,none⟩) xs.length c,.string sep] w fun e w'=>e = .returned (.string ⟨(Lib.join (xs.map (·.data.toList)) sep.data.toList).toArray⟩)∧Below w.heap.size w w':=Any.strings_Join Tryz.Uj Tryz.Ey bk o c xs sep w hcells hbk hN hcap hlen
end Go.Proofs
namespace Go.Proofs.YtmbndhciflilbaaGreatDoor.X
open Go.RowKit F
set_option maxRecDepth 100000
set_option linter.unusedSimpArgs false
set_option linter.unusedVariables false
theorem Aaa (l:Tab) (sep:List UInt8) (hl:l.length < 2 ^ 40) (hj:(Lib.join l sep).length≤140737488355328):As Tryz.prog 90 [SL l,S sep] (S (Lib.join l sep)):=by
 refine ⟨κ,fun I w cargs hI hc=> ?_⟩
 match cargs,hc.len,hc with
 | [v,u],_,hc =>
  have hv:=hc.ok 0 _ _ rfl rfl
  have hu:=hc.ok 1 _ _ rfl rfl
  have hu':u = .string ⟨sep.toArray⟩:=by cases hu;rfl
  subst hu'
  have none_case:∀ (a:Option Addr) (c:Nat),l=[]→Calls Tryz.prog 90 #[.slice a 0 c,.string ⟨sep.toArray⟩] w fun e w'=> ∃ v,e = .returned v∧Below w.heap.size w w'∧VR w' (fun B=>w.heap.size≤B∧B < w'.heap.size) Gn (S (Lib.join l sep)) v:=by
   intro a c h0
   refine (Tryz.strings_Join_none a c ⟨sep.toArray⟩ w).mono ?_
   rintro e w' ⟨rfl,rfl⟩
   refine ⟨_,rfl,Below.refl _ _,?_⟩
   rw [h0]
   exact .str _
  generalize hx:SL l=x at hv
  cases hv with
  | vec0 a cap =>
   exact none_case (some a) cap (by simp [TL] at hx;exact hx)
  | vecN=>exact none_case none 0 (by simp [TL] at hx;exact hx)
  | vec len xs B o cap cs e fz vs hIB hg hlc hcs hvs =>
   simp only [TL,AV.vec.injEq] at hx
   obtain ⟨rfl,rfl⟩:=hx
   have hB:B < w.heap.size:=hI B hIB
   have e1:(l.map fun x=>ByteArray.mk x.toArray).map (·.data.toList)=l:=by simp [Function.comp_def]
   have:=Tryz.strings_Join B o cap (l.map fun x=>ByteArray.mk x.toArray) ⟨sep.toArray⟩ w ?_ hB (by simp;omega) (by simpa using hlc) (by rw [e1];exact hj)
   ·simp only [List.length_map,e1] at this
    refine this.mono ?_
    rintro e' w' ⟨rfl,hb⟩
    exact ⟨_,rfl,hb,.str _⟩
   ·intro j y hy
    simp only [List.getElem?_map,Option.map_eq_some_iff] at hy
    obtain ⟨z,hz,rfl⟩:=hy
    have hj':=(List.getElem?_eq_some_iff.1 hz).1
    have h1:=hcs j (by simpa using hj')
    have h2:=hvs j (by simpa using hj')
    have h3:vs j = .string ⟨z.toArray⟩:=by
     have:(l.map S)[j]'(by simpa using hj')=S z:=by
      rw [List.getElem_map,(List.getElem?_eq_some_iff.1 hz).2]
     rw [this] at h2
     generalize vs j=v0 at h2
     cases h2;rfl
    rw [h3] at h1
    unfold World.cell?
    simp [hg,h1]
  | _=>simp [SL,TL] at hx
theorem Vy (l:Tab) (sep:List UInt8) (hl:l.length < 2 ^ 40) (hj:(Lib.join l sep).length≤140737488355328) {h:Heap} {x:AV} (hx:snap h true 2 x=some (SL l)):CSem Tryz.prog 90 [x,S sep] h fun x' h'=>x'=S (Lib.join l sep)∧h'=h :=
 (Aaa l sep hl hj).call (k:=2) (by simp [hx])
theorem M7 (l:Tab):Lib.join l []=l.flatten:=by
 cases l with
 | nil=>rfl
 | cons x r=>rw [Lib.join_cons,Lib.joinTail];simp
theorem Pa {P:Program} {t:TypeId} (a b:UInt8):binX P .eql t (B8 a) (B8 b)=some (.bool (decide (a=b))):=by
 simp only [B8]
 rw [Vf (op:= .eql) ν ν,Adn]
 congr 2
 apply decide_eq_decide.2
 constructor
 ·intro h;exact UInt8.toNat_inj.1 ω
 ·intro h;rw [h]
def Js (c:UInt8) (s:List UInt8):List UInt8:=s.dropWhile (· == c)
def Gg (c:UInt8) (s:List UInt8):List UInt8:=(s.reverse.dropWhile (· == c)).reverse
theorem A6b (s:List UInt8) (c:UInt8) (hs:s.length < 2 ^ 62):As Tryz.prog 120 [S s,B8 c] (S (Js c s)):=by
 refine As.Ba (k:=1) ?_
 refine CSem.body hm Tryz.func120 rfl κ κ (by simp [Tryz.ntmps120]) ?_
 simp [Tryz.f120]
 refine Ar (fun (t:List UInt8) r h=>t.length≤s.length∧Js c t=Js c s∧rg r 0=S t∧rg r 1=B8 c) (fun t=>t.length) ?_ s ?_
 ·rintro t r h ⟨ht,h1,g0,g1⟩
  cases t with
  | nil =>
   have h2:Js c s=[]:=by rw [←h1];rfl
   simp [g0,g1,h2]
  | cons b t =>
   by_cases hb:b=c
   ·subst hb
    have h2:Js b (b :: t)=Js b t:=by simp [Js]
    simp [g0,g1,Ej,Pa]
    simp at ht
    exact ⟨ω,t,ω,ω,by rw [←h2,h1],rfl⟩
   ·have h2:Js c (b :: t)=b :: t:=by simp [Js,hb]
    simp [g0,g1,hb,←h1,h2,Pa]
 ·exact ⟨Nat.le_refl _,rfl,μ,μ⟩
theorem A6c (s:List UInt8) (c:UInt8) (hs:s.length < 2 ^ 62):As Tryz.prog 121 [S s,B8 c] (S (Gg c s)):=by
 refine As.Ba (k:=1) ?_
 refine CSem.body hm Tryz.func121 rfl κ κ (by simp [Tryz.ntmps121]) ?_
 simp [Tryz.f121]
 refine Ar (fun (t:List UInt8) r h=>t.length≤s.length∧Gg c t.reverse=Gg c s∧rg r 0=S t.reverse∧rg r 1=B8 c) (fun t=>t.length) ?_ s.reverse ?_
 ·rintro t r h ⟨ht,h1,g0,g1⟩
  cases t with
  | nil =>
   have h2:Gg c s=[]:=by rw [←h1];rfl
   simp [g0,g1,h2]
  | cons b t =>
   have hlw:IntKind.i64.wrap (t.length:Int)=(t.length:Int):=wrap64 ω (by simp at ht;omega)
   by_cases hb:b=c
   ·subst hb
    simp [g0,g1,Ej,Pa,hlw,List.getElem?_append]
    simp at ht
    exact ⟨ω,t,ω,ω,by rw [←h1];simp [Gg],rfl⟩
   ·have h2:Gg c (b :: t).reverse=(b :: t).reverse:=by simp [Gg,hb]
    rw [h2] at h1
    simp at h1
    simp [g0,g1,hb,←h1,Pa,hlw,List.getElem?_append]
 ·exact ⟨μ,μ,μ,μ⟩
theorem Aab (s:List UInt8) (hs:s.length < 2 ^ 62):As Tryz.prog 91 [S s,S [0]] (S (Js 0 (Gg 0 s))):=by
 refine As.Ba (k:=1) ?_
 refine CSem.body hm Tryz.func91 rfl κ κ (by simp [Tryz.ntmps91]) ?_
 by_cases h0:s=[]
 ·subst h0
  simp [Tryz.f91,Js,Gg]
 have hlt:AV.int .u8 128=B8 128:=rfl
 have h8:B8 0 = .int .u8 0:=rfl
 simp [Tryz.f91,h0,h8]
 refine Br 8 κ ?_
 simp [h0]
 refine D7.use (x:=S (Gg 0 s)) ((A6c s 0 hs).quiet (k:=1) (fun _=>by simp)) ?_
 simp
 refine D7.use (x:=S (Js 0 (Gg 0 s))) ((A6b _ 0 (by simp [Gg];have:=(List.dropWhile_suffix (fun x=>x == (0:UInt8)) (l:=s.reverse)).length_le;simp at this;omega)).quiet (k:=1) (fun _=>by simp)) ?_
 simp
theorem Aac (s:List UInt8) (hs:s.length < 2 ^ 62) (h:Heap):CSem Tryz.prog 91 [S s,S [0]] h fun x' h'=>x'=S (Js 0 (Gg 0 s))∧h'=h:=(Aab s hs).call (k:=1) μ
theorem T3 {α:Type} (p:α→Bool):∀ l:List α,l.dropWhile p=[]↔∀ x∈l,p x=true
 | []=>by simp
 | a :: l=>by
  by_cases h:p a=true
  ·rw [List.dropWhile_cons_of_pos h,T3 p l]
   simp [h]
  ·rw [List.dropWhile_cons_of_neg h]
   simp [h]
theorem Z1 {α:Type} (p:α→Bool):∀ (l:List α) (x:α),x∈l.takeWhile p→p x=true
 | [],x,h=>by simp at h
 | a :: l,x,h=>by
  by_cases ha:p a=true
  ·rw [List.takeWhile_cons_of_pos ha] at h
   rcases List.mem_cons.1 h with rfl|h
   ·exact ha
   ·exact Z1 p l x h
  ·rw [List.takeWhile_cons_of_neg ha] at h
   cases h
theorem A37 (s:List UInt8):Js 0 (Gg 0 s)=[]↔∀ b∈s,b=0:=by
 constructor
 ·intro h b hb
  have h1:∀ x∈Gg 0 s,x=0:=by
   intro x hx
   have:=(T3 _ _).1 h x hx
   simpa using this
  by_cases hz:b=0
  ·exact hz
  ·have:b∈Gg 0 s:=by
    simp only [Gg,List.mem_reverse]
    have hbr:b∈s.reverse:=by simpa using hb
    rw [←List.takeWhile_append_dropWhile (p:=fun x=>x == (0:UInt8)) (l:=s.reverse)] at hbr
    rcases List.mem_append.1 hbr with h2|h2
    ·have:=Z1 _ _ _ h2
     exact (hz (by simpa using this)).elim
    ·exact h2
   exact h1 b this
 ·intro h
  have:Gg 0 s=[]:=by
   simp only [Gg,List.reverse_eq_nil_iff]
   exact (T3 _ _).2 (fun x hx=>by simpa using h x (by simpa using hx))
  rw [this];rfl
def SzP (sh:Int) (l:Tab) (have_:List Bool):Prop:= ∀ p∈l.zip have_,p.2=true→(p.1.length:Int)=sh
instance (sh:Int) (l:Tab) (have_:List Bool):Decidable (SzP sh l have_):=by unfold SzP;exact inferInstance
def txtD (d:Tab):List UInt8×Int :=
 if ((cutR d.flatten 4).2.1.length:Int) < (cutR d.flatten 4).1 then ([],5)
 else if ∀ b∈(cutR d.flatten 4).2.1.drop (cutR d.flatten 4).1.toNat,b=0 then ((cutR d.flatten 4).2.1.take (cutR d.flatten 4).1.toNat,0) else ([],5)
def Jt (c:Cfg) (l:Tab) (have_:List Bool):List UInt8×Int :=
 if ¬Ax c then ([],1) else if (l.length:Int)≠c.k+c.m then ([],1) else if decE c.k l have_=1 then ([],1) else if ¬SzP c.sh l have_ then ([],1)
 else if decE c.k l have_≠0 then ([],decE c.k l have_) else txtD (decD c.k l have_).1
def Mq (c:Cfg) (l:Tab) (have_:List Bool):AV:= .tup [S (Jt c l have_).1,.int .i64 (Jt c l have_).2]
theorem Rg (s:List UInt8) (n:Int):0≤(cutR s n).1∧(cutR s n).1 < 72057594037927936:=by
 unfold cutR
 split
 ·rename_i hP
  split
  ·exact ⟨μ,μ⟩
  ·have:unle (s.take n.toNat) < 72057594037927936:=Vv (by simp;have:=hP.2;omega)
   simp
   omega
 ·exact ⟨μ,μ⟩
theorem A1e {sh:Int} {l:Tab} {have_:List Bool} (hh:have_.length=l.length):SzP sh l have_↔∀ i (h:i < l.length),have_[i]? = some true→(l[i].length:Int)=sh:=by
 constructor
 ·intro h i hi hb
  refine h (l[i],true) ?_ rfl
  obtain ⟨hi2,hb2⟩:=List.getElem?_eq_some_iff.1 hb
  rw [List.mem_iff_getElem]
  exact ⟨i,by simp;omega,by simp [hb2]⟩
 ·intro h p hp hb
  obtain ⟨i,hi,rfl⟩:=List.mem_iff_getElem.1 hp
  simp at hi hb ⊢
  exact h i ω (by rw [List.getElem?_eq_getElem ω,hb])
theorem A6d (c:Cfg) (l:Tab) (have_:List Bool) (h:Sm l) (hk:(Lit.int .i64 c.k).wf=true) (hh:have_.length < 2 ^ 48) (hfl:(decD c.k l have_).1.flatten.length < 2 ^ 46) :
  As Tryz.prog 62 [CfA c,SL l,OL have_] (Mq c l have_):=by
 refine As.Ba (k:=2) ?_
 refine CSem.body hm Tryz.func62 rfl κ κ (by simp [Tryz.ntmps62]) ?_
 simp [Tryz.f62,CfA,AV.cells,Ac,takeN,Heap.Aa]
 refine (Cw c _).use ?_
 by_cases hC:Ax c
 rotate_left
 ·simp [hC,Mq,Jt]
 simp [hC,CfA,AV.cells,Ac,takeN,Heap.Aa]
 refine (Jp c _).use ?_
 have hdk:C7 c=c.k+c.m:=by simp [C7,hC]
 rw [hdk]
 by_cases h1:(l.length:Int)=c.k+c.m
 rotate_left
 ·simp [h1,hC,Mq,Jt]
 simp [h1,A8,Heap.Aa]
 refine (A16 c.k l have_ h hk hh μ μ).use ?_
 have he:=(Adc (k:=c.k) (l:=l) (have_:=have_)).1
 simp [rL,he]
 by_cases h2:decE c.k l have_=1
 ·simp [h1,h2,hC,Mq,Jt]
 have hD:DkP c.k l have_:=by
  by_cases hD:DkP c.k l have_
  ·exact hD
  ·exact (h2 (by rw [decE,if_pos hD])).elim
 have hhl:=hD.1
 have hl40:=h.1
 simp [h2]
 refine Ar (fun (i:Nat) r hp=>i≤l.length∧rg r 2=OL have_∧rg r 3 = .ptr 0 0∧rg r 9=SL (decD c.k l have_).1∧rg r 10 = .int .i64 (decE c.k l have_)∧rg r 37=SL l∧rg r 38 = .int .i64 (l.length:Int)∧rg r 39 = .int .i64 (i:Int) ∧
  hp.get 0=some [.int .i64 c.k,.int .i64 c.m,.int .i64 c.sh,.int .i64 c.st,.int .i64 c.sl]∧∀ j (hj:j < l.length),j < i→have_[j]? = some true→(l[j].length:Int)=c.sh) (l.length - ·) ?_ 0 ?_
 ·rintro i r hp ⟨hi,g2,g3,g9,g10,g37,g38,g39,k0,hok⟩
  rcases Nat.lt_or_eq_of_le hi with hlt|heq
  ·have hb:have_[i]? = some have_[i]:=List.getElem?_eq_getElem ω
   have hih:i < have_.length:=by omega
   have hnext:IntKind.i64.wrap ((i:Int)+1)=(i:Int)+1:=wrap64 ω ω
   by_cases hbi:have_[i]=true
   ·by_cases hsz:(l[i].length:Int)=c.sh
    ·simp [g2,g3,g37,g38,g39,hlt,hih,hbi,hsz,A8,k0,hnext]
     refine ⟨i+1,ω,ω,g9,g10,by push_cast;rfl,fun j hj hji hbj=> ?_⟩
     rcases Nat.lt_or_eq_of_le (Nat.lt_succ_iff.1 hji) with h5|h5
     ·exact hok j hj h5 hbj
     ·subst h5;exact hsz
    ·have hnz:¬SzP c.sh l have_:=fun hz=>hsz ((A1e hhl).1 hz i hlt (by rw [hb,hbi]))
     have hres:Mq c l have_ = .tup [S [],.int .i64 1]:=by simp [Mq,Jt,hC,h1,h2,hnz]
     simp [g2,g3,g37,g38,g39,hlt,hih,hbi,hsz,A8,k0,hres]
   ·have hbf:have_[i]=false:=by simpa using hbi
    simp [g2,g3,g37,g38,g39,hlt,hih,hbf,hnext]
    refine ⟨i+1,ω,ω,g9,g10,by push_cast;rfl,k0,fun j hj hji hbj=> ?_⟩
    rcases Nat.lt_or_eq_of_le (Nat.lt_succ_iff.1 hji) with h5|h5
    ·exact hok j hj h5 hbj
    ·subst h5;rw [hb,hbf] at hbj;cases hbj
  ·subst heq
   have hz:SzP c.sh l have_:=(A1e hhl).2 (fun j hj hbj=>hok j hj hj hbj)
   by_cases h3:decE c.k l have_=0
   rotate_left
   ·have hres:Mq c l have_ = .tup [S [],.int .i64 (decE c.k l have_)]:=by simp [Mq,Jt,hC,h1,h2,hz,h3]
    simp [g2,g3,g9,g10,g37,g38,g39,h3,hres]
   simp [g2,g3,g9,g10,g37,g38,g39,h3]
   have hjl:(Lib.join (decD c.k l have_).1 []).length≤140737488355328:=by rw [M7];omega
   have hdm:(decD c.k l have_).1.length < 2 ^ 40:=(Agy h).1
   refine (Vy (decD c.k l have_).1 [] hdm hjl μ).use ?_
   rw [M7]
   simp
   refine (Jr _ _ ω _).use ?_
   have hcn:=Rg (decD c.k l have_).1.flatten 4
   have hres:Jt c l have_=txtD (decD c.k l have_).1:=by simp [Jt,hC,h1,h2,hz,h3]
   have hrl:(cutR (decD c.k l have_).1.flatten 4).2.1.length < 2 ^ 46:=by
    unfold cutR
    split
    ·split
     ·simp
     ·show ((decD c.k l have_).1.flatten.drop _).length < _
      rw [List.length_drop];omega
    ·simp
   rw [Mq,hres,txtD]
   simp only [cutA]
   generalize (cutR (decD c.k l have_).1.flatten 4).1=n at hcn
   generalize (cutR (decD c.k l have_).1.flatten 4).2.1=rest at hrl
   generalize (cutR (decD c.k l have_).1.flatten 4).2.2=ee
   obtain ⟨N,rfl⟩:=Int.eq_ofNat_of_zero_le hcn.1
   by_cases h5:rest.length < N
   ·simp [g2,g3,g9,g10,h5]
   simp [g2,g3,g9,g10,h5,Ej,show N≤rest.length by omega]
   refine (Aac (rest.drop N) (by simp;omega) _).use ?_
   by_cases h6:∀ b∈rest.drop N,b=0
   ·have h7:=(A37 (rest.drop N)).2 h6
    simp [g2,g3,g9,g10,h5,Ej,show N≤rest.length by omega,h7]
    rw [if_pos h6]
    simp
   ·have h7:¬Js 0 (Gg 0 (rest.drop N))=[]:=fun e=>h6 ((A37 _).1 e)
    simp [g2,g3,g9,g10,h5,Ej,show N≤rest.length by omega,h7]
    rw [if_neg h6]
    simp
 ·exact ⟨ω,μ,μ,μ,μ,μ,μ,μ,by simp [Heap.Aa],fun j _ h=>by omega⟩
end Go.Proofs.YtmbndhciflilbaaGreatDoor.X
