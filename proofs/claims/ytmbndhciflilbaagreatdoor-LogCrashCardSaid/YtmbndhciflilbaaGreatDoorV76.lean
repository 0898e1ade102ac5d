/-
  Contracts: scrub.
-/
import Derived.Test.YtmbndhciflilbaaGreatDoorPB
import Derived.Test.YtmbndhciflilbaaGreatDoorVG
namespace Go.Proofs.YtmbndhciflilbaaGreatDoor.X
open Go.RowKit F
set_option maxRecDepth 100000
set_option linter.unusedSimpArgs false
set_option linter.unusedVariables false
def repC (r:RepD):List AV:=[.int .i64 r.nx,.int .i64 r.me,.int .i64 r.lo,.bool r.dn]
theorem At.kept {A:Asn} (L:Loc A) {R:Nat→Prop} {h h':Heap} {b:Nat} (a:At A R h) (K:Keep (fun x=>x≠b) h h') (hb:R b):At A R h':=by
 obtain ⟨F,f1,f2⟩:=a
 have hn:=K.next
 refine ⟨F,L.keep h h' F f1 fun x hx=>K.get x fun e=> ?_,fun x hx=>⟨(f2 x hx).1,by have:=(f2 x hx).2;omega⟩⟩
 subst e
 exact (f2 x hb).1 hx
@[simp] theorem vmend_len (a:Arr) (id:Int) (c:Cfg) (n:Int):(Bj a id c n).1.disks.length=a.disks.length:=by
 unfold Bj
 dsimp only
 split
 ·rfl
 split
 ·rfl
 ·have:(tryR (vshR a id c n (Cx a id c n).ep (M8 c (Cx a id c n).sh (Cx a id c n).hv).1 (Gt a (Cx a id c n).hv)) Bv).1.disks.length=a.disks.length:=(Rp fun b=>Qe b).trans μ
  split<;>exact this
@[simp] theorem vheads_len (a:Arr) (id:Int) (c:Cfg):(B9 a id c).1.disks.length=a.disks.length:=by
 unfold B9
 split
 ·rfl
 ·dsimp only
  split
  ·split<;>simp
  ·simp
section
variable {pa q n:Nat} {cells:List AV} {ps:List Nat} {a:Arr} {R:Nat→Prop} {h:Heap} {pv:Nat} {c:Cfg} {id sq:Int} {k:Nat}
structure StpI (pa q n:Nat) (cells:List AV) (ps:List Nat) (R:Nat→Prop) (h0:Heap) (pv b6 b9:Nat) (c:Cfg) (id:Int) (k D:Nat) (fr:Int) (N:Nat) (F:ScD) (i:Nat) (r:Regs) (hp:Heap):Prop where
 le:i≤N
 r0:rg r 0 = .ptr pv 0
 r6:rg r 6 = .ptr b6 0
 r8:rg r 8 = .int .i64 c.st
 r9:rg r 9 = .ptr b9 0
 r48:rg r 48 = .int .i64 N
 r49:rg r 49 = .int .i64 i
 g6:hp.get b6=some (repC rep0)
 K:Keep R h0 hp
 ex:∃ a1 r1,D8 id c (N - i) a1 r1=F∧r1.nx=fr+i∧0≤r1.me∧r1.me≤D * (i+1)∧0≤r1.lo∧r1.lo≤i+1∧r1.dn=false∧hp.get b9=some (repC r1)∧At (ArrI pa q n cells ps a1) (fun b=>(R b∨b=b6)∨b=b9) hp∧ArrQ (k+D * (i+1)) a1∧a1.disks.length=D
set_option maxHeartbeats 1000000 in
structure LsI (pv:Nat) (a:Arr) (id:Int) (c:Cfg) (N:Nat) (H:Heap) (i:Nat) (r:Regs) (hp:Heap):Prop where
 le:i≤N
 r0:rg r 0 = .ptr pv 0
 r4:rg r 4 = .int .i64 (Fa a id c i 255).1
 r12:rg r 12 = .int .i64 c.st
 r13:rg r 13 = .int .i64 i
 ok:(Fa a id c i 255).2=0
 h:H=hp
end
end Go.Proofs.YtmbndhciflilbaaGreatDoor.X
