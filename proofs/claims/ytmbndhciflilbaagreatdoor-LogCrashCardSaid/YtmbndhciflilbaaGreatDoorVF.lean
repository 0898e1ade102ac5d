/-
  Texts of a proof, as one: V59, V60, V61, V62.
-/
import Derived.Test.YtmbndhciflilbaaGreatDoorVE
namespace Go.Proofs.YtmbndhciflilbaaGreatDoor.X
open Go.RowKit F
set_option maxRecDepth 100000
set_option linter.unusedSimpArgs false
set_option linter.unusedVariables false
theorem A3u (c:Cfg):As Tryz.prog 28 [CfA c] (.int .i64 (C7 c)):=by
 refine As.Ba (k:=1) ?_
 refine CSem.body hm Tryz.func28 rfl κ κ (by simp [Tryz.ntmps28]) ?_
 simp [Tryz.f28,CfA,AV.cells,A8,Ac,takeN,Heap.Aa]
 refine (J9 c _ _).use ?_
 simp [Adg]
theorem Yd {c:Cfg} (hc:Ax c):As Tryz.prog 29 [CfA c] (.int .i64 (1+c.sl+c.st)):=by
 refine As.Ba (k:=1) ?_
 refine CSem.body hm Tryz.func29 rfl κ κ (by simp [Tryz.ntmps29]) ?_
 simp [Tryz.f29,CfA,AV.cells,A8,Ac,takeN,Heap.Aa]
 refine (J9 c _ _).use ?_
 have h1:=hc.2.2.2.2.1
 have h2:=hc.2.2.2.1
 have w1:IntKind.i64.wrap (1+c.sl)=1+c.sl:=wrap64 ω ω
 have w2:IntKind.i64.wrap (1+c.sl+c.st)=1+c.sl+c.st:=wrap64 ω ω
 simp [hc,w1,w2]
theorem A6q {c:Cfg} (hc:Ax c):As Tryz.prog 30 [CfA c] (.int .i64 (c.k * c.sh+42)):=by
 refine As.Ba (k:=1) ?_
 refine CSem.body hm Tryz.func30 rfl κ κ (by simp [Tryz.ntmps30]) ?_
 simp [Tryz.f30,CfA,AV.cells,A8,Ac,takeN,Heap.Aa]
 refine (J9 c _ _).use ?_
 have h1:=hc.1.1
 have h2:=hc.2.2.1
 have h3:=hc.2.2.2.2.2
 have h0:0≤c.k * c.sh:=Int.mul_nonneg ω ω
 have w0:IntKind.i64.wrap (c.k * c.sh)=c.k * c.sh:=wrap64 ω ω
 have w1:IntKind.i64.wrap (c.k * c.sh+16)=c.k * c.sh+16:=wrap64 ω ω
 have w2:IntKind.i64.wrap (c.k * c.sh+16+26)=c.k * c.sh+42:=by rw [wrap64 ω ω];omega
 simp [hc,w0,w1,w2]
def FrH (A:Arr) (h0 H:Heap) (b6 b7 b8 b10:Bool) (v12 v5 v13 v3:AV) (h:Heap):Prop :=
 (b6=false→h=H)∧(b6=true→∃ p,v12 = .tup [.ptr p 0,.int .i64 0]∧(b7=true→v5 = .tup [.ptr p 0,.int .i64 0])∧(b8=true→v13 = .ptr p 0)∧(b10=true→v3 = .ptr p 0)∧At (ArrA p A) (fun b=>b < h0.next) h∧Ext h0 h)
def FrV (c:Cfg):Nat→AV→Prop
 | 0,v=>v=CfA c
 | 1,v=>v = .int .i64 (C7 c)
 | 2,v=>v=CfA c
 | 3,v=>v = .int .i64 (1+c.sl+c.st)
 | 4,v=>v=CfA c
 | 5,v=>v = .int .i64 (c.k * c.sh+42)
 | _,v=>True
def A6p (c:Cfg):Arr:=Ck (c.k+c.m) (1+c.sl+c.st) (c.k * c.sh+42)
def cv:Cfg:=⟨2,1,8,2,1⟩
end Go.Proofs.YtmbndhciflilbaaGreatDoor.X
