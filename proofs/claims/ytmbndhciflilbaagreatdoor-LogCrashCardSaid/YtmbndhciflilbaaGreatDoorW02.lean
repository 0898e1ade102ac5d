/-
  ref22: its model.
-/
import Derived.Test.YtmbndhciflilbaaGreatDoorW01
namespace Go.Proofs.YtmbndhciflilbaaGreatDoor.X
open Go.RowKit F
set_option maxRecDepth 100000
set_option linter.unusedSimpArgs false
set_option linter.unusedVariables false
theorem Abz {c:Cfg} {count:Int} (h0:0≤count) (h1:count≤1000) (hb:0≤Aw c∧Aw c≤4000) (h:Heap) :
  CSem Tryz.prog 13 [CfA c,.int .i64 count] h fun x h'=>Ext h h'∧∃ mb,x = .ptr mb 0∧h.next≤mb∧h'.get mb=some [S [],.int .i64 (count * Aw c)]:=by
 refine CSem.body hm Tryz.func13 rfl κ κ (by simp [Tryz.ntmps13]) ?_
 have haggC:aggT Tryz.prog 23=some true:=by kernel_rfl
 have hzC:szT Tryz.prog 23=some 5:=by kernel_rfl
 have hbd:∀ w:Int,Ct Tryz.prog 45 [(1,.int .i64 w)]=some (.agg [S [],.int .i64 w]):=fun w=>by kernel_rfl
 have hmul:0≤count * Aw c∧count * Aw c≤1000 * 4000:=⟨Int.mul_nonneg h0 hb.1,Int.mul_le_mul h1 hb.2 hb.1 ω⟩
 have hw:IntKind.i64.wrap (count * Aw c)=count * Aw c:=wrap64 ω ω
 have e0:(h.alloc [.int .i64 c.k,.int .i64 c.m,.int .i64 c.sh,.int .i64 c.st,.int .i64 c.sl]).get h.next=some [.int .i64 c.k,.int .i64 c.m,.int .i64 c.sh,.int .i64 c.st,.int .i64 c.sl]:=Heap.A9 _ _
 have E0:Ext h (h.alloc [.int .i64 c.k,.int .i64 c.m,.int .i64 c.sh,.int .i64 c.st,.int .i64 c.sl]):=(Ext.refl h).alloc _
 have hcC:(CfA c).cells=[.int .i64 c.k,.int .i64 c.m,.int .i64 c.sh,.int .i64 c.st,.int .i64 c.sl]:=rfl
 refine Nd (fun r h'=>rg r 1 = .int .i64 count∧rg r 2 = .ptr h.next 0∧h'=h.alloc [.int .i64 c.k,.int .i64 c.m,.int .i64 c.sh,.int .i64 c.st,.int .i64 c.sl]) ?_ (by simp [hcC])
 rintro r _ ⟨r1,r2,rfl⟩
 generalize h.alloc [.int .i64 c.k,.int .i64 c.m,.int .i64 c.sh,.int .i64 c.st,.int .i64 c.sl]=H1 at e0 E0 ⊢
 simp [r1,r2,e0,Ac haggC,hzC,takeN]
 refine (Yb c _).use ?_
 simp [hw,hbd,AV.cells]
 exact ⟨E0.alloc _,E0.next,Heap.A9 _ _⟩
theorem A52 {mb:Nat} {T:Txt} {w:AV} {h:Heap} (g:h.get mb=some [S T,w]) (n:Int) :
  CSem Tryz.prog 17 [.ptr mb 0,.int .i64 n] h fun x h'=>((n < 0∨(T.length:Int) < n)→x = .int .i64 1∧h'=h)∧(¬(n < 0∨(T.length:Int) < n)→x = .int .i64 0∧h'=h.put mb [S (T.take n.toNat),w]):=by
 refine CSem.body hm Tryz.func17 rfl κ κ (by simp [Tryz.ntmps17]) ?_
 have hbl:=Heap.Ah g
 by_cases n0:n < 0
 ·simp [Tryz.f17,n0]
 by_cases n1:(T.length:Int) < n
 ·simp [Tryz.f17,n0,n1,A8,g]
 obtain ⟨m,rfl⟩:=Int.eq_ofNat_of_zero_le (show 0≤n by omega)
 have hm':m≤T.length:=by omega
 simp [Tryz.f17,n0,n1,A8,g,hm',hbl]
theorem Ym (s t:Txt):As Tryz.prog 25 [S s,S t] (.bool (decide (t.length≤s.length∧s.take t.length=t))):=by
 refine As.Ba (k:=1) ?_
 refine CSem.body hm Tryz.func25 rfl κ κ (by simp [Tryz.ntmps25]) ?_
 by_cases h:t.length≤s.length
 ·have h':(t.length:Int)≤s.length:=by omega
  simp [Tryz.f25,h,h']
 ·have h':¬(t.length:Int)≤s.length:=by omega
  simp [Tryz.f25,h,h']
end Go.Proofs.YtmbndhciflilbaaGreatDoor.X
