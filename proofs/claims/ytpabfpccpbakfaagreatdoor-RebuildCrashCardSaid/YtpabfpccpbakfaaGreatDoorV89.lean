/-
  An array that crashes, beside a volume; it is opened again; ref17.Steps.
-/
import Derived.Test.YtpabfpccpbakfaaGreatDoorV84
import Derived.Test.YtpabfpccpbakfaaGreatDoorP26
import Derived.Test.YtpabfpccpbakfaaGreatDoorXRowY
namespace Go.Proofs.YtpabfpccpbakfaaGreatDoor.X
open Go.RowKit F
set_option maxRecDepth 100000
set_option linter.unusedSimpArgs false
set_option linter.unusedVariables false
section
variable {p q nb:Nat} {cells:List AV} {ps:List Nat} {pv:Nat} {c:Cfg} {k:Nat} {a:Arr} {sq sq':Int} {E:Nat→Prop} {hp:Heap} {L:List Txt}
theorem LawV.fuse (H:LawV p q nb cells ps pv c k a sq E hp) (n:Int) (hn:n < 2 ^ 63) :
  CSem Tryz.prog 10 [.ptr p 0,.int .i64 n] hp fun x h'=>x = .int .i64 (if n < 0 then 1 else 0)∧LawV p q nb cells ps pv c k (a.fuse n) sq E h'∧Fr' E hp h':=by
 refine (Ac3 H.at_ n).mono ?_
 rintro x h' ⟨rfl,A,K⟩
 exact ⟨rfl,H.turn K A (H.q.fuse hn) (by simp)⟩
theorem LawV.Bb (H:LawV p q nb cells ps pv c k a sq E hp) (hk:k < 2 ^ 27) (keep:List Bool) (hkl:keep.length < 2 ^ 62) :
  CSem Tryz.prog 12 [.ptr p 0,OL keep] hp fun x h'=>x = .int .i64 0∧LawV p q nb cells ps pv c 0 (a.Bb keep) sq E h'∧Fr' E hp h':=by
 refine (A7t H.at_ H.q.b (by omega) keep hkl).mono ?_
 rintro x h' ⟨rfl,A,K⟩
 exact ⟨rfl,H.turn K A (H.q.Bb keep) (by simp)⟩
theorem LawV.opened (H:LawV p q nb cells ps pv c 0 a sq E hp) (hst:c.st≤6) (hh:Nw a 7=some c) (he:(Bv a 7).er=0) (hv:(Bv a 7).vo=some (c,sq')) (hq:Qt (Bv a 7).ar) (hl:(Bv a 7).ar.disks.length=a.disks.length) :
  CSem Tryz.prog 13 [.ptr p 0,.int .i64 7] hp fun x h'=> ∃ pw,x = .tup [.ptr pw 0,.int .i64 0]∧LawV p q nb cells ps pw c 0 (Bv a 7).ar sq' (fun x=>E x∨x=pv) h'∧Fr' (fun x=>E x∨x=pv) hp h'∧h'.get pv=some (volC p c 7 sq):=by
 refine (Ac4 (id:=7) H.q (by decide) (fun d hd=>by rw [hh] at hd;cases hd;omega) (by decide) H.at_ H.lp).mono ?_
 rintro x h' ⟨K,_,_,hs3⟩
 obtain ⟨pw,rfl,hpw,gw,A'⟩:=hs3 c sq' hv
 obtain ⟨k',Q1⟩:=Ajt H.q 7
 have hpv:=Heap.Ah H.gv
 rw [he]
 refine ⟨pw,rfl,⟨gw,A'.mono fun x hx=> ?_,K.lp.trans H.lp,Q1.qt hq,by rw [hl];exact H.len,fun x hx=> ?_⟩,fun x hx=>K.get x hx.symm,K.got (.inl rfl) H.gv⟩
 ·rcases hx with rfl|hx
  ·exact .inr rfl
  ·exact .inl hx.symm
 ·rcases hx with hx|rfl
  ·have:=H.lt hx
   omega
  ·omega
theorem LawV.ragain {pw br:Nat} {n:Int} {h:Heap} (g:h.get br=some (rbC pv n)) (gv:h.get pv=some (volC p c 7 sq)) (gw:h.get pw=some (volC p c 7 sq')) :
  CSem Tryz.prog 19 [.ptr br 0,.ptr pw 0] h fun x h'=>x = .int .i64 0∧h'=h.put br (rbC pw n):=by
 refine CSem.body hm Tryz.func19 rfl (by kernel_rfl) (by kernel_rfl) (by simp [Tryz.ntmps19]) ?_
 have g':h.get br=some [.ptr pv 0,.int .i64 n]:=g
 have hbl:=Heap.Ah g'
 have hfl:Zz Tryz.prog 23=some [(0,1),(1,1),(2,1),(3,1),(4,1)]:=by kernel_rfl
 have e1:∀ x y:Int,eq1 1 (.int .i64 x) (.int .i64 y)=some (x == y):=fun x y=>by simp [eq1]
 have hne:binX Tryz.prog .neq 23 (CfA c) (CfA c)=some (.bool false):=by
  simp [CfA,binX,Ss,hfl,eqL,e1]
 refine Eg (fun r h'=>rg r 0 = .ptr br 0∧rg r 1 = .ptr pw 0∧h=h') ?_ (by simp)
 rintro r _ ⟨r0,r1,rfl⟩
 rw [C8,C8]
 refine Fb (fun r' h'=>rg r' 0 = .ptr br 0∧rg r' 1 = .ptr pw 0∧rg r' 20 = .bool false∧h=h') ?_ ?_
 ·refine Bh 16 (by kernel_rfl) ?_
  simp [r0,r1]
  refine Cp.use (x:=CfA c) (Hv gw) ?_
  simp [r0,r1,A8,g']
  refine Cp.use (x:=CfA c) (Hv gv) ?_
  simp [r0,r1,hne]
 rintro r' _ ⟨r0,r1,r20,rfl⟩
 have haP:aggT Tryz.prog 35=some false:=by kernel_rfl
 have hsP:(szT Tryz.prog 35).isSome=true:=by kernel_rfl
 have hat:(AV.ptr pw 0).atom=true:=rfl
 simp [haP,hsP,hat,r0,r1,r20,A8,g',hbl,rbC]
end
theorem A9z {x:Int} (h:(Lit.int .i64 x).wf=true):x < 2 ^ 63:=by
 simp [Lit.wf] at h
 omega
def A2H (H:Heap) (c:Cfg) (X Z:List AV) (l8 l9 l10 l13:Bool) (v3 v6:AV) (h:Heap):Prop :=
 Ext H h∧(l8=true→∃ b,v3 = .ptr b 0∧H.next≤b∧h.get b=some (bf2 l10 (cC c) zC))∧(l9=true→∃ b,v6 = .ptr b 0∧H.next≤b∧h.get b=some (bf2 l13 X Z))
structure RsI (st many:Int) (n:Nat) (r:Regs) (hp:Heap):Prop where
 r0:rg r 0 = .int .i64 st
 r1:rg r 1 = .int .i64 many
 r5:rg r 5 = .int .i64 n
 r6:rg r 6 = .int .i64 (n * many)
 lo:((n:Int) - 1) * many < st
 le:(n:Int)≤1000
 h:hp=Heap.empty
theorem A4t {st many:Int} (h0:0≤st) (h1:st≤1000) (h2:1≤many) (h3:many≤1000):Aq Tryz.prog 9 [.int .i64 st,.int .i64 many] (.int .i64 (Lw st many)):=by
 refine Aq.Az (k:=1) ?_
 refine CSem.body hm Tryz.func9 rfl (by kernel_rfl) (by kernel_rfl) (by simp [Tryz.ntmps9]) ?_
 simp [Tryz.f9]
 refine Am (RsI st many) (fun n=>(st - n * many).toNat) ?_ 0 ?_
 rotate_left
 ·exact ⟨by simp,by simp,by simp,by simp,by simp;omega,by simp,rfl⟩
 rintro n r hp ⟨r0,r1,r5,r6,hb,hn,rfl⟩
 have hnm:(n:Int)≤n * many:=by
  have:(n:Int) * 1≤n * many:=Int.mul_le_mul_of_nonneg_left h2 (by omega)
  omega
 by_cases hlt:(n:Int) * many < st
 ·have hw1:IntKind.i64.wrap ((n:Int)+1)=(n:Int)+1:=wrap64 (by omega) (by omega)
  have hw2:IntKind.i64.wrap ((n:Int) * many+many)=(n:Int) * many+many:=wrap64 (by omega) (by omega)
  have hmul:((n:Int)+1) * many=n * many+many:=by rw [Int.add_mul,Int.one_mul]
  have hmul0:((n:Int)+1 - 1) * many=n * many:=by congr 1;omega
  simp [r0,r1,r5,r6,hlt,hw1,hw2]
  refine ⟨n+1,?_,by simpa using r0,by simpa using r1,by simp,?_,?_,?_,rfl⟩
  ·push_cast
   rw [hmul]
   omega
  ·simp
   rw [hmul]
  ·push_cast
   rw [hmul0]
   exact hlt
  ·push_cast
   omega
 ·have e:=Abp h2 (n:=n) (by omega) hb
  simp [r0,r5,r6,hlt,e]
end Go.Proofs.YtpabfpccpbakfaaGreatDoor.X
