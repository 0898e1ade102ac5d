/-
  An array that crashes, beside a volume; it is opened again; ref17.Steps.
-/
import Derived.Test.YtmbndhciflilbaaGreatDoorV84
import Derived.Test.YtmbndhciflilbaaGreatDoorPB
import Derived.Test.YtmbndhciflilbaaGreatDoorXRowY
namespace Go.Proofs.YtmbndhciflilbaaGreatDoor.X
open Go.RowKit F
set_option maxRecDepth 100000
set_option linter.unusedSimpArgs false
set_option linter.unusedVariables false
section
variable {p q nb:Nat} {cells:List AV} {ps:List Nat} {pv:Nat} {c:Cfg} {k:Nat} {a:Arr} {sq sq':Int} {E:Nat→Prop} {hp:Heap} {L:List Txt}
theorem LawV.fuse (H:LawV p q nb cells ps pv c k a sq E hp) (n:Int) (hn:n < 2 ^ 63) :
  CSem Tryz.prog 21 [.ptr p 0,.int .i64 n] hp fun x h'=>x = .int .i64 (if n < 0 then 1 else 0)∧LawV p q nb cells ps pv c k (a.fuse n) sq E h'∧Fr' E hp h':=by
 refine (Aas H.at_ n).mono ?_
 rintro x h' ⟨rfl,A,K⟩
 exact ⟨rfl,H.turn K A (H.q.fuse hn) μ⟩
theorem LawV.B3 (H:LawV p q nb cells ps pv c k a sq E hp) (hk:k < 2 ^ 27) (keep:List Bool) (hkl:keep.length < 2 ^ 62) :
  CSem Tryz.prog 23 [.ptr p 0,OL keep] hp fun x h'=>x = .int .i64 0∧LawV p q nb cells ps pv c 0 (a.B3 keep) sq E h'∧Fr' E hp h':=by
 refine (A6n H.at_ H.q.b ω keep hkl).mono ?_
 rintro x h' ⟨rfl,A,K⟩
 exact ⟨rfl,H.turn K A (H.q.B3 keep) μ⟩
theorem LawV.opened (H:LawV p q nb cells ps pv c 0 a sq E hp) (hst:c.st≤6) (hh:Kw a 7=some c) (he:(Bc a 7).er=0) (hv:(Bc a 7).vo=some (c,sq')) (hq:Qt (Bc a 7).ar) (hl:(Bc a 7).ar.disks.length=a.disks.length) :
  CSem Tryz.prog 24 [.ptr p 0,.int .i64 7] hp fun x h'=> ∃ pw,x = .tup [.ptr pw 0,.int .i64 0]∧LawV p q nb cells ps pw c 0 (Bc a 7).ar sq' (fun x=>E x∨x=pv) h'∧Fr' (fun x=>E x∨x=pv) hp h'∧h'.get pv=some (volC p c 7 sq):=by
 refine (Aat (id:=7) H.q ν (fun d hd=>by rw [hh] at hd;cases hd;omega) ν H.at_ H.lp).mono ?_
 rintro x h' ⟨K,_,_,hs3⟩
 obtain ⟨pw,rfl,hpw,gw,A'⟩:=hs3 c sq' hv
 obtain ⟨k',Q1⟩:=Ahc H.q 7
 have hpv:=Heap.Ah H.gv
 rw [he]
 refine ⟨pw,rfl,⟨gw,A'.mono fun x hx=> ?_,K.lp.trans H.lp,Q1.qt hq,by rw [hl];exact H.len,fun x hx=> ?_⟩,fun x hx=>K.get x hx.symm,K.got (.inl rfl) H.gv⟩
 ·rcases hx with rfl|hx
  ·exact .inr rfl
  ·exact .inl hx.symm
 ·rcases hx with hx|rfl
  ·have:=H.lt hx
   omega
  ·omega
end
theorem Ahh {x:Int} (h:(Lit.int .i64 x).wf=true):x < 2 ^ 63:=by
 simp [Lit.wf] at h
 omega
structure RsI (st many:Int) (n:Nat) (r:Regs) (hp:Heap):Prop where
 r0:rg r 0 = .int .i64 st
 r1:rg r 1 = .int .i64 many
 r5:rg r 5 = .int .i64 n
 r6:rg r 6 = .int .i64 (n * many)
 lo:((n:Int) - 1) * many < st
 le:(n:Int)≤1000
 h:hp=Heap.empty
end Go.Proofs.YtmbndhciflilbaaGreatDoor.X
