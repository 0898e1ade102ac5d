/-
  A scrub or a rebuild under fuses (plain mathematics).
-/
import Derived.Test.YtpabfpccpbakfaaGreatDoorP25
namespace Go.Proofs.YtpabfpccpbakfaaGreatDoor.X
open F
set_option linter.unusedSimpArgs false
set_option linter.unusedVariables false
theorem EX.vsb {c:Cfg} {a:Arr} {sq:Int} {L:List Txt} {X:Nat→Nat→Bool} {bd:List Bool} (E:EX c a sq L X) (hX:∀ d p:Nat,X d p=true→bd[d]? = some true):VS c a sq L (bdP bd):=by
 obtain ⟨⟨g,I,e,hL,hx⟩,hdn,hq,hll,hal,hlf⟩:=E
 have all:∀ {d p:Nat} {b:BlkD},Lst 7 a d p b→AllV 7 a d p b:=fun ⟨x,h1,h2,h3,h4⟩=>⟨x,h1,h2,h3,fun s hs=>by rw [hq.vers h1 h3 hs];exact h4⟩
 refine ⟨⟨g,I.good fun d hd _=> ?_,e,hL⟩,hdn,hq,hll⟩
 by_cases hb:bdP bd d
 ·exact .inl fun _=>hb
 ·right
  have hf:∀ p,X d p=false:=fun p=>by
   cases h:X d p with
   | false=>rfl
   | true=>exact (hb (hX d p h)).elim
  obtain ⟨k1,_,k3⟩:=hx d hd
  exact ⟨all (k1 (hf 0)),fun n hn=>all ((k3 n hn).1 (hf _))⟩
structure SB (c:Cfg) (a:Arr) (sq:Int) (L:List Txt) (bad:Nat→Prop) (n:Nat):Prop where
 m:MS c a sq L bad (0 < n) n
 gd:Gd c a bad
 len:(a.disks.length:Int)=c.k+c.m
 le:(n:Int)≤c.st
theorem EX.sb {c:Cfg} {a:Arr} {sq:Int} {L:List Txt} {X:Nat→Nat→Bool} {bd:List Bool} (E:EX c a sq L X) (hX:∀ d p:Nat,X d p=true→bd[d]? = some true) (hbl:(bd.length:Int)=c.k+c.m) (hm:(bads bd:Int)≤c.m):SB c a sq L (bdP bd) 0:=by
 have V:=E.vsb hX
 have hc:=Bk E.conf.1
 have s:SS c a sq L bd:=⟨V,E.lf,hbl,E.conf.2.1,fun d hd=>E.al d (by have:=(List.getElem?_eq_some_iff.1 hd).1;have:=E.conf.2.1;omega),hm⟩
 obtain ⟨⟨g,I,e,hL⟩,hdn,hq,hll⟩:=V
 exact ⟨⟨⟨g,I,e,hL,fun d _=>⟨fun h=>by omega,fun m hm=>by omega⟩⟩,hll,E.al⟩,s.good,E.conf.2.1,by omega⟩
theorem RB.sb {c:Cfg} {a:Arr} {sq:Int} {L:List Txt} {d n:Nat} (R:RB c a sq L d n) (hm:1≤c.m):SB c a sq L (fun e=>e=d) n:=⟨R.m,R.gd hm,R.len,R.le⟩
section
variable {c:Cfg} {a:Arr} {sq:Int} {L:List Txt} {bad:Nat→Prop} {n:Nat}
theorem Ty (a:Arr) (f:Int):(a.fuse f).disks=a.disks∧(a.fuse f).down=a.down∧∀ d:Int,(a.fuse f).alive d=a.alive d:=by
 unfold Arr.fuse
 split
 ·exact ⟨rfl,rfl,fun _=>rfl⟩
 ·exact ⟨rfl,rfl,fun _=>rfl⟩
theorem SB.fuse (S:SB c a sq L bad n) (f:Int):SB c (a.fuse f) sq L bad n:=by
 obtain ⟨e1,e2,e3⟩:=Ty a f
 obtain ⟨⟨⟨g,I,e,hL,hA⟩,hll,hal⟩,hgd,hlen,hle⟩:=S
 refine ⟨⟨⟨g,I.fuse f,e,hL,fun d hd=> ?_⟩,hll,fun d hd=> ?_⟩,hgd.mk' (by rw [e1]) fun d=>e3 d,by rw [e1];exact hlen,hle⟩
 ·rw [e1] at hd
  exact ⟨fun h=>((hA d hd).1 h).dsks e1,fun m h1 h2=>((hA d hd).2 m h1 h2).dsks e1⟩
 ·rw [e1] at hd
  rw [e3]
  exact hal d hd
theorem SB.step (S:SB c a sq L bad n) (hC:As c) (hdn:a.down=false) (hq:Qt a) (hs:sq+1 < 36028797018963968) (hn:(n:Int) < c.st) {many:Int} (hm:1≤many) :
  ((Bj a 7 c n many).er=0∧(Bj a 7 c n many).ar.down=false∧Qt (Bj a 7 c n many).ar∧(Bj a 7 c n many).rp.lo=0∧∃ n':Nat,(Bj a 7 c n many).rp.nx=n'∧(n':Int)=n+min many (c.st - n)∧(Bj a 7 c n many).rp.dn=decide ((n':Int)=c.st)∧(a.left < 0→(Bj a 7 c n many).ar.left < 0)∧SB c (Bj a 7 c n many).ar sq L bad n') ∨
  ((Bj a 7 c n many).er=9∧¬a.left < 0∧SB c (Bj a 7 c n many).ar sq L bad n):=by
 obtain ⟨T,w⟩:=S.m.step hC hdn hq S.gd hs hn hm
 have hl:=S.len
 rcases w with ⟨w1,w2,w3,n',w4,w5,w6,w7,w8⟩|⟨w1,_,wl,w4⟩
 ·exact .inl ⟨w1,w2,w3,w7,n',w4,w5,w6,T.neg,w8,S.gd.stp T,by rw [T.len];exact hl,by omega⟩
 ·exact .inr ⟨w1,wl,w4,S.gd.stp T,by rw [T.len];exact hl,S.le⟩
theorem SB.A27 (S:SB c a sq L bad n) (keep:List Bool) (hs:sq+1 < 36028797018963968) :
  (Bv (a.Bb keep) 7).er=0∧(Bv (a.Bb keep) 7).vo=some (c,sq)∧Nw (a.Bb keep) 7=some c∧(Bv (a.Bb keep) 7).ar.down=false∧Qt (Bv (a.Bb keep) 7).ar∧(Bv (a.Bb keep) 7).ar.disks.length=a.disks.length∧(Bv (a.Bb keep) 7).ar.left < 0∧SB c (Bv (a.Bb keep) 7).ar sq L bad n:=by
 obtain ⟨r1,r2,r3,r4,r5,r6,r7,r8,r9⟩:=S.m.A27 keep S.gd hs
 exact ⟨r1,r2,r9,r3,r4,r7,r5,r6,r8,by rw [r7];exact S.len,S.le⟩
theorem SB.done (S:SB c a sq L bad n) (hst:1≤c.st) (h7:c.k+c.m≤7) (hn:(n:Int)=c.st) (hdn:a.down=false) (hq:Qt a):VS c a sq L (fun _=>False)∧Dy a 7 c=(c.k+c.m,0)∧Jq a 7 c=(c.m,0):=by
 have V:VS c a sq L (fun _=>False):=S.m.vs (by omega) (by omega) hdn hq _
 have hl:=S.len
 have hal:=Re S.m.al
 have hc:=Bk (show As c by obtain ⟨⟨g,I,_⟩,_⟩:=V;exact I.conf)
 have hm0:0≤c.m:=by obtain ⟨⟨g,I,_⟩,_⟩:=V;exact I.conf.1.2.1
 have h:=V.least (by omega) c.st.toNat (by omega)
 rw [if_neg (by omega),hal,if_pos (by omega),hl] at h
 have h':Dy a 7 c=(c.k+c.m,0):=h
 refine ⟨V,h',?_⟩
 unfold Jq
 rw [h']
 simp
 omega
end
def Lw (st many:Int):Int:=(st+many - 1) / many
theorem Abp {st many n:Int} (hm:1≤many) (h1:st≤n * many) (h2:(n - 1) * many < st):Lw st many=n:=by
 unfold Lw
 rw [Int.sub_mul] at h2
 refine Int.le_antisymm ?_ ?_
 ·refine Int.le_of_lt_add_one (Int.ediv_lt_of_lt_mul (by omega) ?_)
  rw [Int.add_mul]
  omega
 ·exact Int.le_ediv_of_mul_le (by omega) (by omega)
theorem Abq {st many s:Int} (hm:1≤many) (h:s * many < st):s < Lw st many:=by
 unfold Lw
 refine Int.lt_of_lt_of_le (Int.lt_add_one_of_le (Int.le_refl s)) (Int.le_ediv_of_mul_le (by omega) ?_)
 rw [Int.add_mul]
 omega
end Go.Proofs.YtpabfpccpbakfaaGreatDoor.X
