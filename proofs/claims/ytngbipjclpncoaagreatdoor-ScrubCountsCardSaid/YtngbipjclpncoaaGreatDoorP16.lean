/-
  Looking at all stripes: what is whole, what is damaged, what is found (plain mathematics).
-/
import Derived.Test.YtngbipjclpncoaaGreatDoorP15
namespace Go.Proofs.YtngbipjclpncoaaGreatDoor.X
open F
set_option linter.unusedSimpArgs false
set_option linter.unusedVariables false
theorem VS.exx {c:Cfg} {a:Arr} {sq:Int} {L:List Txt} (V:VS c a sq L (fun _=>False)) (hlf:a.left < 0) (hal:∀ d:Nat,d < a.disks.length→a.alive (d:Int)=true):EX c a sq L (fun _ _=>false):=by
 obtain ⟨⟨g,I,e,hL⟩,hdn,hq,hll⟩:=V
 refine ⟨⟨g,I.good fun d _ _=> .inl fun h=>h.elim,e,hL,fun d hd=>⟨fun _=> ?_,fun h=>(by cases h),fun n hn=>⟨fun _=> ?_,fun h=>(by cases h)⟩⟩⟩,hdn,hq,hll,hal,hlf⟩
 ·rcases I.hd1 hdn (hal d hd) with ⟨h,_⟩|⟨h,_⟩
  ·exact h
  ·exact h.elim
 ·rcases I.st1 hdn hn hd with ⟨h,_⟩|⟨_,h⟩
  ·exact h
  ·exact (h (hal d hd)).elim
theorem EX.vs {c:Cfg} {a:Arr} {sq:Int} {L:List Txt} {X:Nat→Nat→Bool} (E:EX c a sq L X) (h:∀ d:Nat,d < a.disks.length→X d 0=false∧∀ n:Nat,(n:Int) < c.st→X d (stP c n)=false) (bad:Nat→Prop):VS c a sq L bad:=by
 obtain ⟨⟨g,I,e,hL,hX⟩,hdn,hq,hll,hal,hlf⟩:=E
 have all:∀ {d p:Nat} {b:BlkD},Lst 7 a d p b→AllV 7 a d p b:=fun ⟨x,h1,h2,h3,h4⟩=>⟨x,h1,h2,h3,fun s hs=>by rw [hq.vers h1 h3 hs];exact h4⟩
 refine ⟨⟨g,I.good fun d hd _=> .inr ?_,e,hL⟩,hdn,hq,hll⟩
 obtain ⟨k1,_,k3⟩:=hX d hd
 obtain ⟨j1,j2⟩:=h d hd
 exact ⟨all (k1 j1),fun n hn=>all ((k3 n hn).1 (j2 n hn))⟩
theorem EX.conf {c:Cfg} {a:Arr} {sq:Int} {L:List Txt} {X:Nat→Nat→Bool} (E:EX c a sq L X):ConfP c∧(a.disks.length:Int)=c.k+c.m∧0≤sq:=by
 obtain ⟨⟨g,I,rfl,_⟩,_⟩:=E
 exact ⟨I.conf,I.len,I.s0⟩
theorem EX.all {c:Cfg} {a:Arr} {sq:Int} {L:List Txt} {X:Nat→Nat→Bool} (E:EX c a sq L X) (hs:sq+1 < 36028797018963968) :
  (scAllR a 7 c).er=0∧EX c (scAllR a 7 c).ar sq L (afX c a.disks.length c.st.toNat 0 (clr X 0))∧(scAllR a 7 c).ar.disks.length=a.disks.length ∧
  (scAllR a 7 c).rp=⟨c.st,((cntX X a.disks.length 0+meX c a.disks.length c.st.toNat 0 (clr X 0):Nat):Int),(loX c a.disks.length c.st.toNat 0 (clr X 0):Nat),true⟩:=by
 have h1:=conf_sl E.conf.1
 obtain ⟨n1,n2,n3⟩:=E.heads
 have hst:((0+c.st.toNat:Nat):Int)=c.st:=by omega
 obtain ⟨i1,i2,i3,i4⟩:=EX.stepL hs c.st.toNat 0 (r:=addR ⟨0,0,0,false⟩ (((cntX X a.disks.length 0:Nat):Int)) 0) n2 rfl (by omega)
 have hm:(min (max c.st 1) (c.st - 0)).toNat=c.st.toNat:=by congr 1;omega
 unfold scAllR stepR
 rw [if_neg (by omega),if_pos rfl,n1]
 simp only [addE]
 rw [if_neg (by simp),hm]
 rw [n3] at i2 i3 i4
 refine ⟨i1,i2,i3,?_⟩
 rw [i4,hst]
 simp [addR]
theorem cnt_none {X:Nat→Nat→Bool} {N p:Nat} (h:∀ d:Nat,d < N→X d p=false):cntX X N p=0:=by
 unfold cntX
 rw [List.countP_eq_zero]
 intro d hd
 rw [h d (List.mem_range.1 hd)]
 decide
theorem clr_le {X:Nat→Nat→Bool} {q d p:Nat} (h:X d p=false):clr X q d p=false:=by unfold clr;split;rfl;exact h
theorem afX_le {c:Cfg} {N:Nat} : ∀ (k n:Nat) {X:Nat→Nat→Bool} {d p:Nat},X d p=false→afX c N k n X d p=false
 | 0,n,X,d,p,h=>h
 | k+1,n,X,d,p,h=>by
  rw [afX]
  refine afX_le k (n+1) ?_
  unfold oneX
  split
  ·exact clr_le h
  ·exact h
theorem meX_none {c:Cfg} {N:Nat} : ∀ (k n:Nat) {X:Nat→Nat→Bool},(∀ d i:Nat,d < N→X d (stP c i)=false)→meX c N k n X=0∧((c.k:Int)≤N→loX c N k n X=0)
 | 0,n,X,h=>⟨rfl,fun _=>rfl⟩
 | k+1,n,X,h=>by
  have h0:=cnt_none (N:=N) fun d hd=>h d n hd
  obtain ⟨i1,i2⟩:=meX_none (c:=c) (N:=N) k (n+1) (X:=oneX c N X n) fun d i hd=>by
   unfold oneX
   split
   ·exact clr_le (h d i hd)
   ·exact h d i hd
  rw [meX,loX,i1,h0]
  refine ⟨by simp,fun hk=> ?_⟩
  rw [i2 hk,if_pos (show okX c N X n by unfold okX;rw [h0];omega)]
theorem EX.step0 {c:Cfg} {a:Arr} {sq:Int} {L:List Txt} (E:EX c a sq L (fun _ _=>false)) (hs:sq+1 < 36028797018963968) {fr many:Int} (h0:0≤fr) (h1:fr≤c.st) (h2:1≤many) :
  (stepR a 7 c fr many).er=0∧(stepR a 7 c fr many).rp=⟨fr+min many (c.st - fr),0,0,decide (fr+min many (c.st - fr)=c.st)⟩∧EX c (stepR a 7 c fr many).ar sq L (fun _ _=>false)∧(stepR a 7 c fr many).ar.disks.length=a.disks.length:=by
 have hc:=conf_sl E.conf.1
 have hlen:=E.conf.2.1
 have hN:(c.k:Int)≤a.disks.length:=by omega
 obtain ⟨f,rfl⟩:=Int.eq_ofNat_of_zero_le h0
 have hclr:∀ q,clr (fun _ _=>false) q=fun _ _=>false:=fun q=>by funext d p;unfold clr;split<;>rfl
 have haf:∀ k n,afX c a.disks.length k n (fun _ _=>false)=fun _ _=>false:=fun k n=>by funext d p;exact afX_le k n rfl
 have hm:=fun k n=>meX_none (c:=c) (N:=a.disks.length) k n (X:=fun _ _=>false) fun _ _ _=>rfl
 have hmin:((f+(min many (c.st - f)).toNat:Nat):Int)=(f:Int)+min many (c.st - f):=by omega
 unfold stepR
 rw [if_neg (by omega)]
 by_cases hf:(f:Int)=0
 ·rw [if_pos hf]
  obtain ⟨n1,n2,n3⟩:=E.heads
  rw [hclr] at n2
  obtain ⟨i1,i2,i3,i4⟩:=EX.stepL hs (min many (c.st - f)).toNat f (r:=addR ⟨(f:Int),0,0,false⟩ (((cntX (fun _ _=>false) a.disks.length 0:Nat):Int)) 0) n2 rfl (by omega)
  rw [n1]
  simp only [addE]
  rw [if_neg (by simp)]
  rw [n3] at i2 i3 i4
  rw [haf] at i2
  refine ⟨i1,?_,i2,i3⟩
  rw [i4,(hm _ _).1,(hm _ _).2 hN,hmin]
  simp [addR,cnt_none]
 ·rw [if_neg hf]
  obtain ⟨i1,i2,i3,i4⟩:=EX.stepL hs (min many (c.st - f)).toNat f (r:=⟨(f:Int),0,0,false⟩) E rfl (by omega)
  rw [haf] at i2
  refine ⟨i1,?_,i2,i3⟩
  rw [i4,(hm _ _).1,(hm _ _).2 hN,hmin]
  simp
end Go.Proofs.YtngbipjclpncoaaGreatDoor.X
