/-
  Texts of a proof, as one: P1, P2, P3, P4, P5, P6, P7, P8, P9, P10, P11, P12.
-/
import Derived.Test.YtmbndhciflilbaaGreatDoorVE
namespace Go.Proofs.YtmbndhciflilbaaGreatDoor.X
open F
set_option linter.unusedSimpArgs false
set_option linter.unusedVariables false
theorem Kr {n z:Int} (h1:1≤z) (h2:z≤7) (h3:0≤n) (h4:n.toNat < 256 ^ z.toNat):putR n z=(le n.toNat z.toNat,0):=by
 unfold putR
 rw [if_pos ⟨h1,h2,h3⟩,if_neg (fun h=>by have:=Adf.1 h;omega)]
theorem Jb {n z:Nat} (h1:1≤z) (h2:z≤7) (h4:n < 256 ^ z) (r:Txt):cutR (le n z ++ r) (z:Int)=((n:Int),r,0):=by
 have hl:(le n z).length=z:=P0 z n
 unfold cutR
 rw [if_pos ⟨ω,ω⟩,if_neg (by simp [hl])]
 simp only [Int.toNat_natCast]
 rw [List.take_left' hl,List.drop_left' hl,A19 z n h4]
theorem Wc {t:Txt} (h:t.length < 65536):E8 t=(le t.length 2 ++ t,0):=by unfold E8;rw [if_pos h]
theorem A3c {t:Txt} (h:t.length < 65536) (r:Txt):Ht (le t.length 2 ++ (t ++ r))=(t,r,0):=by
 have e:=Jb (n:=t.length) (z:=2) ω ω (by simpa using h) (t ++ r)
 unfold Ht
 rw [show ((2:Nat):Int)=2 from rfl] at e
 rw [e]
 rw [if_pos ⟨rfl,by simp only [List.length_append];push_cast;omega⟩]
 simp
structure Z5 (b:BlkD):Prop where
 a0:0≤b.ar
 a1:b.ar < 4294967296
 d0:0≤b.dk
 d1:b.dk < 65536
 p0:0≤b.pl
 p1:b.pl < 4294967296
 e0:0≤b.ep
 e1:b.ep < 72057594037927936
 tx:b.tx.length < 65536
theorem T4 {b:BlkD} (h:Z5 b):(Dc b).2=0∧Dy (Dc b).1=(b,0)∧(Dc b).1.length=26+b.tx.length:=by
 obtain ⟨a0,a1,d0,d1,p0,p1,e0,e1,ht⟩:=h
 obtain ⟨ar,dk,pl,ep,tx⟩:=b
 simp only at a0 a1 d0 d1 p0 p1 e0 e1 ht
 obtain ⟨ar,rfl⟩:=Int.eq_ofNat_of_zero_le a0
 obtain ⟨dk,rfl⟩:=Int.eq_ofNat_of_zero_le d0
 obtain ⟨pl,rfl⟩:=Int.eq_ofNat_of_zero_le p0
 obtain ⟨ep,rfl⟩:=Int.eq_ofNat_of_zero_le e0
 have b1:ar < 256 ^ 4:=by simp;omega
 have b2:dk < 256 ^ 2:=by simp;omega
 have b3:pl < 256 ^ 4:=by simp;omega
 have b4:ep < 256 ^ 7:=by simp;omega
 have q1:putR (ar:Int) 4=(le ar 4,0):=Kr (z:=4) ω ω ω (by simpa using b1)
 have q2:putR (dk:Int) 2=(le dk 2,0):=Kr (z:=2) ω ω ω (by simpa using b2)
 have q3:putR (pl:Int) 4=(le pl 4,0):=Kr (z:=4) ω ω ω (by simpa using b3)
 have q4:putR (ep:Int) 7=(le ep 7,0):=Kr (z:=7) ω ω ω (by simpa using b4)
 have hE:Qc ⟨ar,dk,pl,ep,tx⟩=0:=by
  simp [Qc,Ks,N1,err1,q1,q2,q3,q4,Wc ht]
 have hT:Du ⟨ar,dk,pl,ep,tx⟩=mag ++ (le ar 4 ++ (le dk 2 ++ (le pl 4 ++ (le ep 7 ++ (le tx.length 2 ++ tx))))):=by
  simp [Du,N2,N1,q1,q2,q3,q4,Wc ht]
 have hR:Dc ⟨ar,dk,pl,ep,tx⟩=(Du ⟨ar,dk,pl,ep,tx⟩ ++ (putR (crcR (Du ⟨ar,dk,pl,ep,tx⟩)) 4).1,0):=by rw [Dc,if_pos hE]
 have hc:=A1k (Du ⟨ar,dk,pl,ep,tx⟩)
 generalize hX:Du ⟨ar,dk,pl,ep,tx⟩=X at *
 have hcl:crcR X < 256 ^ 4:=by simpa using hc
 have q5:putR ((crcR X:Nat):Int) 4=(le (crcR X) 4,0):=Kr (z:=4) ω ω ω (by simpa using hcl)
 rw [hR,q5]
 have hXl:X.length=22+tx.length:=by rw [hT];simp [mag];omega
 have hs:∀ w,X ++ w=mag ++ (le ar 4 ++ (le dk 2 ++ (le pl 4 ++ (le ep 7 ++ (le tx.length 2 ++ (tx ++ w)))))):=fun w=>by rw [hT];simp
 have hs:=hs (le (crcR X) 4)
 have hl:(X ++ le (crcR X) 4).length=26+tx.length:=by simp [hXl];omega
 refine ⟨rfl,?_,hl⟩
 show Dy (X ++ le (crcR X) 4)=_
 generalize hS:X ++ le (crcR X) 4=s at *
 have r0:opRs s 0=le ar 4 ++ (le dk 2 ++ (le pl 4 ++ (le ep 7 ++ (le tx.length 2 ++ (tx ++ le (crcR X) 4))))):=by
  show s.drop 3=_
  rw [hs];rfl
 have c0:cutR (opRs s 0) 4=((ar:Int),le dk 2 ++ (le pl 4 ++ (le ep 7 ++ (le tx.length 2 ++ (tx ++ le (crcR X) 4)))),0):=by rw [r0];exact Jb (z:=4) ω ω b1 _
 have r1:opRs s 1=le dk 2 ++ (le pl 4 ++ (le ep 7 ++ (le tx.length 2 ++ (tx ++ le (crcR X) 4)))):=by show (cutR (opRs s 0) 4).2.1=_;rw [c0]
 have c1:cutR (opRs s 1) 2=((dk:Int),le pl 4 ++ (le ep 7 ++ (le tx.length 2 ++ (tx ++ le (crcR X) 4))),0):=by rw [r1];exact Jb (z:=2) ω ω b2 _
 have r2:opRs s 2=le pl 4 ++ (le ep 7 ++ (le tx.length 2 ++ (tx ++ le (crcR X) 4))):=by show (cutR (opRs s 1) 2).2.1=_;rw [c1]
 have c2:cutR (opRs s 2) 4=((pl:Int),le ep 7 ++ (le tx.length 2 ++ (tx ++ le (crcR X) 4)),0):=by rw [r2];exact Jb (z:=4) ω ω b3 _
 have r3:opRs s 3=le ep 7 ++ (le tx.length 2 ++ (tx ++ le (crcR X) 4)):=by show (cutR (opRs s 2) 4).2.1=_;rw [c2]
 have c3:cutR (opRs s 3) 7=((ep:Int),le tx.length 2 ++ (tx ++ le (crcR X) 4),0):=by rw [r3];exact Jb (z:=7) ω ω b4 _
 have r4:opRs s 4=le tx.length 2 ++ (tx ++ le (crcR X) 4):=by show (cutR (opRs s 3) 7).2.1=_;rw [c3]
 have oT:opT s=(tx,le (crcR X) 4,0):=by show Ht (opRs s 4)=_;rw [r4];exact A3c ht _
 have c4':cutR (le (crcR X) 4) 4=((crcR X:Int),[],0):=by have:=Jb (z:=4) ω ω hcl [];simpa using this
 have tk:s.take (s.length - 4)=X:=by
  rw [hl,←hS]
  exact List.take_left' ω
 unfold Dy
 rw [if_neg ω,if_neg (by rw [hs];simp [mag]),oT]
 simp only [P0]
 rw [if_neg μ,if_neg ω,tk,c4',if_neg μ]
 simp only [opVl,opSz]
 simp [c0,c1,c2,c3]
theorem N3 {b:BlkD} (h:Z5 b):Cm (Dc b).1 b.ar b.dk b.pl=(b,0):=by
 unfold Cm
 rw [(T4 h).2.1]
 simp
structure IntOk (i:IntD):Prop where
 q0:0≤i.sq
 q1:i.sq < 72057594037927936
 s0:0≤i.st
 s1:i.st < 65536
 tx:i.tx.length < 65000
theorem Hu {i:IntD} (h:IntOk i):(Bk i).2=0∧Dd (Bk i).1=(i,0)∧(Bk i).1.length=14+i.tx.length:=by
 obtain ⟨a0,a1,d0,d1,ht⟩:=h
 obtain ⟨sq,st,tx⟩:=i
 simp only at a0 a1 d0 d1 ht
 have ht':tx.length < 65536:=by omega
 obtain ⟨sq,rfl⟩:=Int.eq_ofNat_of_zero_le a0
 obtain ⟨st,rfl⟩:=Int.eq_ofNat_of_zero_le d0
 have b1:sq < 256 ^ 7:=by simp;omega
 have b2:st < 256 ^ 2:=by simp;omega
 have q1:putR (sq:Int) 7=(le sq 7,0):=Kr (z:=7) ω ω ω (by simpa using b1)
 have q2:putR (st:Int) 2=(le st 2,0):=Kr (z:=2) ω ω ω (by simpa using b2)
 have e:Bk ⟨sq,st,tx⟩=(imag ++ (le sq 7 ++ (le st 2 ++ (le tx.length 2 ++ tx))),0):=by
  simp [Bk,Ez,err1,q1,q2,Wc ht']
 rw [e]
 refine ⟨rfl,?_,by simp [imag];omega⟩
 generalize hs:imag ++ (le sq 7 ++ (le st 2 ++ (le tx.length 2 ++ tx)))=s
 have cA:irA s=((sq:Int),le st 2 ++ (le tx.length 2 ++ tx),0):=by
  show cutR (s.drop 3) 7=_
  rw [←hs]
  exact Jb (z:=7) ω ω b1 _
 have cB:irB s=((st:Int),le tx.length 2 ++ tx,0):=by
  show cutR (irA s).2.1 2=_
  rw [cA]
  exact Jb (z:=2) ω ω b2 _
 have cC:irC s=(tx,[],0):=by
  show Ht (irB s).2.1=_
  rw [cB]
  have:=A3c ht' []
  simpa using this
 unfold Dd
 rw [if_pos,cA,cB,cC]
 exact ⟨⟨by rw [←hs];simp [imag],by rw [←hs];rfl⟩,by rw [cA],by rw [cB],by rw [cC],by rw [cC]⟩
theorem Z6 {c:Cfg} (hC:Ax c):Ga (Gx c)=(c,0)∧(Gx c).length=14:=by
 have h0:=hC
 obtain ⟨⟨k1,m0,km,kk⟩,m1,⟨s0,s1⟩,⟨t0,t1⟩,⟨l0,l1⟩,_⟩:=hC
 obtain ⟨k,m,sh,st,sl⟩:=c
 simp only at k1 m0 km kk m1 s0 s1 t0 t1 l0 l1
 obtain ⟨k,rfl⟩:=Int.eq_ofNat_of_zero_le (show 0≤k by omega)
 obtain ⟨m,rfl⟩:=Int.eq_ofNat_of_zero_le m0
 obtain ⟨sh,rfl⟩:=Int.eq_ofNat_of_zero_le (show 0≤sh by omega)
 obtain ⟨st,rfl⟩:=Int.eq_ofNat_of_zero_le (show 0≤st by omega)
 obtain ⟨sl,rfl⟩:=Int.eq_ofNat_of_zero_le (show 0≤sl by omega)
 have q:∀ n:Nat,n < 65536→putR (n:Int) 2=(le n 2,0):=fun n h=>Kr (z:=2) ω ω ω (by simpa using h)
 have z:∀ (n:Nat) (r:Txt),n < 65536→cutR (le n 2 ++ r) 2=((n:Int),r,0):=fun n r h=>Jb (z:=2) ω ω (by simpa using h) r
 have e:Gx ⟨k,m,sh,st,sl⟩=cmag ++ (le k 2 ++ (le m 2 ++ (le sh 2 ++ (le st 2 ++ le sl 2)))):=by
  simp [Gx,cmag,J5,q k ω,q m ω,q sh ω,q st ω,q sl ω]
 rw [e]
 refine ⟨?_,by simp [cmag]⟩
 generalize hs:cmag ++ (le k 2 ++ (le m 2 ++ (le sh 2 ++ (le st 2 ++ le sl 2))))=s
 have r0:crRs s 0=le k 2 ++ (le m 2 ++ (le sh 2 ++ (le st 2 ++ le sl 2))):=by show s.drop 4=_;rw [←hs];rfl
 have c0:cutR (crRs s 0) 2=((k:Int),le m 2 ++ (le sh 2 ++ (le st 2 ++ le sl 2)),0):=by rw [r0,z k _ ω]
 have r1:crRs s 1=le m 2 ++ (le sh 2 ++ (le st 2 ++ le sl 2)):=by show (cutR (crRs s 0) 2).2.1=_;rw [c0]
 have c1:cutR (crRs s 1) 2=((m:Int),le sh 2 ++ (le st 2 ++ le sl 2),0):=by rw [r1,z m _ ω]
 have r2:crRs s 2=le sh 2 ++ (le st 2 ++ le sl 2):=by show (cutR (crRs s 1) 2).2.1=_;rw [c1]
 have c2:cutR (crRs s 2) 2=((sh:Int),le st 2 ++ le sl 2,0):=by rw [r2,z sh _ ω]
 have r3:crRs s 3=le st 2 ++ le sl 2:=by show (cutR (crRs s 2) 2).2.1=_;rw [c2]
 have c3:cutR (crRs s 3) 2=((st:Int),le sl 2,0):=by rw [r3,z st _ ω]
 have r4:crRs s 4=le sl 2:=by show (cutR (crRs s 3) 2).2.1=_;rw [c3]
 have c4':cutR (crRs s 4) 2=((sl:Int),[],0):=by rw [r4];have:=z sl [] ω;simpa using this
 have hc:crC s=⟨k,m,sh,st,sl⟩:=by simp [crC,crVl,c0,c1,c2,c3,c4']
 unfold Ga
 rw [hc,if_pos]
 exact ⟨⟨by rw [←hs];simp [cmag],by rw [←hs];rfl⟩,by rw [←hs];simp [cmag],h0⟩
def Dsk.vers (x:Dsk) (p:Nat) (t:Txt):Prop:=x.secs[p]? = some t∨((p:Int),t)∈x.waits
theorem Dsk.Kt {x:Dsk} {p:Nat} (hp:p < x.secs.length):x.vers p (x.at_ p):=by
 unfold Dsk.at_ Dsk.vers
 cases h:E9 p x.waits with
 | some s=>exact .inr (T5 h)
 | none=>left;simp [List.getElem?_eq_getElem hp]
theorem Wd:∀ (l:List (Int×Txt)) (keep:List Bool) (s:List Txt) (p:Nat) (t:Txt),(∀ w∈l,0≤w.1)→(Dv l keep s)[p]? = some t→s[p]? = some t∨((p:Int),t)∈l
 | [],keep,s,p,t,_,h=> .inl h
 | w :: ws,[],s,p,t,_,h=> .inl h
 | w :: ws,k :: ks,s,p,t,hw,h=>by
  rcases Wd ws ks _ p t (fun w h=>hw w (List.mem_cons_of_mem _ h)) h with h1|h1
  ·cases k with
   | false=>exact .inl h1
   | true =>
    simp only [if_true] at h1
    by_cases he:w.1.toNat=p
    ·right
     rw [he] at h1
     have hlt:p < s.length:=by have:=(List.getElem?_eq_some_iff.1 h1).1;simpa using this
     rw [List.getElem?_set_self hlt] at h1
     cases h1
     have h0:=hw w (List.mem_cons_self ..)
     have:w=((p:Int),w.2):=by obtain ⟨a,b⟩:=w;simp only at he h0 ⊢;congr;omega
     rw [←this]
     exact List.mem_cons_self ..
    ·rw [List.getElem?_set_ne he] at h1
     exact .inl h1
  ·exact .inr (List.mem_cons_of_mem _ h1)
theorem We:∀ (l:List (Int×Txt)) (s:List Txt) (p:Nat) (_:p < s.length),(∀ w∈l,0≤w.1)→(Dv l (List.replicate l.length true) s)[p]? = some ((E9 p l).getD (s[p]?.getD []))
 | [],s,p,hp,_=>by simp [Dv,E9,List.getElem?_eq_getElem hp]
 | w :: ws,s,p,hp,hw=>by
  have ih:=We ws (s.set w.1.toNat w.2) p (by simpa using hp) (fun w h=>hw w (List.mem_cons_of_mem _ h))
  simp only [List.length_cons,List.replicate_succ,Dv,if_true]
  rw [ih]
  have h0:=hw w (List.mem_cons_self ..)
  rw [show E9 (p:Int) (w :: ws)=(match E9 (p:Int) ws with|some s=>some s|none=>if w.1=(p:Int) then some w.2 else none) from rfl]
  cases h1:E9 (p:Int) ws with
  | some t=>simp [h1]
  | none =>
   by_cases he:w.1=p
   ·rw [if_pos he]
    have:w.1.toNat=p:=by omega
    rw [this]
    simp [hp]
   ·rw [if_neg he]
    rw [List.getElem?_set_ne ω]
theorem T6 {n:Int} : ∀ (l:List (Int×Txt)) (w:Int×Txt),E9 n (l ++ [w])=if w.1=n then some w.2 else E9 n l
 | [],w=>by simp [E9]
 | v :: l,w=>by
  simp only [List.cons_append,E9,T6 l w]
  by_cases h:w.1=n<;>simp [h]
theorem Dsk.Hb {x:Dsk} (keep:List Bool):(x.B3 keep).secs.length=x.secs.length:=by
 unfold Dsk.B3;split
 ·rfl
 ·simp [Hc]
theorem Dsk.Gb {x:Dsk} (keep:List Bool):(x.B3 keep).gone=x.gone:=by
 unfold Dsk.B3;split<;>rfl
theorem Dsk.A6h {x:Dsk} (keep:List Bool):(x.B3 keep).size=x.size:=by
 unfold Dsk.B3;split<;>rfl
theorem Dsk.Ku {x:Dsk} (h:x.gone=true→x.waits=[]) (keep:List Bool):(x.B3 keep).waits=[]:=by
 unfold Dsk.B3;split
 ·exact h (by assumption)
 ·rfl
theorem Dsk.Qd {x:Dsk} (hw:∀ w∈x.waits,0≤w.1) {keep:List Bool} {p:Nat} {t:Txt} (h:(x.B3 keep).vers p t):x.vers p t:=by
 unfold Dsk.B3 at h
 split at h
 ·exact h
 ·rcases h with h|h
  ·exact Wd _ _ _ _ _ hw h
  ·simp at h
theorem Dsk.Wf {x:Dsk} (hg:x.gone=false) (hw:∀ w∈x.waits,0≤w.1) {p:Nat} (hp:p < x.secs.length) {t:Txt} (h:x.flush.vers p t):t=x.at_ p:=by
 unfold Dsk.flush Dsk.B3 at h
 rw [if_neg (by simp [hg])] at h
 rcases h with h|h
 ·rw [We _ _ _ hp hw] at h
  unfold Dsk.at_
  simp only [Int.toNat_natCast]
  exact (Option.some.inj h).symm
 ·simp at h
theorem Dsk.Adw {x:Dsk} (hg:x.gone=false) (hw:∀ w∈x.waits,0≤w.1) {p:Nat} (hp:p < x.secs.length):x.flush.at_ p=x.at_ p :=
 Dsk.Wf hg hw hp (Dsk.Kt (by unfold Dsk.flush;rw [Dsk.Hb];exact hp))
def Dsk.more (x:Dsk) (p:Nat) (s:Txt):Dsk:= { x with waits:=x.waits ++ [((p:Int),s)] }
theorem Dsk.T7 {x:Dsk} {p q:Nat} {s t:Txt} (h:(x.more p s).vers q t):x.vers q t∨(q=p∧t=s):=by
 rcases h with h|h
 ·exact .inl (.inl h)
 ·rcases List.mem_append.1 h with h|h
  ·exact .inl (.inr h)
  ·have:=List.mem_singleton.1 h
   simp only [Prod.mk.injEq] at this
   exact .inr ⟨ω,this.2⟩
theorem Dsk.A8g {x:Dsk} {p q:Nat} {s:Txt} : (x.more p s).at_ q=if q=p then s else x.at_ q:=by
 unfold Dsk.more Dsk.at_
 rw [T6]
 by_cases h:q=p
 ·subst h;simp
 ·have:¬(p:Int)=(q:Int):=by omega
  simp [h,this]
theorem Dsk.Adx {x:Dsk} {p:Nat} {s:Txt} (hg:x.gone=false) (hp:p < x.secs.length) (hs:(s.length:Int)≤x.size):x.check p s=0∧x.write p s=x.more p s:=by
 have:x.check p s=0:=by
  unfold Dsk.check
  rw [if_neg (by simp [hg]),if_neg ω,if_neg ω]
 refine ⟨this,?_⟩
 unfold Dsk.write
 rw [if_pos this]
 rfl
theorem Arr.Dm {a:Arr} {d:Nat} : a.alive (d:Int)=true↔∃ x,a.disks[d]? = some x∧x.gone=false:=by
 unfold Arr.alive Arr.on?
 simp only [Int.toNat_natCast,Int.natCast_nonneg,if_true]
 cases h:a.disks[d]?<;>simp
theorem Arr.U0 {a:Arr} {d p:Nat} {s:Txt} {x:Dsk} (hd:a.down=false) (hx:a.disks[d]? = some x) (hg:x.gone=false) (hp:p < x.secs.length) (hs:(s.length:Int)≤x.size) :
  (a.left=0∧a.Hd d p s=9∧a.write d p s = { a with down:=true }) ∨
  (a.left≠0∧a.Hd d p s=0∧a.write d p s=⟨a.disks.set d (x.more p s),if 0 < a.left then a.left - 1 else a.left,false⟩):=by
 have ho:a.on? d=some x:=by unfold Arr.on?;simp [hx]
 obtain ⟨c1,c2⟩:=Dsk.Adx hg hp hs
 have e1:a.Hd d p s=if a.left=0 then 9 else 0:=by
  unfold Arr.Hd
  rw [if_neg (by simp [hd])]
  simp [ho,c1]
 have e2:a.write d p s=if a.left=0 then { a with down:=true } else { (a.set d (x.write p s)) with left:=if 0 < a.left then a.left - 1 else a.left } := by
  unfold Arr.write
  rw [if_neg (by simp [hd])]
  simp [ho,c1]
 rw [e1,e2,c2]
 by_cases hl:a.left=0
 ·exact .inl ⟨hl,by rw [if_pos hl],by rw [if_pos hl]⟩
 ·refine .inr ⟨hl,by rw [if_neg hl],?_⟩
  rw [if_neg hl]
  simp [Arr.set,hd]
theorem C5 {a:Arr} {n:Nat} {d:Int} : d∈Ab a n↔∃ e:Nat,d=e∧e < n∧a.alive (e:Int)=true:=by
 unfold Ab
 simp only [List.mem_map,List.mem_filter,List.mem_range]
 constructor
 ·rintro ⟨e,⟨h1,h2⟩,rfl⟩;exact ⟨e,rfl,h1,h2⟩
 ·rintro ⟨e,rfl,h1,h2⟩;exact ⟨e,⟨h1,h2⟩,rfl⟩
theorem Arr.A8h {a:Arr} {d p:Nat} {x:Dsk} (hd:a.down=false) (hx:a.disks[d]? = some x) (hg:x.gone=false) (hp:p < x.secs.length) (hz:0≤x.size):a.read d p=(x.at_ p,0):=by
 have ho:a.on? d=some x:=by unfold Arr.on?;simp [hx]
 unfold Arr.read Dsk.read
 rw [if_neg (by simp [hd])]
 simp only [ho]
 have:x.check p []=0:=by
  unfold Dsk.check
  rw [if_neg (by simp [hg]),if_neg ω,if_neg (by simp;omega)]
 rw [if_pos this]
structure Gh where
 ep:Nat→Int
 tx:Nat→Txt
 sq:Int
structure Pd where
 n:Nat
 t:Txt
 sh:Bool
def shrd (c:Cfg) (t:Txt) (d:Nat):Txt:=(splR c t).1[d]?.getD []
def stP (c:Cfg) (n:Nat):Nat:=1+c.sl.toNat+n
def slP (c:Cfg) (q:Int):Nat:=1+(q % c.sl).toNat
def stB (id:Int) (c:Cfg) (n:Nat) (e:Int) (t:Txt) (d:Nat):BlkD:=⟨id,d,stP c n,e,shrd c t d⟩
def Ownd (id:Int) (d p:Nat) (s:Txt) (b:BlkD):Prop:=Cm s id d p=(b,0)
def Un (id:Int) (d p:Nat) (s:Txt):Prop:=(Cm s id d p).2≠0
def Acc (c:Cfg) (g:Gh) (pd:Option Pd) (i:IntD):Prop :=
 (∃ n:Nat,i.st=n∧(n:Int) < c.st∧0≤i.sq∧i.sq < g.sq∧i.sq+1≤g.ep n∧(i.sq+1=g.ep n→i.tx=g.tx n))∨∃ P,pd=some P∧i=⟨g.sq,P.n,P.t⟩
def SecP (c:Cfg) (id:Int) (g:Gh) (bad:Nat→Prop) (pd:Option Pd) (d p:Nat) (s:Txt):Prop :=
 (p=0→Ownd id d 0 s (hdB id d c)∨(bad d∧Un id d 0 s)) ∧
 (∀ n:Nat,(n:Int) < c.st→p=stP c n→Ownd id d p s (stB id c n (g.ep n) (g.tx n) d)∨(bad d∧Un id d p s)∨∃ P,pd=some P∧P.sh=true∧P.n=n∧Ownd id d p s (stB id c n (g.sq+1) P.t d)) ∧
 (∀ k:Nat,k < c.sl.toNat→p=1+k→(d:Int)≤c.m→∀ i,(Cm s id d p).2=0→Dd (Cm s id d p).1.tx=(i,0)→1+i.sq % c.sl=p→0≤Au c i.st→Acc c g pd i)
def AllV (id:Int) (a:Arr) (d p:Nat) (b:BlkD):Prop:= ∃ x,a.disks[d]? = some x∧x.gone=false∧p < x.secs.length∧∀ s,x.vers p s→Ownd id d p s b
def Lst (id:Int) (a:Arr) (d p:Nat) (b:BlkD):Prop:= ∃ x,a.disks[d]? = some x∧x.gone=false∧p < x.secs.length∧Ownd id d p (x.at_ p) b
def jB (id:Int) (c:Cfg) (g:Gh) (P:Pd) (d:Nat):BlkD:=⟨id,d,slP c g.sq,g.sq,(Bk ⟨g.sq,P.n,P.t⟩).1⟩
def Jrn (id:Int) (c:Cfg) (g:Gh) (P:Pd) (d:Nat) (s:Txt):Prop:=(Cm s id d (slP c g.sq:Nat)).2=0∧Dd (Cm s id d (slP c g.sq:Nat)).1.tx=(⟨g.sq,P.n,P.t⟩,0)
def AllJ (id:Int) (c:Cfg) (g:Gh) (P:Pd) (a:Arr) (d:Nat):Prop:= ∃ x,a.disks[d]? = some x∧x.gone=false∧slP c g.sq < x.secs.length∧∀ s,x.vers (slP c g.sq) s→Jrn id c g P d s
structure DskG (c:Cfg) (x:Dsk):Prop where
 secs:(x.secs.length:Int)=1+c.sl+c.st
 size:x.size=c.k * c.sh+42
 waits:∀ w∈x.waits,0≤w.1
 gone:x.gone=true→x.waits=[]
structure Inv (c:Cfg) (id:Int) (g:Gh) (bad:Nat→Prop) (pd:Option Pd) (a:Arr):Prop where
 conf:Ax c
 id0:0≤id
 id1:id < 4294967296
 len:(a.disks.length:Int)=c.k+c.m
 dk:∀ x∈a.disks,DskG c x
 v:∀ (d:Nat) x,a.disks[d]? = some x→x.gone=false→∀ p s,p < x.secs.length→x.vers p s→SecP c id g bad pd d p s
 jr:∀ P,pd=some P→P.sh=true→∃ d:Nat,(d:Int)≤c.m∧AllJ id c g P a d
 pn:∀ P,pd=some P→(P.n:Int) < c.st∧(P.t.length:Int)≤Aw c
 s0:0≤g.sq
 s1:g.sq < 36028797018963968
 ge:∀ n:Nat,(n:Int) < c.st→0≤g.ep n∧g.ep n≤g.sq∧((g.tx n).length:Int)≤Aw c
 top:∃ n:Nat,(n:Int) < c.st∧g.ep n=g.sq
def Sub1 (x y:Dsk):Prop:=y.gone=x.gone∧y.secs.length=x.secs.length∧y.size=x.size∧(∀ w∈y.waits,0≤w.1)∧(y.gone=true→y.waits=[])∧∀ p s,y.vers p s→x.vers p s
theorem Inv.sub {c:Cfg} {id:Int} {g:Gh} {bad:Nat→Prop} {pd:Option Pd} {a b:Arr} (I:Inv c id g bad pd a) (hl:b.disks.length=a.disks.length)
  (h:∀ (d:Nat) x,a.disks[d]? = some x→∃ y,b.disks[d]? = some y∧Sub1 x y):Inv c id g bad pd b:=by
 have back:∀ (d:Nat) y,b.disks[d]? = some y→∃ x,a.disks[d]? = some x∧Sub1 x y:=fun d y hy=>by
  have hd:d < a.disks.length:=by rw [←hl];exact (List.getElem?_eq_some_iff.1 hy).1
  obtain ⟨y',h1,h2⟩:=h d _ (List.getElem?_eq_getElem hd)
  rw [hy] at h1;cases h1
  exact ⟨_,List.getElem?_eq_getElem hd,h2⟩
 refine ⟨I.conf,I.id0,I.id1,by rw [hl];exact I.len,fun y hy=> ?_,fun d y hy hg p s hp hv=> ?_,fun P h1 h2=> ?_,I.pn,I.s0,I.s1,I.ge,I.top⟩
 ·obtain ⟨d,hd⟩:=List.getElem?_of_mem hy
  obtain ⟨x,hx,q1,q2,q3,q4,q5,q6⟩:=back d y hd
  have:=I.dk x (List.mem_of_getElem? hx)
  exact ⟨by rw [q2];exact this.secs,by rw [q3];exact this.size,q4,q5⟩
 ·obtain ⟨x,hx,q1,q2,q3,q4,q5,q6⟩:=back d y hy
  exact I.v d x hx (by rw [←q1];exact hg) p s (by rw [←q2];exact hp) (q6 p s hv)
 ·obtain ⟨d,hd,x,hx,hg,hp,hv⟩:=I.jr P h1 h2
  obtain ⟨y,hy,q1,q2,q3,q4,q5,q6⟩:=h d x hx
  exact ⟨d,hd,y,hy,by rw [q1];exact hg,by rw [q2];exact hp,fun s hs=>hv s (q6 _ _ hs)⟩
theorem Sub1.B3 {c:Cfg} {x:Dsk} (h:DskG c x) (keep:List Bool):Sub1 x (x.B3 keep) :=
 ⟨Dsk.Gb _,Dsk.Hb _,Dsk.A6h _,by rw [Dsk.Ku h.gone];simp,fun _=>Dsk.Ku h.gone _,fun p s hv=>Dsk.Qd h.waits hv⟩
theorem Jv:∀ (l:List Dsk) (keep:List Bool) (d:Nat) (x:Dsk),l[d]? = some x→∃ ks,(Gp l keep)[d]? = some (x.B3 ks)
 | [],_,d,x,h=>by simp at h
 | y :: l,keep,0,x,h=>by simp at h;subst h;exact ⟨_,rfl⟩
 | y :: l,keep,d+1,x,h=>Jv l _ d x (by simpa using h)
theorem Inv.B3 {c:Cfg} {id:Int} {g:Gh} {bad:Nat→Prop} {pd:Option Pd} {a:Arr} (I:Inv c id g bad pd a) (keep:List Bool):Inv c id g bad pd (a.B3 keep) :=
 I.sub μ fun d x hx=>by
  obtain ⟨ks,hk⟩:=Jv a.disks keep d x hx
  exact ⟨_,hk,Sub1.B3 (I.dk x (List.mem_of_getElem? hx)) ks⟩
theorem Sub1.same {c:Cfg} {x:Dsk} (h:DskG c x):Sub1 x x:=⟨rfl,rfl,rfl,h.waits,h.gone,fun _ _ h=>h⟩
theorem Inv.flush {c:Cfg} {id:Int} {g:Gh} {bad:Nat→Prop} {pd:Option Pd} {a:Arr} (I:Inv c id g bad pd a):Inv c id g bad pd a.flush:=by
 unfold Arr.flush
 split
 ·exact I
 ·exact I.sub μ fun d x hx=>⟨x.flush,by simp [hx],Sub1.B3 (I.dk x (List.mem_of_getElem? hx)) _⟩
theorem Inv.eqv {c:Cfg} {id:Int} {g:Gh} {bad:Nat→Prop} {pd:Option Pd} {a b:Arr} (I:Inv c id g bad pd a) (h:b.disks=a.disks):Inv c id g bad pd b :=
 I.sub (by rw [h]) fun d x hx=>⟨x,by rw [h];exact hx,Sub1.same (I.dk x (List.mem_of_getElem? hx))⟩
theorem Inv.fuse {c:Cfg} {id:Int} {g:Gh} {bad:Nat→Prop} {pd:Option Pd} {a:Arr} (I:Inv c id g bad pd a) (n:Int):Inv c id g bad pd (a.fuse n) :=
 I.eqv (by unfold Arr.fuse;split<;>rfl)
theorem Inv.more {c:Cfg} {id:Int} {g:Gh} {bad:Nat→Prop} {pd:Option Pd} {a b:Arr} (I:Inv c id g bad pd a) {d p:Nat} {s:Txt} {x:Dsk} (hx:a.disks[d]? = some x) (hg:x.gone=false) (hp:p < x.secs.length)
  (hs:SecP c id g bad pd d p s) (hj:∀ P,pd=some P→P.sh=true→p≠slP c g.sq) (hb:b.disks=a.disks.set d (x.more p s)):Inv c id g bad pd b:=by
 have hd:d < a.disks.length:=(List.getElem?_eq_some_iff.1 hx).1
 have hG:=I.dk x (List.mem_of_getElem? hx)
 have get:∀ e,b.disks[e]? = if d=e then some (x.more p s) else a.disks[e]? := fun e=>by
  rw [hb,List.getElem?_set]
  by_cases h:d=e
  ·subst h;simp [hd]
  ·simp [h]
 refine ⟨I.conf,I.id0,I.id1,by rw [hb,List.length_set];exact I.len,fun y hy=> ?_,fun e y hy hg' q u hq hv=> ?_,fun P h1 h2=> ?_,I.pn,I.s0,I.s1,I.ge,I.top⟩
 ·rw [hb] at hy
  rcases List.mem_or_eq_of_mem_set hy with hy|hy
  ·exact I.dk y hy
  ·subst hy
   exact ⟨hG.secs,hG.size,fun w hw=>by
    rcases List.mem_append.1 hw with hw|hw
    ·exact hG.waits w hw
    ·rw [List.mem_singleton.1 hw];simp,fun h=>by
    have:x.gone=true:=h
    rw [hg] at this;cases this⟩
 ·rw [get] at hy
  by_cases he:d=e
  ·subst he
   rw [if_pos rfl] at hy;cases hy
   rcases Dsk.T7 hv with h|⟨rfl,rfl⟩
   ·exact I.v d x hx hg q u hq h
   ·exact hs
  ·rw [if_neg he] at hy
   exact I.v e y hy hg' q u hq hv
 ·obtain ⟨e,he,y,hy,hg',hp',hv⟩:=I.jr P h1 h2
  by_cases hde:d=e
  ·subst hde
   rw [hx] at hy;cases hy
   refine ⟨d,he,x.more p s,by rw [get,if_pos rfl],hg,hp',fun u hu=> ?_⟩
   rcases Dsk.T7 hu with h|⟨h,rfl⟩
   ·exact hv u h
   ·exact ((hj P h1 h2) h.symm).elim
  ·exact ⟨e,he,y,by rw [get,if_neg hde];exact hy,hg',hp',hv⟩
structure Stp (a b:Arr):Prop where
 len:b.disks.length=a.disks.length
 al:∀ d:Nat,b.alive d=a.alive d
 neg:a.left < 0→b.left < 0
theorem Stp.refl (a:Arr):Stp a a:=⟨rfl,fun _=>rfl,id⟩
theorem Stp.trans {a b c:Arr} (h:Stp a b) (k:Stp b c):Stp a c:=⟨by rw [k.len,h.len],fun d=>by rw [k.al,h.al],fun n=>k.neg (h.neg n)⟩
theorem Stp.alive {a b:Arr} (h:Stp a b) (n:Nat):Ab b n=Ab a n:=by
 unfold Ab
 congr 1
 exact List.filter_congr fun d _=>h.al d
theorem Wg {a b:Arr} (hl:b.disks.length=a.disks.length) (h:∀ (d:Nat) x,a.disks[d]? = some x→∃ y,b.disks[d]? = some y∧y.gone=x.gone) (d:Nat):b.alive d=a.alive d:=by
 unfold Arr.alive Arr.on?
 simp only [Int.toNat_natCast,Int.natCast_nonneg,if_true]
 cases hx:a.disks[d]? with
 | some x =>
  obtain ⟨y,hy,e⟩:=h d x hx
  rw [hy];simp [e]
 | none =>
  have:b.disks[d]? = none:=by rw [List.getElem?_eq_none_iff] at hx ⊢;omega
  rw [this]
theorem Stp.flush (a:Arr):Stp a a.flush:=by
 refine ⟨μ,Wg μ fun d x hx=> ?_,?_⟩
 ·unfold Arr.flush
  split
  ·exact ⟨x,hx,rfl⟩
  ·exact ⟨x.flush,by simp [hx],Dsk.Gb _⟩
 ·unfold Arr.flush
  split<;>exact id
structure J6 (c:Cfg) (id:Int) (g:Gh) (bad:Nat→Prop) (pd:Option Pd) (a:Arr) (b:BlkD):Prop where
 ok:Z5 b
 ar:b.ar=id
 al:∃ d:Nat,b.dk=d∧a.alive (d:Int)=true
 pl:b.pl < 1+c.sl+c.st
 sz:(26+b.tx.length:Int)≤c.k * c.sh+42
 sec:∀ d p:Nat,b.dk=d→b.pl=p→SecP c id g bad pd d p (Dc b).1
 nj:∀ P,pd=some P→P.sh=true→b.pl.toNat≠slP c g.sq
theorem J6.step {c:Cfg} {id:Int} {g:Gh} {bad:Nat→Prop} {pd:Option Pd} {a a':Arr} {b:BlkD} (h:J6 c id g bad pd a b) (s:Stp a a'):J6 c id g bad pd a' b:=by
 obtain ⟨d,h1,h2⟩:=h.al
 exact ⟨h.ok,h.ar,⟨d,h1,by rw [s.al];exact h2⟩,h.pl,h.sz,h.sec,h.nj⟩
theorem Inv.put {c:Cfg} {id:Int} {g:Gh} {bad:Nat→Prop} {pd:Option Pd} {a:Arr} (I:Inv c id g bad pd a) (hdn:a.down=false) {b:BlkD} (h:J6 c id g bad pd a b) :
  Inv c id g bad pd (vput a b)∧Stp a (vput a b)∧((F0 a b=0∧(vput a b).down=false∧(∀ d p:Nat,b.dk=d→b.pl=p→Lst id (vput a b) d p b)∧(∀ (d p:Nat) b0,¬(b.dk=d∧b.pl=p)→Lst id a d p b0→Lst id (vput a b) d p b0)) ∨
   (F0 a b=9∧(vput a b).down=true∧¬a.left < 0)):=by
 obtain ⟨o1,o2,o3⟩:=T4 h.ok
 obtain ⟨d,hd,hal⟩:=h.al
 obtain ⟨x,hx,hg⟩:=Arr.Dm.1 hal
 have hG:=I.dk x (List.mem_of_getElem? hx)
 obtain ⟨p,hp⟩:=Int.eq_ofNat_of_zero_le h.ok.p0
 have hps:p < x.secs.length:=by have:=hG.secs;have:=h.pl;omega
 have hsz:(((Dc b).1).length:Int)≤x.size:=by rw [o3,hG.size];have:=h.sz;push_cast;omega
 have e1:vput a b=a.write (d:Int) (p:Int) (Dc b).1:=by unfold vput;rw [if_pos o1,hd,hp]
 have e2:F0 a b=a.Hd (d:Int) (p:Int) (Dc b).1:=by unfold F0;rw [if_pos o1,hd,hp]
 have hlt:d < a.disks.length:=(List.getElem?_eq_some_iff.1 hx).1
 rcases Arr.U0 hdn hx hg hps hsz with ⟨w1,w2,w3⟩|⟨w1,w2,w3⟩
 ·rw [e1,e2,w3,w2]
  exact ⟨I.eqv rfl,⟨rfl,fun _=>rfl,fun h=>h⟩,.inr ⟨rfl,rfl,ω⟩⟩
 ·rw [e1,e2,w3,w2]
  have hset:∀ e,(a.disks.set d (x.more p (Dc b).1))[e]? = if d=e then some (x.more p (Dc b).1) else a.disks[e]? := fun e=>by
   rw [List.getElem?_set]
   by_cases h:d=e
   ·subst h;simp [hlt]
   ·simp [h]
  have hown:Ownd id d p (Dc b).1 b:=by
   have:=N3 h.ok
   rw [h.ar,hd,hp] at this
   exact this
  refine ⟨I.more hx hg hps (h.sec d p hd hp) (fun P h1 h2=>by have:=h.nj P h1 h2;rw [hp] at this;simpa using this) rfl,⟨μ,Wg μ fun e y hy=> ?_,fun hn=> ?_⟩,.inl ⟨rfl,rfl,fun d' p' k1 k2=> ?_,fun d' p' b0 hne hL=> ?_⟩⟩
  ·show ∃ z,(a.disks.set d (x.more p (Dc b).1))[e]? = some z∧z.gone=y.gone
   rw [hset]
   by_cases he:d=e
   ·subst he;rw [hx] at hy;cases hy;exact ⟨_,if_pos rfl,rfl⟩
   ·exact ⟨y,by rw [if_neg he];exact hy,rfl⟩
  ·show (if 0 < a.left then a.left - 1 else a.left) < 0
   rw [if_neg ω];exact hn
  ·have:d'=d:=by omega
   have:p'=p:=by omega
   subst_vars
   exact ⟨x.more p' (Dc b).1,by rw [hset,if_pos rfl],hg,hps,by rw [Dsk.A8g,if_pos rfl];exact hown⟩
  ·obtain ⟨y,hy,hg',hp',ho⟩:=hL
   by_cases he:d=d'
   ·subst he
    rw [hx] at hy;cases hy
    refine ⟨x.more p (Dc b).1,by rw [hset,if_pos rfl],hg,hp',?_⟩
    rw [Dsk.A8g,if_neg (fun e=>hne ⟨hd,by rw [hp,e]⟩)]
    exact ho
   ·exact ⟨y,by rw [hset,if_neg he];exact hy,hg',hp',ho⟩
def puts:List BlkD→Arr→Arr×Int
 | [],a=>(a,0)
 | b :: bs,a=>if F0 a b=0 then puts bs (vput a b) else (vput a b,F0 a b)
theorem Inv.Wj {c:Cfg} {id:Int} {g:Gh} {bad:Nat→Prop} {pd:Option Pd} : ∀ (bs:List BlkD) {a:Arr},Inv c id g bad pd a→a.down=false→(∀ b∈bs,J6 c id g bad pd a b) →
  Inv c id g bad pd (puts bs a).1∧Stp a (puts bs a).1∧(((puts bs a).2=0∧(puts bs a).1.down=false ∧
   (∀ (d p:Nat) b0,(∀ b∈bs,b.dk=d∧b.pl=p→b=b0)→(Lst id a d p b0∨(b0∈bs∧b0.dk=d∧b0.pl=p))→Lst id (puts bs a).1 d p b0)) ∨
   ((puts bs a).2=9∧(puts bs a).1.down=true∧¬a.left < 0))
 | [],a,I,hd,_=>⟨I,Stp.refl a,.inl ⟨rfl,hd,fun d p b0 _ h=>by rcases h with h|⟨h,_⟩;exact h;simp at h⟩⟩
 | b :: bs,a,I,hd,hok=>by
  obtain ⟨I1,S1,h⟩:=I.put hd (hok b (List.mem_cons_self ..))
  unfold puts
  rcases h with ⟨h1,h2,h3,h4⟩|⟨h1,h2,h3⟩
  ·rw [if_pos h1]
   obtain ⟨I2,S2,k⟩:=Inv.Wj bs I1 h2 (fun b' hb'=>(hok b' (List.mem_cons_of_mem _ hb')).step S1)
   refine ⟨I2,S1.trans S2,?_⟩
   rcases k with ⟨k1,k2,k3⟩|⟨k1,k2,k3⟩
   ·refine .inl ⟨k1,k2,fun d p b0 hu hl=>k3 d p b0 (fun b' hb'=>hu b' (List.mem_cons_of_mem _ hb')) ?_⟩
    by_cases hbp:b.dk=d∧b.pl=p
    ·have:b=b0:=hu b (List.mem_cons_self ..) hbp
     subst this
     exact .inl (h3 d p hbp.1 hbp.2)
    ·rcases hl with hl|⟨hl,hp⟩
     ·exact .inl (h4 d p b0 hbp hl)
     ·rcases List.mem_cons.1 hl with rfl|hl
      ·exact (hbp hp).elim
      ·exact .inr ⟨hl,hp⟩
   ·exact .inr ⟨k1,k2,fun hn=>k3 (S1.neg hn)⟩
  ·rw [if_neg (by rw [h1];decide)]
   exact ⟨I1,S1,.inr ⟨h1,h2,h3⟩⟩
theorem Lst.flush {c:Cfg} {id:Int} {a:Arr} (hdn:a.down=false) (hdk:∀ x∈a.disks,DskG c x) {d p:Nat} {b:BlkD} (h:Lst id a d p b):AllV id a.flush d p b:=by
 obtain ⟨x,hx,hg,hp,ho⟩:=h
 have hG:=hdk x (List.mem_of_getElem? hx)
 refine ⟨x.flush,by unfold Arr.flush;rw [if_neg (by simp [hdn])];simp [hx],by rw [Dsk.flush,Dsk.Gb];exact hg,by rw [Dsk.flush,Dsk.Hb];exact hp,fun s hs=> ?_⟩
 rw [Dsk.Wf hg hG.waits hp hs]
 exact ho
theorem Cp {a:Arr} (hdn:a.down=false):Bv a=(a.flush,0)∧a.flush.down=false:=by
 unfold Bv Arr.Kv Arr.flush
 simp [hdn]
theorem Up {id:Int} {c:Cfg} {sq:Int} {r:Txt} : ∀ (ds:List Int) (p:Arr×Int),p.2≠0→jrL id c sq r ds p=p
 | [],p,_=>rfl
 | d :: ds,p,h=>by rw [jrL_cons',tryR,if_neg h];exact Up ds p h
where jrL_cons' {id:Int} {c:Cfg} {sq:Int} {r:Txt} {d:Int} {ds:List Int} {p:Arr×Int} : jrL id c sq r (d :: ds) p=jrL id c sq r ds (tryR p fun a=>Wk a (jrB id c sq r d)):=rfl
theorem N4 {id:Int} {c:Cfg} {sq:Int} {r:Txt} : ∀ (ds:List Int) (a:Arr),jrL id c sq r ds (a,0)=puts (ds.map (jrB id c sq r)) a
 | [],a=>rfl
 | d :: ds,a=>by
  show jrL id c sq r ds (tryR (a,0) fun a=>Wk a (jrB id c sq r d))=_
  simp only [tryR,if_true,Wk,List.map_cons,puts]
  by_cases h:F0 a (jrB id c sq r d)=0
  ·rw [if_pos h,h];exact N4 ds _
  ·rw [if_neg h];exact Up ds _ h
theorem He {id pl ep:Int} {l:Tab} : ∀ (ds:List Int) (a:Arr),vshL id pl ep l a ds=puts (ds.map (shB id pl ep l)) a
 | [],a=>rfl
 | d :: ds,a=>by
  simp only [vshL,List.map_cons,puts]
  rw [He ds]
theorem Inv.repd {c:Cfg} {id:Int} {g g':Gh} {bad bad':Nat→Prop} {pd pd':Option Pd} {a:Arr} (I:Inv c id g bad pd a)
  (hv:∀ (d:Nat) x,a.disks[d]? = some x→x.gone=false→∀ p s,p < x.secs.length→x.vers p s→SecP c id g bad pd d p s→SecP c id g' bad' pd' d p s)
  (hj:∀ P,pd'=some P→P.sh=true→∃ d:Nat,(d:Int)≤c.m∧AllJ id c g' P a d) (hp:∀ P,pd'=some P→(P.n:Int) < c.st∧(P.t.length:Int)≤Aw c)
  (s0:0≤g'.sq) (s1:g'.sq < 36028797018963968) (ge:∀ n:Nat,(n:Int) < c.st→0≤g'.ep n∧g'.ep n≤g'.sq∧((g'.tx n).length:Int)≤Aw c) (top:∃ n:Nat,(n:Int) < c.st∧g'.ep n=g'.sq):Inv c id g' bad' pd' a :=
 ⟨I.conf,I.id0,I.id1,I.len,I.dk,fun d x hx hg p s hp hv'=>hv d x hx hg p s hp hv' (I.v d x hx hg p s hp hv'),hj,hp,s0,s1,ge,top⟩
theorem Inv.begin {c:Cfg} {id:Int} {g:Gh} {bad:Nat→Prop} {a:Arr} (I:Inv c id g bad none a) {n:Nat} {t:Txt} (hn:(n:Int) < c.st) (ht:(t.length:Int)≤Aw c):Inv c id g bad (some ⟨n,t,false⟩) a:=by
 refine I.repd (fun d x _ _ p s _ _ h=>⟨h.1,fun m hm hp=> ?_,fun k hk hp hd i h1 h2 h3 h4=> ?_⟩) (fun P h1 h2=>by cases h1;cases h2) (fun P h1=>by cases h1;exact ⟨hn,ht⟩) I.s0 I.s1 I.ge I.top
 ·rcases h.2.1 m hm hp with h|h|⟨P,h,_⟩
  ·exact .inl h
  ·exact .inr (.inl h)
  ·cases h
 ·rcases h.2.2 k hk hp hd i h1 h2 h3 h4 with h|⟨P,h,_⟩
  ·exact .inl h
  ·cases h
theorem Inv.A1m {c:Cfg} {id:Int} {g:Gh} {bad:Nat→Prop} {a:Arr} {n:Nat} {t:Txt} {b:Bool} (I:Inv c id g bad (some ⟨n,t,b⟩) a) (hj:∃ d:Nat,(d:Int)≤c.m∧AllJ id c g ⟨n,t,true⟩ a d):Inv c id g bad (some ⟨n,t,true⟩) a:=by
 refine I.repd (fun d x _ _ p s _ _ h=>⟨h.1,fun m hm hp=> ?_,fun k hk hp hd i h1 h2 h3 h4=> ?_⟩) (fun P h1 h2=>by cases h1;exact hj) (fun P h1=>by cases h1;exact I.pn ⟨n,t,b⟩ rfl) I.s0 I.s1 I.ge I.top
 ·rcases h.2.1 m hm hp with h|h|⟨P,h,h2,h3,h4⟩
  ·exact .inl h
  ·exact .inr (.inl h)
  ·cases h;exact .inr (.inr ⟨_,rfl,rfl,h3,h4⟩)
 ·rcases h.2.2 k hk hp hd i h1 h2 h3 h4 with h|⟨P,h,h3⟩
  ·exact .inl h
  ·cases h;exact .inr ⟨_,rfl,h3⟩
def Gh.upd (g:Gh) (n:Nat) (t:Txt):Gh:=⟨fun k=>if k=n then g.sq+1 else g.ep k,fun k=>if k=n then t else g.tx k,g.sq+1⟩
theorem Inv.done {c:Cfg} {id:Int} {g:Gh} {bad:Nat→Prop} {a:Arr} {n:Nat} {t:Txt} {b:Bool} (I:Inv c id g bad (some ⟨n,t,b⟩) a) (hs:g.sq+1 < 36028797018963968)
  (h:∀ d:Nat,d < a.disks.length→a.alive (d:Int)=true→AllV id a d (stP c n) (stB id c n (g.sq+1) t d)):Inv c id (g.upd n t) bad none a:=by
 have hP:=I.pn _ rfl
 have s0:=I.s0
 refine I.repd (fun d x hx hg p s hps hv k=>⟨k.1,fun m hm hp=> ?_,fun j hj hp hd i h1 h2 h5 h6=> ?_⟩) (fun P h1=>by cases h1) (fun P h1=>by cases h1) (by show 0≤g.sq+1;omega) hs (fun m hm=> ?_) ⟨n,hP.1,by simp [Gh.upd]⟩
 ·by_cases hmn:m=n
  ·subst hmn
   left
   obtain ⟨y,hy,_,_,hall⟩:=h d (List.getElem?_eq_some_iff.1 hx).1 (Arr.Dm.2 ⟨x,hx,hg⟩)
   rw [hx] at hy;cases hy
   subst hp
   have:=hall s hv
   simpa [Gh.upd] using this
  ·rcases k.2.1 m hm hp with h|h|⟨P,h,h2,h3,h4⟩
   ·left;simpa [Gh.upd,hmn] using h
   ·exact .inr (.inl h)
   ·cases h;exact (hmn h3.symm).elim
 ·rcases k.2.2 j hj hp hd i h1 h2 h5 h6 with ⟨m,a1,a2,a3,a4,a5,a6⟩|⟨P,h,h3⟩
  ·left
   refine ⟨m,a1,a2,a3,by show i.sq < g.sq+1;omega,?_,?_⟩
   ·by_cases hmn:m=n
    ·simp [Gh.upd,hmn];omega
    ·simpa [Gh.upd,hmn] using a5
   ·by_cases hmn:m=n
    ·simp [Gh.upd,hmn];omega
    ·simpa [Gh.upd,hmn] using a6
  ·cases h
   left
   subst h3
   exact ⟨n,rfl,hP.1,s0,by show g.sq < g.sq+1;omega,by simp [Gh.upd],by simp [Gh.upd]⟩
 ·by_cases hmn:m=n
  ·simp only [Gh.upd,hmn,if_true];exact ⟨ω,ω,hP.2⟩
  ·have:=I.ge m hm
   simp only [Gh.upd,hmn,if_false];exact ⟨this.1,ω,this.2.2⟩
def Qt (a:Arr):Prop:= ∀ x∈a.disks,x.waits=[]
theorem Qt.flush {c:Cfg} {a:Arr} (hdn:a.down=false) (hdk:∀ x∈a.disks,DskG c x):Qt a.flush:=by
 intro x hx
 unfold Arr.flush at hx
 rw [if_neg (by simp [hdn])] at hx
 obtain ⟨y,hy,rfl⟩:=List.mem_map.1 hx
 exact Dsk.Ku (hdk y hy).gone _
theorem Bd {c:Cfg} (hC:Ax c):1≤c.sl∧c.sl≤16∧(c.sl.toNat:Int)=c.sl∧1≤c.st∧c.st≤1000∧1≤c.k∧1≤c.m∧c.k+c.m≤256∧c.k * c.sh≤4000:=by
 obtain ⟨⟨h1,h2,h3,h4⟩,m1,⟨s0,s1⟩,⟨t0,t1⟩,⟨l0,l1⟩,h5⟩:=hC
 omega
theorem Er {c:Cfg} (hC:Ax c) {n:Nat} (hn:(n:Int) < c.st):Au c n=(stP c n:Int):=by
 have:=Bd hC
 unfold Au stP
 rw [if_pos ⟨ω,hn⟩]
 push_cast
 omega
theorem Wm {c:Cfg} (hC:Ax c) (q:Int):((slP c q:Nat):Int)=1+q % c.sl∧0≤q % c.sl∧q % c.sl < c.sl:=by
 have:=Bd hC
 have h1:=Int.emod_nonneg q (show c.sl≠0 by omega)
 have h2:=Int.emod_lt_of_pos q (show 0 < c.sl by omega)
 unfold slP
 refine ⟨?_,h1,h2⟩
 push_cast
 omega
theorem A6j {c:Cfg} (hC:Ax c) (q:Int) (n:Nat):stP c n≠slP c q:=by
 have h1:=Bd hC
 have h2:=Wm hC q
 unfold stP
 omega
theorem Lc {c:Cfg} (hC:Ax c):Aw c=c.k * c.sh - 4:=by unfold Aw;rw [if_pos hC]
theorem A3d {c:Cfg} {t:Txt} (hC:Ax c) (ht:(t.length:Int)≤Aw c) (d:Nat):((shrd c t d).length:Int)≤c.sh∧((d:Int) < c.k+c.m→((shrd c t d).length:Int)=c.sh):=by
 have h0:(splR c t).2=0:=by rw [(T8 hC ω).2]
 have h1:=T9 hC h0
 have hn:=Fx hC
 unfold shrd
 cases h:(splR c t).1[d]? with
 | some u =>
  have:=h1.2 u (List.mem_of_getElem? h)
  simp only [Option.getD_some]
  exact ⟨ω,fun _=>this⟩
 | none =>
  simp only [Option.getD_none,List.length_nil]
  refine ⟨ω,fun hd=> ?_⟩
  have:=List.getElem?_eq_none_iff.1 h
  omega
theorem spl0 {c:Cfg} {t:Txt} (hC:Ax c) (ht:(t.length:Int)≤Aw c):(splR c t).2=0:=by rw [(T8 hC ω).2]
theorem Inv.A3e {c:Cfg} {id:Int} {g:Gh} {bad:Nat→Prop} {pd:Option Pd} {a:Arr} (I:Inv c id g bad pd a) {n:Nat} (hn:(n:Int) < c.st) {e:Int} {t:Txt} (he:0≤e∧e≤g.sq+1) (hs:g.sq+1 < 36028797018963968) (ht:(t.length:Int)≤Aw c)
  (hok:(e=g.ep n∧t=g.tx n)∨∃ P,pd=some P∧P.sh=true∧P.n=n∧e=g.sq+1∧t=P.t) {d:Nat} (hd:d < a.disks.length) (hal:a.alive (d:Int)=true):J6 c id g bad pd a (stB id c n e t d):=by
 have hC:=I.conf
 have h1:=Bd hC
 have hl:=I.len
 have hsh:=(A3d hC ht d).1
 have hsh2:c.sh≤c.k * c.sh:=by
  have h8:=hC.2.2.1.1
  have:=Int.mul_le_mul_of_nonneg_right (show 1≤c.k by omega) (show 0≤c.sh by omega)
  omega
 have hst:(stP c n:Int)=1+c.sl+n:=by unfold stP;push_cast;omega
 have ok:Z5 (stB id c n e t d):=by
  refine ⟨I.id0,I.id1,by show (0:Int)≤d;omega,by show (d:Int) < 65536;omega,by show (0:Int)≤stP c n;omega,by show (stP c n:Int) < 4294967296;omega,he.1,by show e < 72057594037927936;omega,?_⟩
  show (shrd c t d).length < 65536
  omega
 refine ⟨ok,rfl,⟨d,rfl,hal⟩,by show (stP c n:Int) < 1+c.sl+c.st;omega,by show (26+(shrd c t d).length:Int)≤_;omega,fun d' p hd' hp=> ?_,fun P _ _=> ?_⟩
 ·have hd'':d'=d:=by have:(d:Int)=d':=hd';omega
  have hp':p=stP c n:=by have:(stP c n:Int)=p:=hp;omega
  subst hd'' hp'
  have own:Ownd id d' (stP c n) (Dc (stB id c n e t d')).1 (stB id c n e t d'):=N3 ok
  refine ⟨fun h=>by unfold stP at h;omega,fun m hm hp=> ?_,fun k hk hp=>by unfold stP at hp;omega⟩
  have:m=n:=by unfold stP at hp;omega
  subst this
  rcases hok with ⟨rfl,rfl⟩|⟨P,q1,q2,q3,rfl,rfl⟩
  ·exact .inl own
  ·exact .inr (.inr ⟨P,q1,q2,q3,own⟩)
 ·show (stP c n:Int).toNat≠_
  rw [Int.toNat_natCast]
  exact A6j hC _ _
theorem Hf {id:Int} {c:Cfg} (hC:Ax c) {n:Nat} (hn:(n:Int) < c.st) {e:Int} {t:Txt} (d:Nat):shB id (Au c n) e (splR c t).1 (d:Int)=stB id c n e t d:=by
 unfold shB stB shrd
 rw [Er hC hn]
 simp
theorem Inv.putJ {c:Cfg} {id:Int} {g:Gh} {bad:Nat→Prop} {a:Arr} {n:Nat} {t:Txt} (I:Inv c id g bad (some ⟨n,t,false⟩) a) {d:Nat} (hd:d < a.disks.length) (hal:a.alive (d:Int)=true) :
  J6 c id g bad (some ⟨n,t,false⟩) a (jrB id c g.sq (Bk ⟨g.sq,n,t⟩).1 d)∧jrB id c g.sq (Bk ⟨g.sq,n,t⟩).1 d=jB id c g ⟨n,t,true⟩ d:=by
 have hC:=I.conf
 have h1:=Bd hC
 have hl:=I.len
 have hP:=I.pn _ rfl
 have hs:=Wm hC g.sq
 have s0:=I.s0
 have s1:=I.s1
 have hcap:=Lc hC
 simp only at hP
 have hi:IntOk ⟨g.sq,n,t⟩:=⟨s0,by show g.sq < _;omega,by show (0:Int)≤n;omega,by show (n:Int) < 65536;omega,by show t.length < 65000;omega⟩
 obtain ⟨i1,i2,i3⟩:=Hu hi
 have e:jrB id c g.sq (Bk ⟨g.sq,n,t⟩).1 d=jB id c g ⟨n,t,true⟩ d:=by
  unfold jrB jB
  rw [hs.1]
 refine ⟨?_,e⟩
 rw [e]
 have hlen:(((jB id c g ⟨n,t,true⟩ d).tx.length:Nat):Int)=14+t.length:=by show (((Bk ⟨g.sq,n,t⟩).1.length:Nat):Int)=_;rw [i3];push_cast;rfl
 have ok:Z5 (jB id c g ⟨n,t,true⟩ d):=by
  refine ⟨I.id0,I.id1,by show (0:Int)≤d;omega,by show (d:Int) < 65536;omega,by show (0:Int)≤slP c g.sq;omega,by show (slP c g.sq:Int) < 4294967296;omega,s0,by show g.sq < 72057594037927936;omega,ω⟩
 refine ⟨ok,rfl,⟨d,rfl,hal⟩,by show (slP c g.sq:Int) < 1+c.sl+c.st;omega,ω,fun d' p hd' hp=> ?_,fun P h2 h3=>by cases h2;cases h3⟩
 have hd'':d'=d:=by have:(d:Int)=d':=hd';omega
 have hp':p=slP c g.sq:=by have:(slP c g.sq:Int)=p:=hp;omega
 subst hd'' hp'
 have own:Cm (Dc (jB id c g ⟨n,t,true⟩ d')).1 id d' (slP c g.sq:Nat)=(jB id c g ⟨n,t,true⟩ d',0):=N3 ok
 refine ⟨fun h=>by unfold slP at h;omega,fun m hm hp=>((A6j hC _ _) hp.symm).elim,fun k hk hp hdm i q1 q2 _ _=> ?_⟩
 rw [own] at q2
 have:Dd (jB id c g ⟨n,t,true⟩ d').tx=(⟨g.sq,n,t⟩,0):=i2
 rw [this] at q2
 cases q2
 exact .inr ⟨_,rfl,rfl⟩
theorem Wn (a:Arr) (n:Nat):∀ j,(Ab a (n+j)).length≤(Ab a n).length+j
 | 0=>by simp
 | j+1=>by
  have:=Wn a n j
  rw [←Nat.add_assoc,U3]
  split
  ·simp;omega
  ·omega
theorem Inv.jn {c:Cfg} {id:Int} {g:Gh} {bad:Nat→Prop} {pd:Option Pd} {a:Arr} (I:Inv c id g bad pd a) (hk:c.k≤((Ab a a.disks.length).length:Int)):Ab a (c.m+1).toNat≠[]:=by
 intro h
 have h1:=Bd I.conf
 have hl:=I.len
 have:=Wn a (c.m+1).toNat (a.disks.length - (c.m+1).toNat)
 rw [show (c.m+1).toNat+(a.disks.length - (c.m+1).toNat)=a.disks.length by omega,h] at this
 simp at this
 omega
theorem Gq {p:Arr×Int} {f:Arr→Arr×Int} (h:p.2=0):tryR p f=f p.1:=by unfold tryR;rw [if_pos h]
theorem Jw {p:Arr×Int} {f:Arr→Arr×Int} (h:p.2≠0):tryR p f=p:=by unfold tryR;rw [if_neg h]
theorem Inv.write {c:Cfg} {id:Int} {g:Gh} {bad:Nat→Prop} {a:Arr} (I:Inv c id g bad none a) (hdn:a.down=false) {n:Nat} {t:Txt} (hn:(n:Int) < c.st) (ht:(t.length:Int)≤Aw c) (hs:g.sq+1 < 36028797018963968)
  (hk:c.k≤((Ab a a.disks.length).length:Int)) :
  Stp a (Am a id c g.sq n t).1 ∧
  (((Am a id c g.sq n t).2=(g.sq+1,0)∧(Am a id c g.sq n t).1.down=false∧Inv c id (g.upd n t) bad none (Am a id c g.sq n t).1∧Qt (Am a id c g.sq n t).1) ∨
   ((Am a id c g.sq n t).2=(g.sq,9)∧(Am a id c g.sq n t).1.down=true∧¬a.left < 0∧∃ b,Inv c id g bad (some ⟨n,t,b⟩) (Am a id c g.sq n t).1)):=by
 have hC:=I.conf
 have h1:=Bd hC
 have hl:=I.len
 have s0:=I.s0
 have hcap:=Lc hC
 have hjn:=I.jn hk
 have I1:=I.begin hn ht
 have i1:(Bk ⟨g.sq,n,t⟩).2=0:=(Hu (i:=⟨g.sq,n,t⟩) ⟨s0,by show g.sq < _;omega,by show (0:Int)≤n;omega,by show (n:Int) < 65536;omega,by show t.length < 65000;omega⟩).1
 have e0:Am a id c g.sq n t=((tryR (tryR (tryR (puts ((Ab a (c.m+1).toNat).map (jrB id c g.sq (Bk ⟨g.sq,n,t⟩).1)) a) Bv) fun a'=>vshR a' id c n (g.sq+1) t (Ab a a.disks.length)) Bv).1,
   if (tryR (tryR (tryR (puts ((Ab a (c.m+1).toNat).map (jrB id c g.sq (Bk ⟨g.sq,n,t⟩).1)) a) Bv) fun a'=>vshR a' id c n (g.sq+1) t (Ab a a.disks.length)) Bv).2=0 then g.sq+1 else g.sq,
   (tryR (tryR (tryR (puts ((Ab a (c.m+1).toNat).map (jrB id c g.sq (Bk ⟨g.sq,n,t⟩).1)) a) Bv) fun a'=>vshR a' id c n (g.sq+1) t (Ab a a.disks.length)) Bv).2):=by
  unfold Am
  rw [if_neg ω,if_neg ω,if_neg (by simp [hdn])]
  simp only
  rw [if_neg (by rintro (h|h);omega;exact hjn (List.length_eq_zero_iff.1 h)),i1,N4]
 rw [e0]
 have hJ:∀ b∈(Ab a (c.m+1).toNat).map (jrB id c g.sq (Bk ⟨g.sq,n,t⟩).1),J6 c id g bad (some ⟨n,t,false⟩) a b:=by
  intro b hb
  obtain ⟨d,hd,rfl⟩:=List.mem_map.1 hb
  obtain ⟨e,rfl,he,hal⟩:=C5.1 hd
  exact (I1.putJ ω hal).1
 obtain ⟨I2,S2,k⟩:=I1.Wj _ hdn hJ
 generalize hp:puts ((Ab a (c.m+1).toNat).map (jrB id c g.sq (Bk ⟨g.sq,n,t⟩).1)) a=p at *
 obtain ⟨a1,e1⟩:=p
 simp only at I2 S2 k
 rcases k with ⟨rfl,d1,k⟩|⟨rfl,d1,k⟩
 rotate_left
 ·rw [Jw (p:=(a1,9)) μ,Jw (p:=(a1,9)) μ,Jw (p:=(a1,9)) μ]
  exact ⟨S2,.inr ⟨μ,d1,k,_,I2⟩⟩
 rw [Gq (p:=(a1,0)) rfl,(Cp d1).1,Gq (p:=(a1.flush,0)) rfl]
 have d2:=(Cp d1).2
 obtain ⟨d0,hd0⟩:=List.exists_mem_of_ne_nil _ hjn
 obtain ⟨e,rfl,he,hal⟩:=C5.1 hd0
 have hjr:AllV id a1.flush e (slP c g.sq) (jB id c g ⟨n,t,true⟩ e):=by
  refine Lst.flush d1 I2.dk (k e (slP c g.sq) _ (fun b hb hbp=> ?_) (.inr ⟨?_,?_,?_⟩))
  ·obtain ⟨d,hd,rfl⟩:=List.mem_map.1 hb
   have:d=(e:Int):=hbp.1
   subst this
   exact (I1.putJ ω hal).2
  ·rw [←(I1.putJ (d:=e) ω hal).2]
   exact List.mem_map.2 ⟨_,hd0,rfl⟩
  ·rfl
  ·rfl
 have hi2:=(Hu (i:=⟨g.sq,n,t⟩) ⟨s0,by show g.sq < _;omega,by show (0:Int)≤n;omega,by show (n:Int) < 65536;omega,by show t.length < 65000;omega⟩).2.1
 have hjr':AllJ id c g ⟨n,t,true⟩ a1.flush e:=by
  obtain ⟨x,x1,x2,x3,x4⟩:=hjr
  refine ⟨x,x1,x2,x3,fun s hs=> ?_⟩
  have:=x4 s hs
  unfold Ownd at this
  exact ⟨by rw [this],by rw [this];exact hi2⟩
 have I3:=(I2.flush).A1m ⟨e,ω,hjr'⟩
 have S3:=S2.trans (Stp.flush a1)
 have e3:vshR a1.flush id c n (g.sq+1) t (Ab a a.disks.length)=puts ((Ab a a.disks.length).map (shB id (Au c n) (g.sq+1) (splR c t).1)) a1.flush:=by
  unfold vshR
  rw [if_pos (spl0 hC ht),He]
 simp only [e3]
 have hS:∀ b∈(Ab a a.disks.length).map (shB id (Au c n) (g.sq+1) (splR c t).1),J6 c id g bad (some ⟨n,t,true⟩) a1.flush b:=by
  intro b hb
  obtain ⟨d,hd,rfl⟩:=List.mem_map.1 hb
  obtain ⟨e,rfl,he,hal⟩:=C5.1 hd
  rw [Hf hC hn]
  exact I3.A3e hn ω hs ht (.inr ⟨_,rfl,rfl,rfl,rfl,rfl⟩) (by rw [S3.len];exact he) (by rw [S3.al];exact hal)
 obtain ⟨I4,S4,k4⟩:=I3.Wj _ d2 hS
 generalize hp4:puts ((Ab a a.disks.length).map (shB id (Au c n) (g.sq+1) (splR c t).1)) a1.flush=p4 at *
 obtain ⟨a4,e4⟩:=p4
 simp only at I4 S4 k4
 rcases k4 with ⟨rfl,d4,k4⟩|⟨rfl,d4,k4⟩
 rotate_left
 ·rw [Jw (p:=(a4,9)) μ]
  exact ⟨S3.trans S4,.inr ⟨μ,d4,fun h=>k4 (S3.neg h),_,I4⟩⟩
 rw [Gq (p:=(a4,0)) rfl,(Cp d4).1]
 have S5:=(S3.trans S4).trans (Stp.flush a4)
 refine ⟨S5,.inl ⟨μ,(Cp d4).2,(I4.flush).done hs fun d hd hal=> ?_,Qt.flush d4 I4.dk⟩⟩
 have hd':d < a.disks.length:=by rw [←S5.len];exact hd
 have hal':a.alive (d:Int)=true:=by rw [←S5.al];exact hal
 have hmem:(d:Int)∈Ab a a.disks.length:=C5.2 ⟨d,rfl,hd',hal'⟩
 refine Lst.flush d4 I4.dk (k4 d (stP c n) _ (fun b hb hbp=> ?_) (.inr ⟨List.mem_map.2 ⟨_,hmem,Hf hC hn d⟩,rfl,rfl⟩))
 obtain ⟨d',hd',rfl⟩:=List.mem_map.1 hb
 have:d'=(d:Int):=hbp.1
 subst this
 exact Hf hC hn d
open Go.RowKit
theorem A3f {k sh:Nat} {t:List UInt8} : (chunks k sh t).flatten=t.take (k * sh):=by
 induction k with
 | zero=>simp [chunks]
 | succ k ih =>
  have e:chunks (k+1) sh t=chunks k sh t ++ [chunk sh t k]:=by simp [chunks,List.range_succ]
  rw [e,List.flatten_append,ih]
  simp only [List.flatten_cons,List.flatten_nil,List.append_nil,chunk]
  rw [Nat.add_mul,Nat.one_mul,List.take_add]
theorem Aaf {n:Nat} {data:List UInt8} (h:data.length < 2 ^ 32):cutR (Db n data) 4=((data.length:Int),data ++ List.replicate (n - 4 - data.length) 0,0):=by
 have hP:CutP (Db n data) 4:=⟨ω,ω⟩
 have hl:¬(Db n data).length < (4:Int).toNat:=by simp [Db]
 have e4:(4:Int).toNat=4:=rfl
 unfold cutR
 rw [if_pos hP,if_neg hl]
 simp only [e4]
 have h1:(Db n data).take 4=le data.length 4:=by
  rw [Db,List.append_assoc,List.take_append_of_le_length μ]
  rw [List.take_of_length_le μ]
 have h2:(Db n data).drop 4=data ++ List.replicate (n - 4 - data.length) 0:=by
  rw [Db,List.append_assoc,List.drop_append_of_le_length μ,List.drop_of_length_le μ]
  rfl
 rw [h1,h2,A19 4 _ ω]
theorem Ady {c:Cfg} {data:List UInt8} (hC:Ax c) (hcap:¬Aw c < data.length):(splL c data).flatten=Db (c.k.toNat * c.sh.toNat) data:=by
 rw [A1n hC] at hcap
 rw [splL,A3f,List.take_of_length_le (by rw [T1 ω];omega)]
theorem Aag {c:Cfg} {data:List UInt8} (hC:Ax c) (hcap:¬Aw c < data.length):data.length < 2 ^ 32:=by
 have hn:=Fx hC
 have hKZ:c.k.toNat * c.sh.toNat≤255 * 1024:=Nat.mul_le_mul hn.2.2.2.2.1 hn.2.2.2.2.2.2.1
 rw [A1n hC] at hcap
 omega
theorem Ah7 {c:Cfg} {data:List UInt8} (hC:Ax c) (hcap:¬Aw c < data.length):txtD (splL c data)=(data,0):=by
 have hr:=Aaf (n:=c.k.toNat * c.sh.toNat) (Aag hC hcap)
 simp only [txtD,Ady hC hcap,hr]
 rw [if_neg (by rw [List.length_append];omega),if_pos]
 ·simp
 ·intro b hb
  simp at hb
  exact hb.2
theorem Aah {l:Tab} {have_:List Bool} {x:List UInt8} (hx:x∈left l have_):∃ i:Nat,have_[i]? = some true∧l[i]? = some x:=by
 obtain ⟨p,hp,rfl⟩:=List.mem_map.1 hx
 obtain ⟨h1,h2⟩:=List.mem_filter.1 hp
 obtain ⟨i,hi⟩:=List.getElem?_of_mem h1
 rw [List.getElem?_zip_eq_some] at hi
 exact ⟨i,by rw [hi.2];simpa using h2,hi.1⟩
theorem dec_of {data l:Tab} {m:Nat} {have_:List Bool} (hP:EncP data m) (hl:l.length=data.length+m) (hh:have_.length=l.length) (he:∀ i:Nat,have_[i]? = some true→l[i]? = (encL data m)[i]?) :
  (decE data.length l have_=if cnt have_ < data.length then 3 else 0)∧decD data.length l have_=if cnt have_ < data.length then ([],3) else (data,0):=by
 have hdn:=hP.1.ne
 have hD:DkP data.length l have_:=⟨hh,hP.1.1,by rw [hl,show ((data.length+m:Nat):Int) - (data.length:Int)=m by omega];exact hP.1⟩
 have hE:Fp (left l have_):=A17 (w:=(row0 data).length) fun x hx=>by
  obtain ⟨i,h1,h2⟩:=Aah hx
  rw [he i h1] at h2
  exact A2x hdn hP.2 x (List.mem_of_getElem? h2)
 have hc:(left l have_).length=cnt have_:=by rw [Mu hh,nums,A2y]
 by_cases hn:cnt have_ < data.length
 ·have hz:decE data.length l have_=3:=by rw [decE,if_neg (fun h=>h hD),if_neg (fun h=>h hE),if_pos ω]
  rw [if_pos hn,if_pos hn]
  refine ⟨hz,?_⟩
  rw [decD,hz];rfl
 ·have hz:decE data.length l have_=0:=by rw [decE,if_neg (fun h=>h hD),if_neg (fun h=>h hE),if_neg ω]
  obtain ⟨d,hd⟩:=A18 hz
  rw [if_neg hn,if_neg hn]
  exact ⟨hz,by rw [hd.ok,hd.Ade hP hl hh he]⟩
theorem Ah8 {c:Cfg} {data:List UInt8} (hC:Ax c) (hcap:¬Aw c < data.length) {l:Tab} {have_:List Bool} (hl:l.length=c.k.toNat+c.m.toNat) (hh:have_.length=l.length)
  (he:∀ i:Nat,have_[i]? = some true→l[i]? = (encL (splL c data) c.m.toNat)[i]?):Jt c l have_=if cnt have_ < c.k.toNat then ([],3) else (data,0):=by
 have hn:=Fx hC
 have hsl:=N5 (c:=c) (data:=data)
 have hP:EncP (splL c data) c.m.toNat:=by rw [hn.2.1];exact (T8 hC hcap).1
 obtain ⟨h1,h2⟩:=dec_of hP (by rw [hl,hsl]) hh he
 rw [hsl,hn.1] at h1 h2
 have hz:SzP c.sh l have_:=(A1e hh).2 fun i hi hb=>by
  have h3:=he i hb
  rw [List.getElem?_eq_getElem hi] at h3
  have:=A3g hC hcap l[i] (List.mem_of_getElem? h3.symm)
  rw [this];exact hn.2.2.1
 have hlk:(l.length:Int)=c.k+c.m:=by rw [hl];push_cast;omega
 by_cases hc:cnt have_ < c.k.toNat
 ·rw [if_pos hc] at h1 h2 ⊢
  simp [Jt,hC,hlk,h1,hz]
 ·rw [if_neg hc] at h1 h2 ⊢
  simp [Jt,hC,hlk,h1,hz,h2,Ah7 hC hcap]
theorem Ah9 (es:List Int) (e:Int):cnt (ofH es e)=ofN es e:=by
 unfold cnt ofH ofN
 rw [←List.countP_eq_length_filter,←List.countP_eq_length_filter,List.countP_map]
 rfl
theorem N6 {es:List Int} {k e:Int} (he:0≤e):∀ (l:List Int) (b:Int),(∀ x∈l,x=e∨x = -1)→b=e∨b = -1→epoF es k l b=if b=e then e else if e∈l∧k≤ofN es e then e else -1
 | [],b,_,hb=>by
  rcases hb with rfl|rfl
  ·simp [epoF]
  ·have:¬(-1:Int)=e:=by omega
   simp [epoF,this]
 | x :: l,b,hl,hb=>by
  have hx:=hl x (List.mem_cons_self ..)
  have hl':∀ x∈l,x=e∨x = -1:=fun y hy=>hl y (List.mem_cons_of_mem _ hy)
  have n1:¬(-1:Int)=e:=by omega
  have n2:¬e = -1:=by omega
  unfold epoF
  rcases hb with rfl|rfl
  ·have:¬(b < x∧k≤ofN es x):=by rcases hx with rfl|rfl<;>omega
   rw [if_neg this,N6 he l b hl' (.inl rfl)]
   simp
  ·rw [if_neg n1]
   rcases hx with rfl|rfl
   ·by_cases hk:k≤ofN es x
    ·rw [if_pos ⟨ω,hk⟩,N6 he l x hl' (.inl rfl),if_pos rfl,if_pos ⟨List.mem_cons_self ..,hk⟩]
    ·rw [if_neg (fun h=>hk h.2),N6 he l _ hl' (.inr rfl),if_neg n1,if_neg (fun h=>hk h.2),if_neg (fun h=>hk h.2)]
   ·rw [if_neg ω,N6 he l _ hl' (.inr rfl),if_neg n1]
    have:(e∈-1 :: l∧k≤ofN es e)↔(e∈l∧k≤ofN es e):=by simp [n2]
    simp only [this]
theorem Adz {es:List Int} {k e:Int} (he:0≤e) (hk:1≤k) (h:∀ x∈es,x=e∨x = -1):epoR k es=if k≤ofN es e then e else -1:=by
 unfold epoR
 rw [N6 he es (-1) h (.inr rfl),if_neg ω]
 by_cases hn:k≤ofN es e
 ·have:e∈es:=by
   unfold ofN at hn
   cases hf:es.filter (fun x=>decide (x=e)) with
   | nil=>rw [hf] at hn;simp at hn;omega
   | cons y l =>
    have:y∈es.filter (fun x=>decide (x=e)):=by rw [hf];simp
    have:=List.mem_filter.1 this
    have h2:y=e:=by simpa using this.2
    rw [←h2];exact this.1
  rw [if_pos ⟨this,hn⟩,if_pos hn]
 ·rw [if_neg (fun h=>hn h.2),if_neg hn]
theorem Hg {id:Int} {c:Cfg} {a:Arr} (hdn:a.down=false) (hdk:∀ x∈a.disks,DskG c x) (hsz:0≤c.k * c.sh+42) {d p:Nat} {x:Dsk} (hx:a.disks[d]? = some x) (hg:x.gone=false) (hp:p < x.secs.length) :
  Cn a id d p=((Cm (x.at_ p) id d p).1,decide ((Cm (x.at_ p) id d p).2=0)):=by
 have:=Arr.A8h hdn hx hg hp (by have:=(hdk x (List.mem_of_getElem? hx)).size;omega)
 unfold Cn
 rw [this]
 rfl
theorem Z7 {id:Int} {a:Arr} {d p:Int} (h:a.alive d=false):Cn a id d p=(blk0,false):=by
 have:(a.read d p).2≠0:=by
  unfold Arr.alive at h
  unfold Arr.read
  split
  ·simp
  ·cases ho:a.on? d with
   | none=>simp
   | some x =>
    rw [ho] at h
    have:x.gone=true:=by simpa using h
    simp [Dsk.read,Dsk.check,this]
 unfold Cn
 rw [if_neg this]
theorem Rk {c:Cfg} {id:Int} {a:Arr} (hC:Ax c) (hdn:a.down=false) (hdk:∀ x∈a.disks,DskG c x) {n:Nat} (hn:(n:Int) < c.st) {d:Nat} (hd:(d:Int) < c.k+c.m) {e:Int} {t:Txt} (ht:(t.length:Int)≤Aw c)
  (h:Lst id a d (stP c n) (stB id c n e t d)):Cz a id c n d=(shrd c t d,e):=by
 obtain ⟨x,hx,hg,hp,ho⟩:=h
 have h1:=Bd hC
 have hz:0≤c.k * c.sh+42:=by
  have h8:=hC.2.2.1.1
  have:=Int.mul_nonneg (show 0≤c.k by omega) (show 0≤c.sh by omega)
  omega
 have e1:=Hg (id:=id) hdn hdk hz hx hg hp
 have ho':Cm (x.at_ (stP c n:Nat)) id d (stP c n:Nat)=(stB id c n e t d,0):=ho
 rw [ho'] at e1
 unfold Cz
 rw [Er hC hn,e1]
 have:=(A3d hC ht d).2 hd
 rw [if_pos ⟨rfl,this⟩]
 rfl
theorem Rm {c:Cfg} {id:Int} {a:Arr} {n:Nat} {d:Int} (h:(Cn a id d (Au c n)).2=false):Cz a id c n d=([],-1):=by
 unfold Cz
 rw [if_neg (by simp [h])]
theorem Inv.sz {c:Cfg} {id:Int} {g:Gh} {bad:Nat→Prop} {pd:Option Pd} {a:Arr} (I:Inv c id g bad pd a):0≤c.k * c.sh+42:=by
 have h8:=I.conf.2.2.1.1
 have h1:=Bd I.conf
 have:=Int.mul_nonneg (show 0≤c.k by omega) (show 0≤c.sh by omega)
 omega
theorem Inv.st1 {c:Cfg} {id:Int} {g:Gh} {bad:Nat→Prop} {a:Arr} (I:Inv c id g bad none a) (hdn:a.down=false) {n:Nat} (hn:(n:Int) < c.st) {d:Nat} (hd:d < a.disks.length) :
  (Lst id a d (stP c n) (stB id c n (g.ep n) (g.tx n) d)∧Cz a id c n d=(shrd c (g.tx n) d,g.ep n)∧a.alive (d:Int)=true)∨(Cz a id c n d=([],-1)∧(a.alive (d:Int)=true→bad d)):=by
 have hC:=I.conf
 have h1:=Bd hC
 cases hal:a.alive (d:Int) with
 | false =>
  right
  exact ⟨Rm (by rw [Z7 hal]),μ⟩
 | true =>
  obtain ⟨x,hx,hg⟩:=Arr.Dm.1 hal
  have hG:=I.dk x (List.mem_of_getElem? hx)
  have hp:stP c n < x.secs.length:=by have:=hG.secs;unfold stP;omega
  rcases (I.v d x hx hg _ _ hp (Dsk.Kt hp)).2.1 n hn rfl with h|⟨hb,h⟩|⟨P,h,_⟩
  ·have hL:Lst id a d (stP c n) (stB id c n (g.ep n) (g.tx n) d):=⟨x,hx,hg,hp,h⟩
   have:=I.len
   exact .inl ⟨hL,Rk hC hdn I.dk hn ω (I.ge n hn).2.2 hL,rfl⟩
  ·right
   refine ⟨Rm ?_,fun _=>hb⟩
   rw [Er hC hn,Hg hdn I.dk I.sz hx hg hp]
   have:(Cm (x.at_ (stP c n:Nat)) id d (stP c n:Nat)).2≠0:=h
   simp [this]
  ·cases h
theorem Ld (a:Arr) (id:Int) (c:Cfg) (n:Int):stE a id c n=(List.range a.disks.length).map fun d:Nat=>(Cz a id c n d).2:=by simp [stE,stL]
theorem A6k (a:Arr) (id:Int) (c:Cfg) (n:Int):stS a id c n=(List.range a.disks.length).map fun d:Nat=>(Cz a id c n d).1:=by simp [stS,stL]
theorem Uq (a:Arr) (id:Int) (c:Cfg) (n e:Int):ofN (stE a id c n) e=(List.range a.disks.length).countP fun d:Nat=>decide ((Cz a id c n d).2=e):=by
 rw [Ld]
 unfold ofN
 rw [←List.countP_eq_length_filter,List.countP_map]
 rfl
theorem Dw (a:Arr) (n:Nat):(Ab a n).length=(List.range n).countP fun d:Nat=>a.alive (d:Int):=by
 unfold Ab
 rw [List.length_map,List.countP_eq_length_filter]
theorem Inv.es {c:Cfg} {id:Int} {g:Gh} {bad:Nat→Prop} {a:Arr} (I:Inv c id g bad none a) (hdn:a.down=false) {n:Nat} (hn:(n:Int) < c.st):∀ x∈stE a id c n,x=g.ep n∨x = -1:=by
 intro x hx
 rw [Ld] at hx
 obtain ⟨d,hd,rfl⟩:=List.mem_map.1 hx
 rcases I.st1 hdn hn (List.mem_range.1 hd) with ⟨_,h,_⟩|⟨h,_⟩
 ·exact .inl (by rw [h])
 ·exact .inr (by rw [h])
theorem Inv.many {c:Cfg} {id:Int} {g:Gh} {bad:Nat→Prop} {a:Arr} (I:Inv c id g bad none a) (hdn:a.down=false) {n:Nat} (hn:(n:Int) < c.st) (q:Nat→Bool) (hq:∀ d < a.disks.length,q d=true→a.alive (d:Int)=true∧¬bad d) :
  (List.range a.disks.length).countP q≤ofN (stE a id c n) (g.ep n):=by
 rw [Uq]
 refine List.countP_mono_left fun d hd hqd=> ?_
 obtain ⟨h1,h2⟩:=hq d (List.mem_range.1 hd) hqd
 rcases I.st1 hdn hn (List.mem_range.1 hd) with ⟨_,h,_⟩|⟨_,h⟩
 ·simp [h]
 ·exact (h2 (h h1)).elim
theorem Inv.few {c:Cfg} {id:Int} {g:Gh} {bad:Nat→Prop} {a:Arr} (I:Inv c id g bad none a) (hdn:a.down=false) {n:Nat} (hn:(n:Int) < c.st):ofN (stE a id c n) (g.ep n)≤(Ab a a.disks.length).length:=by
 rw [Uq,Dw]
 refine List.countP_mono_left fun d hd h=> ?_
 have h:(Cz a id c n d).2=g.ep n:=by simpa using h
 rcases I.st1 hdn hn (List.mem_range.1 hd) with ⟨_,_,h1⟩|⟨h1,_⟩
 ·exact h1
 ·rw [h1] at h
  have:=(I.ge n hn).1
  have h:(-1:Int)=g.ep n:=h
  omega
theorem Inv.look {c:Cfg} {id:Int} {g:Gh} {bad:Nat→Prop} {a:Arr} (I:Inv c id g bad none a) (hdn:a.down=false) {n:Nat} (hn:(n:Int) < c.st) :
  Cx a id c n=if c.k≤ofN (stE a id c n) (g.ep n) then ⟨stS a id c n,stE a id c n,g.ep n,ofH (stE a id c n) (g.ep n),0⟩ else ⟨stS a id c n,stE a id c n,0,[],10⟩:=by
 have h1:=Bd I.conf
 have h2:=I.ge n hn
 unfold Cx
 rw [if_neg ω,if_neg (by simp [hdn]),Adz h2.1 ω (I.es hdn hn)]
 by_cases hk:c.k≤ofN (stE a id c n) (g.ep n)
 ·simp only [if_pos hk];rw [if_neg ω]
 ·simp only [if_neg hk];rw [if_pos ω]
theorem Inv.A3h {c:Cfg} {id:Int} {g:Gh} {bad:Nat→Prop} {a:Arr} (I:Inv c id g bad none a) (hdn:a.down=false) {n:Nat} (hn:(n:Int) < c.st) :
  Gc a id c n=if c.k≤ofN (stE a id c n) (g.ep n) then (g.tx n,0) else ([],10):=by
 have hC:=I.conf
 have h1:=Bd hC
 have h2:=I.ge n hn
 unfold Gc
 rw [I.look hdn hn]
 by_cases hk:c.k≤ofN (stE a id c n) (g.ep n)
 ·simp only [if_pos hk,if_true]
  unfold M8
  have hnn:=Fx hC
  have hl:=I.len
  have hcap:¬Aw c < (g.tx n).length:=by omega
  have:=Ah8 hC hcap (l:=stS a id c n) (have_:=ofH (stE a id c n) (g.ep n)) (by rw [A6k];simp;omega) (by rw [A6k,Ld];simp [ofH]) fun i hi=>by
   have hi2:i < a.disks.length:=by
    have:=(List.getElem?_eq_some_iff.1 hi).1
    simpa [ofH,Ld] using this
   have hi3:(Cz a id c n (i:Int)).2=g.ep n:=by
    rw [Ld] at hi
    simpa [ofH,hi2] using hi
   rw [A6k]
   simp only [List.getElem?_map,List.getElem?_range hi2,Option.map_some]
   rcases I.st1 hdn hn hi2 with ⟨_,h,_⟩|⟨h,_⟩
   ·rw [h]
    have e2:=(T8 hC hcap).2
    show some (shrd c (g.tx n) i)=_
    unfold shrd
    rw [e2]
    have:i < (encL (splL c (g.tx n)) c.m.toNat).length:=by rw [A2w,N5];omega
    simp [List.getElem?_eq_getElem this]
   ·rw [h] at hi3
    have hi3:(-1:Int)=g.ep n:=hi3
    omega
  rw [Ah9,if_neg ω] at this
  rw [this]
  simp
 ·simp [if_neg hk]
theorem Inv.A8j {c:Cfg} {id:Int} {g:Gh} {bad:Nat→Prop} {a:Arr} (I:Inv c id g bad none a) (hdn:a.down=false) {n:Nat} (hn:(n:Int) < c.st) :
  Jx a id c n=if c.k≤ofN (stE a id c n) (g.ep n) then (((ofN (stE a id c n) (g.ep n):Nat):Int),0) else (0,10):=by
 unfold Jx
 rw [I.look hdn hn]
 by_cases hk:c.k≤ofN (stE a id c n) (g.ep n)
 ·simp [if_pos hk]
 ·simp [if_neg hk]
theorem Z8:∀ (l s:List IntD),StS s→StS (l.foldl (fun acc x=>newI x acc) s)∧(∀ y∈l.foldl (fun acc x=>newI x acc) s,y∈s∨y∈l)∧(∀ x,(x∈s∨x∈l)→∃ y∈l.foldl (fun acc x=>newI x acc) s,y.st=x.st∧x.sq≤y.sq)
 | [],s,h=>⟨h,fun y hy=> .inl hy,fun x hx=>by rcases hx with hx|hx;exact ⟨x,hx,rfl,Int.le_refl _⟩;simp at hx⟩
 | z :: l,s,h=>by
  obtain ⟨h1,h2,h3⟩:=Z8 l (newI z s) (N7 h)
  refine ⟨h1,fun y hy=> ?_,fun x hx=> ?_⟩
  ·rcases h2 y hy with h4|h4
   ·rcases (Jy h y).1 h4 with ⟨k,_⟩|⟨k,_⟩|⟨k,_⟩
    ·exact .inl k
    ·exact .inr (by rw [k];exact List.mem_cons_self ..)
    ·exact .inl k
   ·exact .inr (List.mem_cons_of_mem _ h4)
  ·
   have key:∀ w,(w∈s∨w=z)→∃ y∈newI z s,y.st=w.st∧w.sq≤y.sq:=by
    intro w hw
    by_cases hst:w.st=z.st
    ·by_cases hex:∃ u∈s,u.st=z.st∧¬u.sq < z.sq
     ·obtain ⟨u,hu,hu1,hu2⟩:=hex
      refine ⟨u,(Jy h u).2 (.inr (.inr ⟨hu,hu1,hu2⟩)),by rw [hu1,hst],?_⟩
      rcases hw with hw|hw
      ·have:=h.nodup.inj hu hw (by rw [hu1,hst])
       subst this;exact Int.le_refl _
      ·subst hw;omega
     ·have hall:∀ u∈s,u.st=z.st→u.sq < z.sq:=fun u hu e=>by
       by_cases hlt:u.sq < z.sq
       ·exact hlt
       ·exact (hex ⟨u,hu,e,hlt⟩).elim
      refine ⟨z,(Jy h z).2 (.inr (.inl ⟨rfl,hall⟩)),hst.symm,?_⟩
      rcases hw with hw|hw
      ·have:=hall w hw hst;omega
      ·subst hw;exact Int.le_refl _
    ·rcases hw with hw|hw
     ·exact ⟨w,(Jy h w).2 (.inl ⟨hw,hst⟩),rfl,Int.le_refl _⟩
     ·subst hw;exact (hst rfl).elim
   rcases hx with hx|hx
   ·obtain ⟨y,hy,e1,e2⟩:=key x (.inl hx)
    obtain ⟨y',hy',e3,e4⟩:=h3 y (.inl hy)
    exact ⟨y',hy',by rw [e3,e1],ω⟩
   ·rcases List.mem_cons.1 hx with hx|hx
    ·obtain ⟨y,hy,e1,e2⟩:=key x (.inr hx)
     obtain ⟨y',hy',e3,e4⟩:=h3 y (.inl hy)
     exact ⟨y',hy',by rw [e3,e1],ω⟩
    ·exact h3 x (.inr hx)
theorem Z9 (l:List IntD):StS (G6 l)∧(∀ y∈G6 l,y∈l)∧∀ x∈l,∃ y∈G6 l,y.st=x.st∧x.sq≤y.sq:=by
 obtain ⟨h1,h2,h3⟩:=Z8 l [] List.Pairwise.nil
 exact ⟨h1,fun y hy=>by rcases h2 y hy with h|h;simp at h;exact h,fun x hx=>h3 x (.inr hx)⟩
theorem A1p:∀ {l:List Int} {x:Int},x∈l→x≤maxL l
 | [],x,h=>by simp at h
 | [y],x,h=>by have:=List.mem_singleton.1 h;subst this;exact Int.le_refl _
 | y :: z :: l,x,h=>by
  show x≤max y (maxL (z :: l))
  rcases List.mem_cons.1 h with h|h
  ·omega
  ·have:=A1p h;omega
theorem Inv.st1p {c:Cfg} {id:Int} {g:Gh} {bad:Nat→Prop} {pd:Option Pd} {a:Arr} (I:Inv c id g bad pd a) (hdn:a.down=false) {n:Nat} (hn:(n:Int) < c.st) {d:Nat} (hd:d < a.disks.length) :
  (Cz a id c n d=(shrd c (g.tx n) d,g.ep n)∧a.alive (d:Int)=true)∨(Cz a id c n d=([],-1)∧(a.alive (d:Int)=true→bad d)) ∨
  (∃ P,pd=some P∧P.sh=true∧P.n=n∧Lst id a d (stP c n) (stB id c n (g.sq+1) P.t d)∧Cz a id c n d=(shrd c P.t d,g.sq+1)∧a.alive (d:Int)=true):=by
 have hC:=I.conf
 have h1:=Bd hC
 cases hal:a.alive (d:Int) with
 | false=>exact .inr (.inl ⟨Rm (by rw [Z7 hal]),μ⟩)
 | true =>
  obtain ⟨x,hx,hg⟩:=Arr.Dm.1 hal
  have hG:=I.dk x (List.mem_of_getElem? hx)
  have hp:stP c n < x.secs.length:=by have:=hG.secs;unfold stP;omega
  have hl:=I.len
  rcases (I.v d x hx hg _ _ hp (Dsk.Kt hp)).2.1 n hn rfl with h|⟨hb,h⟩|⟨P,h,h2,h3,h4⟩
  ·exact .inl ⟨Rk hC hdn I.dk hn ω (I.ge n hn).2.2 ⟨x,hx,hg,hp,h⟩,rfl⟩
  ·refine .inr (.inl ⟨Rm ?_,fun _=>hb⟩)
   rw [Er hC hn,Hg hdn I.dk I.sz hx hg hp]
   have:(Cm (x.at_ (stP c n:Nat)) id d (stP c n:Nat)).2≠0:=h
   simp [this]
  ·exact .inr (.inr ⟨P,h,h2,h3,⟨x,hx,hg,hp,h4⟩,Rk hC hdn I.dk hn ω (I.pn P h).2 ⟨x,hx,hg,hp,h4⟩,rfl⟩)
theorem Inv.maxE {c:Cfg} {id:Int} {g:Gh} {bad:Nat→Prop} {pd:Option Pd} {a:Arr} (I:Inv c id g bad pd a) (hdn:a.down=false) {n:Nat} (hn:(n:Int) < c.st) (hgood:∃ d:Nat,d < a.disks.length∧a.alive (d:Int)=true∧¬bad d) :
  g.ep n≤maxL (stE a id c n)∧(maxL (stE a id c n)=g.ep n∨(maxL (stE a id c n)=g.sq+1∧∃ P,pd=some P∧P.sh=true∧P.n=n)):=by
 obtain ⟨d,hd,hal,hb⟩:=hgood
 have hge:=I.ge n hn
 have hmem:(Cz a id c n d).2∈stE a id c n:=by rw [Ld];exact List.mem_map.2 ⟨d,List.mem_range.2 hd,rfl⟩
 have hle:=A1p hmem
 have hne:stE a id c n≠[]:=List.ne_nil_of_mem hmem
 have hmm:=N8 hne
 generalize maxL (stE a id c n)=M at *
 have h1:g.ep n≤M:=by
  rcases I.st1p hdn hn hd with ⟨h,_⟩|⟨_,h⟩|⟨P,_,_,_,_,h,_⟩
  ·rw [h] at hle;exact hle
  ·exact (hb (h hal)).elim
  ·rw [h] at hle;have hle:g.sq+1≤M:=hle;omega
 refine ⟨h1,?_⟩
 rw [Ld] at hmm
 obtain ⟨e,he,rfl⟩:=List.mem_map.1 hmm
 rcases I.st1p hdn hn (List.mem_range.1 he) with ⟨h,_⟩|⟨h,_⟩|⟨P,q1,q2,q3,_,h,_⟩
 ·exact .inl (by rw [h])
 ·rw [h] at h1;have h1:g.ep n≤-1:=h1;omega
 ·exact .inr ⟨by rw [h],P,q1,q2,q3⟩
theorem Za {c:Cfg} {id:Int} {a:Arr} (hC:Ax c) (hlen:(a.disks.length:Int)=c.k+c.m):∀ (l:List Int),(∀ d∈l,Cn a id d 0=(hdB id d c,true)∨(Cn a id d 0).2=false)→(∃ d∈l,Cn a id d 0=(hdB id d c,true))→N9 a id l=some c
 | [],_,⟨d,hd,_⟩=>by simp at hd
 | d :: l,h,hex=>by
  unfold N9
  rcases h d (List.mem_cons_self ..) with h1|h1
  ·have e1:(hdB id d c).tx=Gx c:=rfl
   rw [h1]
   simp only [e1,(Z6 hC).1]
   rw [if_pos ⟨trivial,trivial,by unfold C7;rw [if_pos hC,hlen]⟩]
  ·rw [if_neg (by simp [h1])]
   refine Za hC hlen l (fun e he=>h e (List.mem_cons_of_mem _ he)) ?_
   obtain ⟨e,he,h2⟩:=hex
   rcases List.mem_cons.1 he with rfl|he
   ·rw [h2] at h1;cases h1
   ·exact ⟨e,he,h2⟩
theorem Inv.hd1 {c:Cfg} {id:Int} {g:Gh} {bad:Nat→Prop} {pd:Option Pd} {a:Arr} (I:Inv c id g bad pd a) (hdn:a.down=false) {d:Nat} (hal:a.alive (d:Int)=true) :
  (Lst id a d 0 (hdB id d c)∧Cn a id d 0=(hdB id d c,true))∨(bad d∧(Cn a id d 0).2=false):=by
 have h1:=Bd I.conf
 obtain ⟨x,hx,hg⟩:=Arr.Dm.1 hal
 have hG:=I.dk x (List.mem_of_getElem? hx)
 have hp:0 < x.secs.length:=by have:=hG.secs;omega
 have e:=Hg (id:=id) hdn I.dk I.sz hx hg hp
 rw [show ((0:Nat):Int)=0 from rfl] at e
 rcases (I.v d x hx hg 0 _ hp (Dsk.Kt hp)).1 rfl with h|⟨hb,h⟩
 ·have h':Cm (x.at_ 0) id d 0=(hdB id d c,0):=h
  rw [h'] at e
  exact .inl ⟨⟨x,hx,hg,hp,h⟩,e⟩
 ·have h':(Cm (x.at_ 0) id d 0).2≠0:=h
  rw [e]
  exact .inr ⟨hb,by simp [h']⟩
theorem Inv.head {c:Cfg} {id:Int} {g:Gh} {bad:Nat→Prop} {pd:Option Pd} {a:Arr} (I:Inv c id g bad pd a) (hdn:a.down=false) (hgood:∃ d:Nat,d < a.disks.length∧a.alive (d:Int)=true∧¬bad d):Kw a id=some c:=by
 unfold Kw
 refine Za I.conf I.len _ (fun d hd=> ?_) ?_
 ·obtain ⟨e,rfl,he,hal⟩:=C5.1 hd
  rcases I.hd1 hdn hal with ⟨_,h⟩|⟨_,h⟩
  ·exact .inl h
  ·exact .inr h
 ·obtain ⟨d,hd,hal,hb⟩:=hgood
  refine ⟨d,C5.2 ⟨d,rfl,hd,hal⟩,?_⟩
  rcases I.hd1 hdn hal with ⟨_,h⟩|⟨h,_⟩
  ·exact h
  ·exact (hb h).elim
theorem Ur {c:Cfg} {id:Int} {g:Gh} {bad:Nat→Prop} {pd:Option Pd} {a:Arr} (I:Inv c id g bad pd a) (hdn:a.down=false) {d:Nat} {x:Dsk} (hx:a.disks[d]? = some x) (hg:x.gone=false) {p:Nat} (hp:p < x.secs.length) :
  (Gr a d (1+c.sl+c.st).toNat)[p]? = some (x.at_ p):=by
 have hG:=I.dk x (List.mem_of_getElem? hx)
 have hs:=hG.secs
 have hp':p < (1+c.sl+c.st).toNat:=by omega
 unfold Gr
 rw [List.getElem?_map,List.getElem?_range hp',Option.map_some,Arr.A8h hdn hx hg hp (by have:=hG.size;have:=I.sz;omega)]
theorem A3j {c:Cfg} {id:Int} {g:Gh} {bad:Nat→Prop} {pd:Option Pd} {a:Arr} (I:Inv c id g bad pd a) (hdn:a.down=false):∀ i∈Dz a id c (Ab a (c.m+1).toNat),Acc c g pd i:=by
 intro i hi
 have h1:=Bd I.conf
 unfold Dz at hi
 rw [List.mem_flatten] at hi
 obtain ⟨l,hl,hi⟩:=hi
 obtain ⟨dd,hd,rfl⟩:=List.mem_map.1 hl
 obtain ⟨d,rfl,hdm,hal⟩:=C5.1 hd
 obtain ⟨x,hx,hg⟩:=Arr.Dm.1 hal
 have hG:=I.dk x (List.mem_of_getElem? hx)
 have hs:=hG.secs
 unfold Dq Jz at hi
 rw [List.mem_flatten] at hi
 obtain ⟨l,hl,hi⟩:=hi
 obtain ⟨k,hk,rfl⟩:=List.mem_map.1 hl
 have hk:=List.mem_range.1 hk
 rw [Lk] at hk
 have hp:k+1 < x.secs.length:=by omega
 unfold Kx at hi
 rw [Ur I hdn hx hg hp,show (k:Int)+1=((k+1:Nat):Int) by push_cast;rfl] at hi
 simp only [Option.getD_some] at hi
 split at hi
 ·rename_i hc
  obtain ⟨q1,q2,q3,q4⟩:=hc
  have:=List.mem_singleton.1 hi
  subst this
  have hv:=(I.v d x hx hg (k+1) _ hp (Dsk.Kt hp)).2.2 k ω ω ω
  refine hv _ q1 ?_ q3 q4
  rw [←q2]
 ·simp at hi
theorem Ae0 {c:Cfg} {id:Int} {g:Gh} {bad:Nat→Prop} {pd:Option Pd} {a:Arr} (I:Inv c id g bad pd a) (hdn:a.down=false) {P:Pd} (hP:(P.n:Int) < c.st) {d:Nat} (hd:(d:Int)≤c.m) (h:AllJ id c g P a d):(⟨g.sq,P.n,P.t⟩:IntD)∈Dz a id c (Ab a (c.m+1).toNat):=by
 have h1:=Bd I.conf
 have hsl:=Wm I.conf g.sq
 obtain ⟨x,hx,hg,hp,hv⟩:=h
 have hG:=I.dk x (List.mem_of_getElem? hx)
 have hs:=hG.secs
 have hal:a.alive (d:Int)=true:=Arr.Dm.2 ⟨x,hx,hg⟩
 obtain ⟨j1,j2⟩:=hv _ (Dsk.Kt hp)
 unfold Dz
 rw [List.mem_flatten]
 refine ⟨_,List.mem_map.2 ⟨(d:Int),C5.2 ⟨d,rfl,ω,hal⟩,rfl⟩,?_⟩
 unfold Dq Jz
 rw [List.mem_flatten]
 have hk:slP c g.sq=(g.sq % c.sl).toNat+1:=by unfold slP;omega
 refine ⟨_,List.mem_map.2 ⟨(g.sq % c.sl).toNat,List.mem_range.2 (by rw [Lk];omega),rfl⟩,?_⟩
 unfold Kx
 rw [←hk,Ur I hdn hx hg hp]
 simp only [Option.getD_some]
 have hk2:(((g.sq % c.sl).toNat:Nat):Int)+1=(slP c g.sq:Nat):=by rw [hsl.1];omega
 rw [hk2,j2]
 rw [if_pos]
 ·exact List.mem_singleton.2 rfl
 ·exact ⟨j1,rfl,by rw [hsl.1],by rw [show (⟨g.sq,P.n,P.t⟩:IntD).st=(P.n:Int) from rfl,Er I.conf hP];omega⟩
theorem Ae1:∀ (bs:List BlkD) {k:Nat} {a:Arr},ArrQ k a→ArrQ (k+bs.length) (puts bs a).1
 | [],k,a,h=>h
 | b :: bs,k,a,h=>by
  rw [puts]
  split
  ·exact (Ae1 bs (Na h b)).mono (by simp;omega)
  ·exact (Na h b).mono μ
theorem Ta {k k':Nat} {p:Arr×Int} {f:Arr→Arr×Int} (h:ArrQ k p.1) (hk:k≤k') (hf:∀ a,ArrQ k a→ArrQ k' (f a).1):ArrQ k' (tryR p f).1:=by
 unfold tryR
 split
 ·exact hf _ h
 ·exact h.mono hk
theorem Rn {k:Nat} {a:Arr} (h:ArrQ k a):ArrQ k (Bv a).1:=h.flush
theorem A3k {k:Nat} {a:Arr} (h:ArrQ k a) (id:Int) (c:Cfg) (sq n:Int) (t:Txt):ArrQ (k+((Ab a (c.m+1).toNat).length+a.disks.length)) (Am a id c sq n t).1:=by
 have h0:ArrQ (k+((Ab a (c.m+1).toNat).length+a.disks.length)) a:=h.mono ω
 have hal:=D5 a a.disks.length
 unfold Am
 split
 ·exact h0
 split
 ·exact h0
 split
 ·exact h0
 dsimp only
 split
 ·exact h0
 dsimp only
 have hj:ArrQ (k+(Ab a (c.m+1).toNat).length) (jrL id c sq (Bk ⟨sq,n,t⟩).1 (Ab a (c.m+1).toNat) (a,(Bk ⟨sq,n,t⟩).2)).1:=by
  by_cases he:(Bk ⟨sq,n,t⟩).2=0
  ·rw [he,N4]
   exact (Ae1 _ h).mono μ
  ·rw [Up _ _ he]
   exact h.mono ω
 refine Ta (k:=k+((Ab a (c.m+1).toNat).length+a.disks.length)) ?_ (Nat.le_refl _) fun a h=>Rn h
 refine Ta (k:=k+(Ab a (c.m+1).toNat).length) ?_ ω fun a' h=>(M9 h id c n (sq+1) t _).mono ω
 exact Ta hj (Nat.le_refl _) fun a h=>Rn h
theorem Rp {p:Arr×Int} {f:Arr→Arr×Int} (hf:∀ a,(f a).1.disks.length=a.disks.length):(tryR p f).1.disks.length=p.1.disks.length:=by
 unfold tryR
 split
 ·exact hf _
 ·rfl
theorem Wp:∀ (bs:List BlkD) (a:Arr),(puts bs a).1.disks.length=a.disks.length
 | [],a=>rfl
 | b :: bs,a=>by
  rw [puts]
  split
  ·rw [Wp bs];simp
  ·simp
theorem Qe (a:Arr):(Bv a).1.disks.length=a.disks.length:=a.Aaj
@[simp] theorem Wq (a:Arr) (id:Int) (c:Cfg) (sq n:Int) (t:Txt):(Am a id c sq n t).1.disks.length=a.disks.length:=by
 unfold Am
 split
 ·rfl
 split
 ·rfl
 split
 ·rfl
 dsimp only
 split
 ·rfl
 dsimp only
 rw [Rp Qe,Rp (fun a'=>by simp),Rp Qe]
 by_cases he:(Bk ⟨sq,n,t⟩).2=0
 ·rw [he,N4,Wp]
 ·rw [Up _ _ he]
theorem A8k {id:Int} {c:Cfg} {all:List Int} : ∀ (l:List Nat) {k:Nat} {a:Arr},ArrQ k a→ArrQ (k+l.length * all.length) (Hv id c all a l).1
 | [],k,a,h=>by simpa [Hv] using h
 | x :: l,k,a,h=>by
  have hm:k+all.length+l.length * all.length=k+(x :: l).length * all.length:=by rw [List.length_cons,Nat.add_mul,Nat.one_mul];omega
  rw [Hv]
  split
  ·exact (A8k l (M9 h id c x 0 [] all)).mono ω
  ·exact (M9 h id c x 0 [] all).mono ω
theorem Aha {k:Nat} {a:Arr} (h:ArrQ k a) (id:Int) (c:Cfg):ArrQ (k+(a.disks.length+c.st.toNat * a.disks.length)) (Cf a c id).ar:=by
 have h0:ArrQ (k+(a.disks.length+c.st.toNat * a.disks.length)) a:=h.mono ω
 have hal:=D5 a a.disks.length
 have hmul:=Nat.mul_le_mul_left c.st.toNat hal
 unfold Cf
 split
 ·exact h0
 split
 ·exact h0
 dsimp only
 split
 ·exact h0
 have:ArrQ (k+(a.disks.length+c.st.toNat * a.disks.length)) (tryR (tryR (Gy id c a (Ab a a.disks.length)) fun a'=>Hv id c (Ab a a.disks.length) a' (List.range c.st.toNat)) Bv).1:=by
  refine Ta (k:=k+(a.disks.length+c.st.toNat * a.disks.length)) ?_ (Nat.le_refl _) fun a h=>Rn h
  refine Ta (k:=k+(Ab a a.disks.length).length) (A8m _ h) ω fun a' h=>(A8k _ h).mono (by rw [List.length_range];omega)
 split<;>exact this
theorem Nb:∀ (l m:List BlkD) (a:Arr),puts (l ++ m) a=tryR (puts l a) (puts m)
 | [],m,a=>by simp [tryR,puts]
 | b :: l,m,a=>by
  rw [List.cons_append,puts,puts]
  split
  ·exact Nb l m _
  ·rw [tryR,if_neg (by simpa)]
theorem Wr {id:Int} {c:Cfg} : ∀ (ds:List Int) (a:Arr),Gy id c a ds=puts (ds.map fun d=>hdB id d c) a
 | [],a=>rfl
 | d :: ds,a=>by
  rw [Gy,List.map_cons,puts,Wr ds]
theorem Ws {id:Int} {c:Cfg} {all:List Int} (h:(splR c []).2=0):∀ (l:List Nat) (a:Arr),Hv id c all a l=puts (l.flatMap fun n:Nat=>all.map (shB id (Au c n) 0 (splR c []).1)) a
 | [],a=>rfl
 | n :: l,a=>by
  have e:vshR a id c n 0 [] all=puts (all.map (shB id (Au c n) 0 (splR c []).1)) a:=by unfold vshR;rw [if_pos h,He]
  rw [Hv,List.flatMap_cons,Nb,e,tryR]
  by_cases h0:(puts (all.map (shB id (Au c n) 0 (splR c []).1)) a).2=0
  ·rw [if_pos h0,if_pos h0,Ws h l]
  ·rw [if_neg h0,if_neg h0]
theorem Pf (id d p:Int):(Cm [] id d p).2≠0:=by
 have h:(Dy []).2≠0:=by decide
 unfold Cm
 rw [if_neg (fun h'=>h h'.1),if_neg h]
 exact h
theorem Inv.putH {c:Cfg} {id:Int} {g:Gh} {bad:Nat→Prop} {pd:Option Pd} {a:Arr} (I:Inv c id g bad pd a) {d:Nat} (hd:d < a.disks.length) (hal:a.alive (d:Int)=true):J6 c id g bad pd a (hdB id d c):=by
 have hC:=I.conf
 have h1:=Bd hC
 have hl:=I.len
 have hw:(Gx c).length=14:=(Z6 hC).2
 have h8:c.sh≤c.k * c.sh∧8≤c.sh:=by
  have h8:=hC.2.2.1.1
  have:=Int.mul_le_mul_of_nonneg_right (show 1≤c.k by omega) (show 0≤c.sh by omega)
  omega
 have ok:Z5 (hdB id d c):=by
  refine ⟨I.id0,I.id1,by show (0:Int)≤d;omega,by show (d:Int) < 65536;omega,by show (0:Int)≤0;omega,by show (0:Int) < 4294967296;omega,by show (0:Int)≤0;omega,by show (0:Int) < 72057594037927936;omega,?_⟩
  show (Gx c).length < 65536
  omega
 refine ⟨ok,rfl,⟨d,rfl,hal⟩,by show (0:Int) < 1+c.sl+c.st;omega,by show (26+(Gx c).length:Int)≤_;omega,fun d' p hd' hp=> ?_,fun P _ _=> ?_⟩
 ·have hd'':d'=d:=by have:(d:Int)=d':=hd';omega
  have hp':p=0:=by have:(0:Int)=p:=hp;omega
  subst hd'' hp'
  exact ⟨fun _=> .inl (N3 ok),fun m hm h=>by unfold stP at h;omega,fun k hk h=>by omega⟩
 ·show (0:Int).toNat≠_
  unfold slP
  simp
  omega
theorem Inv.good {c:Cfg} {id:Int} {g:Gh} {bad bad':Nat→Prop} {a:Arr} (I:Inv c id g bad none a)
  (h:∀ d:Nat,d < a.disks.length→a.alive (d:Int)=true→(bad d→bad' d)∨(AllV id a d 0 (hdB id d c)∧∀ n:Nat,(n:Int) < c.st→AllV id a d (stP c n) (stB id c n (g.ep n) (g.tx n) d))):Inv c id g bad' none a:=by
 refine I.repd (fun d x hx hg p s hps hv k=> ?_) (fun P h1=>by cases h1) (fun P h1=>by cases h1) I.s0 I.s1 I.ge I.top
 rcases h d (List.getElem?_eq_some_iff.1 hx).1 (Arr.Dm.2 ⟨x,hx,hg⟩) with h|⟨h0,h1⟩
 ·refine ⟨fun hp=>(k.1 hp).imp_right fun ⟨h1,h2⟩=>⟨h h1,h2⟩,fun m hm hp=> ?_,k.2.2⟩
  rcases k.2.1 m hm hp with h1|⟨h1,h2⟩|h1
  ·exact .inl h1
  ·exact .inr (.inl ⟨h h1,h2⟩)
  ·exact .inr (.inr h1)
 ·refine ⟨fun hp=> .inl ?_,fun m hm hp=> .inl ?_,k.2.2⟩
  ·obtain ⟨y,hy,_,_,hall⟩:=h0
   rw [hx] at hy;cases hy
   subst hp
   exact hall s hv
  ·obtain ⟨y,hy,_,_,hall⟩:=h1 m hm
   rw [hx] at hy;cases hy
   subst hp
   exact hall s hv
def gh0:Gh:=⟨fun _=>0,fun _=>[],0⟩
theorem Zb {c:Cfg} (hC:Ax c) {id:Int} (h0:0≤id) (h1:id < 4294967296):Inv c id gh0 (fun _=>True) none (Ck (c.k+c.m) (1+c.sl+c.st) (c.k * c.sh+42)) ∧
  (Ck (c.k+c.m) (1+c.sl+c.st) (c.k * c.sh+42)).down=false∧(Ck (c.k+c.m) (1+c.sl+c.st) (c.k * c.sh+42)).left = -1 ∧
  ∀ d:Nat,(d:Int) < c.k+c.m→(Ck (c.k+c.m) (1+c.sl+c.st) (c.k * c.sh+42)).alive d=true:=by
 have hs:=Bd hC
 have hcap:=Lc hC
 have h8:c.sh≤c.k * c.sh∧8≤c.sh:=by
  have h8:=hC.2.2.1.1
  have:=Int.mul_le_mul_of_nonneg_right (show 1≤c.k by omega) (show 0≤c.sh by omega)
  omega
 have get:∀ (d:Nat) x,(Ck (c.k+c.m) (1+c.sl+c.st) (c.k * c.sh+42)).disks[d]? = some x→x=Ew (1+c.sl+c.st) (c.k * c.sh+42):=fun d x hx=>by
  unfold Ck at hx
  exact (List.mem_replicate.1 (List.mem_of_getElem? hx)).2
 refine ⟨⟨hC,h0,h1,?_,fun x hx=> ?_,fun d x hx hg p s hp hv=> ?_,fun P h=>(by cases h),fun P h=>(by cases h),Int.le_refl _,ν,fun n hn=>⟨Int.le_refl _,Int.le_refl _,(by show ((0:Nat):Int)≤_;omega)⟩,⟨0,ω,rfl⟩⟩,rfl,rfl,fun d hd=> ?_⟩
 ·unfold Ck;rw [List.length_replicate];omega
 ·obtain ⟨d,hd⟩:=List.getElem?_of_mem hx
  rw [get d x hd]
  exact ⟨by unfold Ew;rw [List.length_replicate];omega,rfl,fun w hw=>by simp [Ew] at hw,fun h=>by cases h⟩
 ·have:=get d x hx
  subst this
  have hs0:s=[]:=by
   rcases hv with h|h
   ·have h':(List.replicate (1+c.sl+c.st).toNat ([]:Txt))[p]? = some s:=h
    exact (List.mem_replicate.1 (List.mem_of_getElem? h')).2
   ·simp [Ew] at h
  subst hs0
  exact ⟨fun _=> .inr ⟨trivial,Pf _ _ _⟩,fun n _ _=> .inr (.inl ⟨trivial,Pf _ _ _⟩),fun k _ _ _ i h=>(Pf _ _ _ h).elim⟩
 ·refine Arr.Dm.2 ⟨Ew (1+c.sl+c.st) (c.k * c.sh+42),?_,rfl⟩
  unfold Ck
  rw [List.getElem?_replicate,if_pos ω]
theorem K0 {a:Arr} (h:∀ d:Nat,d < a.disks.length→a.alive (d:Int)=true):(Ab a a.disks.length).length=a.disks.length:=by
 rw [Dw]
 have:(List.range a.disks.length).countP (fun d:Nat=>a.alive (d:Int))=(List.range a.disks.length).length:=List.countP_eq_length.2 fun d hd=>h d (List.mem_range.1 hd)
 rw [this,List.length_range]
theorem Ahb {c:Cfg} (hC:Ax c) {id:Int} (h0:0≤id) (h1:id < 4294967296):(Cf (Ck (c.k+c.m) (1+c.sl+c.st) (c.k * c.sh+42)) c id).vo=some (c,0)∧(Cf (Ck (c.k+c.m) (1+c.sl+c.st) (c.k * c.sh+42)) c id).er=0 ∧
  Inv c id gh0 (fun _=>False) none (Cf (Ck (c.k+c.m) (1+c.sl+c.st) (c.k * c.sh+42)) c id).ar∧(Cf (Ck (c.k+c.m) (1+c.sl+c.st) (c.k * c.sh+42)) c id).ar.down=false ∧
  Stp (Ck (c.k+c.m) (1+c.sl+c.st) (c.k * c.sh+42)) (Cf (Ck (c.k+c.m) (1+c.sl+c.st) (c.k * c.sh+42)) c id).ar∧Qt (Cf (Ck (c.k+c.m) (1+c.sl+c.st) (c.k * c.sh+42)) c id).ar:=by
 obtain ⟨I,hdn,hlf,hal⟩:=Zb hC h0 h1
 generalize Ck (c.k+c.m) (1+c.sl+c.st) (c.k * c.sh+42)=a at *
 have hs:=Bd hC
 have hcap:=Lc hC
 have hl:=I.len
 have hal':∀ d:Nat,d < a.disks.length→a.alive (d:Int)=true:=fun d hd=>hal d ω
 have hall:=K0 hal'
 have ht:((([]:Txt).length:Nat):Int)≤Aw c:=by
  have h8:=hC.2.2.1.1
  have:=Int.mul_le_mul_of_nonneg_right (show 1≤c.k by omega) (show 0≤c.sh by omega)
  show ((0:Nat):Int)≤_
  omega
 have hsp:=spl0 hC ht
 have hmem:∀ d:Nat,d < a.disks.length→(d:Int)∈Ab a a.disks.length:=fun d hd=>C5.2 ⟨d,rfl,hd,hal' d hd⟩
 let bs:List BlkD:=(Ab a a.disks.length).map (fun d=>hdB id d c) ++ (List.range c.st.toNat).flatMap fun n:Nat=>(Ab a a.disks.length).map (shB id (Au c n) 0 (splR c []).1)
 have hbs:∀ b∈bs,J6 c id gh0 (fun _=>True) none a b∧((∃ d:Nat,b=hdB id d c)∨∃ n d:Nat,(n:Int) < c.st∧b=stB id c n 0 [] d):=by
  intro b hb
  rcases List.mem_append.1 hb with hb|hb
  ·obtain ⟨d,hd,rfl⟩:=List.mem_map.1 hb
   obtain ⟨e,rfl,he,hae⟩:=C5.1 hd
   exact ⟨I.putH he hae,.inl ⟨e,rfl⟩⟩
  ·obtain ⟨n,hn,hb⟩:=List.mem_flatMap.1 hb
   obtain ⟨d,hd,rfl⟩:=List.mem_map.1 hb
   obtain ⟨e,rfl,he,hae⟩:=C5.1 hd
   have hn':(n:Int) < c.st:=by have:=List.mem_range.1 hn;omega
   rw [Hf hC hn']
   exact ⟨I.A3e hn' ⟨Int.le_refl _,by show (0:Int)≤0+1;omega⟩ ν ht (.inl ⟨rfl,rfl⟩) he hae,.inr ⟨n,e,hn',rfl⟩⟩
 have e0:tryR (Gy id c a (Ab a a.disks.length)) (fun a'=>Hv id c (Ab a a.disks.length) a' (List.range c.st.toNat))=puts bs a:=by
  show _=puts ((Ab a a.disks.length).map (fun d=>hdB id d c) ++ (List.range c.st.toNat).flatMap fun n:Nat=>(Ab a a.disks.length).map (shB id (Au c n) 0 (splR c []).1)) a
  rw [Nb,Wr]
  congr 1
  funext a'
  exact Ws hsp _ _
 obtain ⟨I1,S1,k⟩:=I.Wj bs hdn (fun b hb=>(hbs b hb).1)
 rcases k with ⟨k1,k2,k3⟩|⟨_,_,k3⟩
 rotate_left
 ·exact (k3 (by rw [hlf];decide)).elim
 have ev:Cf a c id=⟨(puts bs a).1.flush,some (c,0),0⟩:=by
  unfold Cf
  rw [if_neg (by simp [hC,C7,hl];omega),if_neg (by simp [hdn])]
  simp only
  rw [if_neg ω,e0,Gq k1,(Cp k2).1]
  simp
 rw [ev]
 refine ⟨rfl,rfl,?_,(Cp k2).2,S1.trans (Stp.flush _),Qt.flush k2 I1.dk⟩
 refine (I1.flush).good fun d hd hae=> .inr ?_
 have hd':d < a.disks.length:=by simpa [Wp] using hd
 have uniq:∀ (b b0:BlkD),b∈bs→((∃ d:Nat,b0=hdB id d c)∨∃ n d:Nat,(n:Int) < c.st∧b0=stB id c n 0 [] d)→b.dk=b0.dk→b.pl=b0.pl→b=b0:=by
  intro b b0 hb hb0 hd hp
  rcases (hbs b hb).2 with ⟨e,rfl⟩|⟨n,e,hn,rfl⟩<;>rcases hb0 with ⟨e',rfl⟩|⟨n',e',hn',rfl⟩
  ·have hd:(e:Int)=e':=hd
   rw [hd]
  ·have hp:(0:Int)=(stP c n':Nat):=hp
   unfold stP at hp;omega
  ·have hp:((stP c n:Nat):Int)=0:=hp
   unfold stP at hp;omega
  ·have hd:(e:Int)=e':=hd
   have hp:((stP c n:Nat):Int)=(stP c n':Nat):=hp
   have:e=e':=by omega
   have:n=n':=by unfold stP at hp;omega
   subst_vars
   rfl
 refine ⟨Lst.flush k2 I1.dk (k3 d 0 _ (fun b hb hbp=>uniq b _ hb (.inl ⟨d,rfl⟩) hbp.1 hbp.2) (.inr ⟨List.mem_append.2 (.inl (List.mem_map.2 ⟨_,hmem d hd',rfl⟩)),rfl,rfl⟩)),fun n hn=> ?_⟩
 refine Lst.flush k2 I1.dk (k3 d (stP c n) _ (fun b hb hbp=>uniq b _ hb (.inr ⟨n,d,hn,rfl⟩) hbp.1 hbp.2) (.inr ⟨List.mem_append.2 (.inr (List.mem_flatMap.2 ⟨n,List.mem_range.2 ω,List.mem_map.2 ⟨_,hmem d hd',Hf hC hn d⟩⟩)),rfl,rfl⟩))
theorem Inv.shs {c:Cfg} {id:Int} {g:Gh} {bad:Nat→Prop} {pd:Option Pd} {a:Arr} (I:Inv c id g bad pd a) (hdn:a.down=false) {n:Nat} (hn:(n:Int) < c.st) {e:Int} {t:Txt} (he:0≤e∧e≤g.sq+1) (hs:g.sq+1 < 36028797018963968) (ht:(t.length:Int)≤Aw c)
  (hok:(e=g.ep n∧t=g.tx n)∨∃ P,pd=some P∧P.sh=true∧P.n=n∧e=g.sq+1∧t=P.t) {ds:List Int} (hds:∀ d∈ds,d∈Ab a a.disks.length) :
  Inv c id g bad pd (vshR a id c n e t ds).1∧Stp a (vshR a id c n e t ds).1∧(((vshR a id c n e t ds).2=0∧(vshR a id c n e t ds).1.down=false ∧
   (∀ d:Nat,(d:Int)∈ds→Lst id (vshR a id c n e t ds).1 d (stP c n) (stB id c n e t d))∧(∀ (d p:Nat) b0,¬((d:Int)∈ds∧p=stP c n)→Lst id a d p b0→Lst id (vshR a id c n e t ds).1 d p b0)) ∨
   ((vshR a id c n e t ds).2=9∧(vshR a id c n e t ds).1.down=true∧¬a.left < 0)):=by
 have hC:=I.conf
 have e3:vshR a id c n e t ds=puts (ds.map (shB id (Au c n) e (splR c t).1)) a:=by
  unfold vshR
  rw [if_pos (spl0 hC ht),He]
 rw [e3]
 have hS:∀ b∈ds.map (shB id (Au c n) e (splR c t).1),J6 c id g bad pd a b:=by
  intro b hb
  obtain ⟨d,hd,rfl⟩:=List.mem_map.1 hb
  obtain ⟨f,rfl,hf,hal⟩:=C5.1 (hds d hd)
  rw [Hf hC hn]
  exact I.A3e hn he hs ht hok hf hal
 obtain ⟨I4,S4,k4⟩:=I.Wj _ hdn hS
 refine ⟨I4,S4,?_⟩
 rcases k4 with ⟨k1,k2,k3⟩|k
 rotate_left
 ·exact .inr k
 refine .inl ⟨k1,k2,fun d hd=>k3 d (stP c n) _ (fun b hb hbp=> ?_) (.inr ⟨List.mem_map.2 ⟨_,hd,Hf hC hn d⟩,rfl,rfl⟩),fun d p b0 hne hL=>k3 d p b0 (fun b hb hbp=> ?_) (.inl hL)⟩
 ·obtain ⟨d',hd',rfl⟩:=List.mem_map.1 hb
  have:d'=(d:Int):=hbp.1
  subst this
  exact Hf hC hn d
 ·obtain ⟨d',hd',rfl⟩:=List.mem_map.1 hb
  have h1:d'=(d:Int):=hbp.1
  have h2:Au c n=(p:Int):=hbp.2
  rw [Er hC hn] at h2
  subst h1
  exact (hne ⟨hd',ω⟩).elim
def RegX (c:Cfg) (g:Gh) (pd:Option Pd) (x:IntD):Prop:= ∃ n:Nat,x.st=n∧(n:Int) < c.st∧0≤x.sq∧x.sq < g.sq∧x.sq+1≤g.ep n∧(x.sq+1=g.ep n→x.tx=g.tx n)∧∀ P,pd=some P→P.n≠n
def Dn (id:Int) (c:Cfg) (g:Gh) (P:Pd) (a:Arr):Prop:= ∀ d:Nat,(d:Int)∈Ab a a.disks.length→Lst id a d (stP c P.n) (stB id c P.n (g.sq+1) P.t d)
theorem Stp.good {a b:Arr} {bad:Nat→Prop} (S:Stp a b) (h:∃ d:Nat,d < a.disks.length∧a.alive (d:Int)=true∧¬bad d):∃ d:Nat,d < b.disks.length∧b.alive (d:Int)=true∧¬bad d:=by
 obtain ⟨d,h1,h2,h3⟩:=h
 exact ⟨d,by rw [S.len];exact h1,by rw [S.al];exact h2,h3⟩
theorem Stp.Ab {a b:Arr} (S:Stp a b):Ab b b.disks.length=Ab a a.disks.length:=by rw [S.len,S.alive]
theorem Inv.redo {c:Cfg} {id:Int} {g:Gh} {bad:Nat→Prop} {pd:Option Pd} (hs:g.sq+1 < 36028797018963968) (hsh:∀ P,pd=some P→P.sh=true):∀ (l:List IntD) {a:Arr},Inv c id g bad pd a→a.down=false→(∃ d:Nat,d < a.disks.length∧a.alive (d:Int)=true∧¬bad d) →
  (∀ x∈l,RegX c g pd x∨∃ P,pd=some P∧x=⟨g.sq,P.n,P.t⟩)→(∀ P,pd=some P→Dn id c g P a∨(⟨g.sq,P.n,P.t⟩:IntD)∈l) →
  Inv c id g bad pd (D4 id c (Ab a a.disks.length) a l).1∧Stp a (D4 id c (Ab a a.disks.length) a l).1 ∧
  (((D4 id c (Ab a a.disks.length) a l).2=0∧(D4 id c (Ab a a.disks.length) a l).1.down=false∧∀ P,pd=some P→Dn id c g P (D4 id c (Ab a a.disks.length) a l).1) ∨
   ((D4 id c (Ab a a.disks.length) a l).2=9∧(D4 id c (Ab a a.disks.length) a l).1.down=true∧¬a.left < 0))
 | [],a,I,hdn,_,_,hD=>⟨I,Stp.refl a,.inl ⟨rfl,hdn,fun P hP=>(hD P hP).resolve_right μ⟩⟩
 | x :: l,a,I,hdn,hg,hx,hD=>by
  have hC:=I.conf
  have s0:=I.s0
  have hx':∀ y∈l,RegX c g pd y∨∃ P,pd=some P∧y=⟨g.sq,P.n,P.t⟩:=fun y hy=>hx y (List.mem_cons_of_mem _ hy)
  have key:∃ n:Nat,x.st=n∧(n:Int) < c.st∧0≤x.sq∧x.sq≤g.sq∧((x.tx.length:Int)≤Aw c∨x.sq+1 < maxL (stE a id c n)) ∧
    (((x.sq+1=g.ep n∧x.tx=g.tx n)∨∃ P,pd=some P∧P.sh=true∧P.n=n∧x.sq+1=g.sq+1∧x.tx=P.t)∨x.sq+1 < maxL (stE a id c n)):=by
   rcases hx x (List.mem_cons_self ..) with ⟨n,h1,h2,h3,h4,h5,h6,h7⟩|⟨P,h1,h2⟩
   ·refine ⟨n,h1,h2,h3,ω,?_⟩
    obtain ⟨m1,m2⟩:=I.maxE hdn h2 hg
    have hge:=I.ge n h2
    by_cases hq:x.sq+1=g.ep n
    ·exact ⟨.inl (by rw [h6 hq];exact hge.2.2),.inl (.inl ⟨hq,h6 hq⟩)⟩
    ·exact ⟨.inr ω,.inr ω⟩
   ·have hp:=I.pn P h1
    subst h2
    exact ⟨P.n,rfl,hp.1,s0,Int.le_refl _,.inl hp.2,.inl (.inr ⟨P,h1,hsh P h1,rfl,rfl,rfl⟩)⟩
  obtain ⟨n,k1,k2,k3,k4,k5,k6⟩:=key
  have pend:∀ P,pd=some P→(⟨g.sq,P.n,P.t⟩:IntD)∈l∨Dn id c g P a∨x=⟨g.sq,P.n,P.t⟩:=fun P hP=>by
   rcases hD P hP with h|h
   ·exact .inr (.inl h)
   ·rcases List.mem_cons.1 h with h|h
    ·exact .inr (.inr h.symm)
    ·exact .inl h
  rw [D4]
  by_cases hskip:x.sq+1 < maxL (stE a id c x.st)∨ofN (stE a id c x.st) (x.sq+1)=(Ab a a.disks.length).length
  ·rw [if_pos hskip]
   refine Inv.redo hs hsh l I hdn hg hx' fun P hP=> ?_
   rcases pend P hP with h|h|h
   ·exact .inr h
   ·exact .inl h
   ·left
    subst h
    have hpn:=I.pn P hP
    obtain ⟨m1,m2⟩:=I.maxE hdn hpn.1 hg
    have hge:=I.ge P.n hpn.1
    have hsk:ofN (stE a id c (P.n:Int)) (g.sq+1)=(Ab a a.disks.length).length:=by
     rcases hskip with h|h
     ·have h:g.sq+1 < maxL (stE a id c (P.n:Int)):=h
      omega
     ·exact h
    have himp:∀ d < a.disks.length,(Cz a id c (P.n:Int) (d:Int)).2=g.sq+1→a.alive (d:Int)=true:=fun d hd h=>by
     rcases I.st1p hdn hpn.1 hd with ⟨_,h1⟩|⟨h1,_⟩|⟨_,_,_,_,_,_,h1⟩
     ·exact h1
     ·rw [h1] at h;have h:(-1:Int)=g.sq+1:=h;omega
     ·exact h1
    intro d hd
    obtain ⟨d',hdd,hdl,hal⟩:=C5.1 hd
    have:d'=d:=by omega
    subst this
    have hall:(Cz a id c (P.n:Int) (d':Int)).2=g.sq+1:=by
     rw [Uq,Dw] at hsk
     have hle:∀ l:List Nat,(∀ d∈l,d < a.disks.length)→l.countP (fun d:Nat=>decide ((Cz a id c (P.n:Int) d).2=g.sq+1))≤l.countP (fun d:Nat=>a.alive (d:Int)) ∧
       (l.countP (fun d:Nat=>decide ((Cz a id c (P.n:Int) d).2=g.sq+1))=l.countP (fun d:Nat=>a.alive (d:Int))→∀ d∈l,a.alive (d:Int)=true→(Cz a id c (P.n:Int) d).2=g.sq+1):=by
      intro l
      induction l with
      | nil=>intro _;exact ⟨Nat.le_refl _,fun _ d hd=>by simp at hd⟩
      | cons e l ih =>
       intro hl
       obtain ⟨i1,i2⟩:=ih fun d hd=>hl d (List.mem_cons_of_mem _ hd)
       have hi:=himp e (hl e (List.mem_cons_self ..))
       simp only [List.countP_cons]
       by_cases h1:(Cz a id c (P.n:Int) (e:Int)).2=g.sq+1
       ·have h2:=hi h1
        simp only [h1,h2,decide_true,if_true]
        refine ⟨ω,fun h d hd hal=> ?_⟩
        rcases List.mem_cons.1 hd with rfl|hd
        ·exact h1
        ·exact i2 ω d hd hal
       ·simp only [h1,decide_false]
        by_cases h2:a.alive (e:Int)=true
        ·simp only [h2,if_true]
         refine ⟨by simp;omega,fun h=> ?_⟩
         simp at h
         omega
        ·have h2':a.alive (e:Int)=false:=by simpa using h2
         simp only [h2']
         refine ⟨by simpa using i1,fun h d hd hal=> ?_⟩
         rcases List.mem_cons.1 hd with rfl|hd
         ·rw [h2'] at hal;cases hal
         ·exact i2 (by simpa using h) d hd hal
     exact (hle (List.range a.disks.length) fun d hd=>List.mem_range.1 hd).2 hsk d' (List.mem_range.2 hdl) hal
    rcases I.st1p hdn hpn.1 hdl with ⟨h1,_⟩|⟨h1,_⟩|⟨P',q1,q2,q3,q4,_,_⟩
    ·rw [h1] at hall;have hall:g.ep P.n=g.sq+1:=hall;omega
    ·rw [h1] at hall;have hall:(-1:Int)=g.sq+1:=hall;omega
    ·rw [hP] at q1;cases q1
     exact q4
  ·rw [if_neg hskip]
   have hk6:¬x.sq+1 < maxL (stE a id c n):=fun h=>hskip (.inl (by rw [k1];exact h))
   have ht:=k5.resolve_right hk6
   have hok:=k6.resolve_right hk6
   obtain ⟨I1,S1,j⟩:=I.shs hdn k2 (e:=x.sq+1) (t:=x.tx) ω hs ht hok (ds:=Ab a a.disks.length) fun d hd=>hd
   simp only [k1]
   rcases j with ⟨j1,j2,j3,j4⟩|⟨j1,j2,j3⟩
   ·rw [if_pos j1]
    have hA:=S1.Ab
    obtain ⟨I2,S2,w⟩:=Inv.redo hs hsh l I1 j2 (S1.good hg) hx' fun P hP=>by
     rcases pend P hP with h|h|h
     ·exact .inr h
     ·left
      intro d hd
      rw [hA] at hd
      by_cases hpn:P.n=n
      ·
       have:=j3 d hd
       rcases hx x (List.mem_cons_self ..) with ⟨n',h1,_,_,_,_,_,h7⟩|⟨P',h1,h2⟩
       ·exact (h7 P hP ω).elim
       ·rw [hP] at h1;cases h1
        subst h2
        rw [hpn]
        exact this
      ·exact j4 d _ _ (fun ⟨_,h2⟩=>hpn (by unfold stP at h2;omega)) (h d hd)
     ·left
      intro d hd
      rw [hA] at hd
      subst h
      have:n=P.n:=by have k1:((P.n:Nat):Int)=(n:Int):=k1;omega
      subst this
      exact j3 d hd
    rw [hA] at I2 S2 w
    refine ⟨I2,S1.trans S2,?_⟩
    rcases w with w|⟨w1,w2,w3⟩
    ·exact .inl w
    ·exact .inr ⟨w1,w2,fun h=>w3 (S1.neg h)⟩
   ·rw [if_neg (by rw [j1];decide)]
    exact ⟨I1,S1,.inr ⟨j1,j2,j3⟩⟩
theorem Qt.vers {a:Arr} (Q:Qt a) {d:Nat} {x:Dsk} (hx:a.disks[d]? = some x) {p:Nat} {s:Txt} (hp:p < x.secs.length) (h:x.vers p s):s=x.at_ p:=by
 have hw:=Q x (List.mem_of_getElem? hx)
 unfold Dsk.at_
 rw [hw]
 rcases h with h|h
 ·simp [E9,h]
 ·rw [hw] at h;simp at h
theorem A1q {a:Arr} {id:Int} {c:Cfg} {B:Int} : ∀ (n:Nat) {s:Int},s≤B→(∀ k:Nat,k < n→maxL (stE a id c (k:Int))≤B)→seqR a id c n s≤B
 | 0,s,h,_=>h
 | n+1,s,h,hk=>by
  rw [seqR]
  have h1:=A1q n h fun k hk'=>hk k ω
  have h2:=hk n ω
  omega
theorem A1r {a:Arr} {id:Int} {c:Cfg} : ∀ (n:Nat) (s:Int),s≤seqR a id c n s∧∀ k:Nat,k < n→maxL (stE a id c (k:Int))≤seqR a id c n s
 | 0,s=>⟨Int.le_refl _,fun k hk=>by omega⟩
 | n+1,s=>by
  obtain ⟨h1,h2⟩:=A1r (a:=a) (id:=id) (c:=c) n s
  rw [seqR]
  refine ⟨ω,fun k hk=> ?_⟩
  by_cases h:k=n
  ·subst h;omega
  ·have:=h2 k ω;omega
theorem Zc {l:List IntD} {B:Int} (hB:0≤B) (h:∀ x∈l,x.sq < B):Cj l≤B:=by
 unfold Cj
 split
 ·exact hB
 ·rename_i h0
  obtain ⟨x,hx,e⟩:=List.mem_map.1 (N8 (l:=l.map (·.sq)) (by simpa using h0))
  have:=h x hx
  rw [←e]
  omega
theorem Ae2 {l:List IntD} {x:IntD} (h:x∈l):x.sq+1≤Cj l:=by
 unfold Cj
 rw [if_neg (List.ne_nil_of_mem h)]
 have:=A1p (List.mem_map.2 ⟨x,h,rfl⟩:x.sq∈l.map (·.sq))
 omega
theorem Inv.A3m {c:Cfg} {id:Int} {g:Gh} {bad:Nat→Prop} {pd:Option Pd} {a:Arr} (I:Inv c id g bad pd a) (hdn:a.down=false) (Q:Qt a) (hg:∃ d:Nat,d < a.disks.length∧a.alive (d:Int)=true∧¬bad d) (hs:g.sq+1 < 36028797018963968) :
  Stp a (Bc a id).ar ∧
  (((Bc a id).er=0∧(Bc a id).ar.down=false∧Qt (Bc a id).ar ∧
   ((((Bc a id).vo=some (c,g.sq))∧Inv c id g bad none (Bc a id).ar)∨∃ P,pd=some P∧(Bc a id).vo=some (c,g.sq+1)∧Inv c id (g.upd P.n P.t) bad none (Bc a id).ar)) ∨
   ((Bc a id).er=9∧(Bc a id).vo=none∧(Bc a id).ar.down=true∧¬a.left < 0∧(Inv c id g bad none (Bc a id).ar∨∃ P b,pd=some P∧Inv c id g bad (some ⟨P.n,P.t,b⟩) (Bc a id).ar))):=by
 have hC:=I.conf
 have h1:=Bd hC
 have s0:=I.s0
 obtain ⟨nt,ntl,ntt⟩:=I.top
 have hhd:=I.head hdn hg
 have ev:Bc a id=(if (tryR (D4 id c (Ab a a.disks.length) a (C4 a id c)) Bv).2=0 then ⟨(tryR (D4 id c (Ab a a.disks.length) a (C4 a id c)) Bv).1,some (c,seqR a id c c.st.toNat (Cj (C4 a id c))),0⟩
   else ⟨(tryR (D4 id c (Ab a a.disks.length) a (C4 a id c)) Bv).1,none,(tryR (D4 id c (Ab a a.disks.length) a (C4 a id c)) Bv).2⟩):=by
  unfold Bc
  rw [if_neg (by simp [hdn]),hhd]
 rw [ev]
 clear ev
 have hacc:=A3j I hdn
 obtain ⟨n1,n2,n3⟩:=Z9 (Dz a id c (Ab a (c.m+1).toNat))
 have hnw:C4 a id c=G6 (Dz a id c (Ab a (c.m+1).toNat)):=rfl
 rw [hnw]
 generalize hnw':G6 (Dz a id c (Ab a (c.m+1).toNat))=nw at *
 by_cases hpen:∃ P,pd=some P∧(⟨g.sq,P.n,P.t⟩:IntD)∈Dz a id c (Ab a (c.m+1).toNat)
 ·
  obtain ⟨P,hP,hin⟩:=hpen
  subst hP
  obtain ⟨Pn,Pt,Pb⟩:=P
  have hpn:=I.pn _ rfl
  simp only at hpn hin
  have hjr:∃ d:Nat,(d:Int)≤c.m∧AllJ id c g ⟨Pn,Pt,true⟩ a d:=by
   unfold Dz at hin
   rw [List.mem_flatten] at hin
   obtain ⟨l,hl,hi⟩:=hin
   obtain ⟨dd,hd,rfl⟩:=List.mem_map.1 hl
   obtain ⟨d,rfl,hdm,hal⟩:=C5.1 hd
   obtain ⟨x,hx,hgo⟩:=Arr.Dm.1 hal
   have hG:=I.dk x (List.mem_of_getElem? hx)
   have hsc:=hG.secs
   unfold Dq Jz at hi
   rw [List.mem_flatten] at hi
   obtain ⟨l,hl,hi⟩:=hi
   obtain ⟨k,hk,rfl⟩:=List.mem_map.1 hl
   have hk:=List.mem_range.1 hk
   rw [Lk] at hk
   have hp:k+1 < x.secs.length:=by omega
   unfold Kx at hi
   rw [Ur I hdn hx hgo hp,show (k:Int)+1=((k+1:Nat):Int) by push_cast;rfl] at hi
   simp only [Option.getD_some] at hi
   split at hi
   ·rename_i hc
    obtain ⟨q1,q2,q3,q4⟩:=hc
    have hi:=List.mem_singleton.1 hi
    rw [←hi] at q3
    have hsl:=Wm hC g.sq
    have hkp:k+1=slP c g.sq:=by
     have q3:1+g.sq % c.sl=((k+1:Nat):Int):=q3
     omega
    rw [hkp] at q1 q2 hi hp
    refine ⟨d,ω,x,hx,hgo,hp,fun s hsv=> ?_⟩
    have:=Q.vers hx hp hsv
    subst this
    refine ⟨q1,?_⟩
    show Dd _=_
    rw [show (⟨g.sq,(⟨Pn,Pt,true⟩:Pd).n,(⟨Pn,Pt,true⟩:Pd).t⟩:IntD)=⟨g.sq,Pn,Pt⟩ from rfl,hi]
    exact Prod.ext rfl q2
   ·simp at hi
  have I1:=I.A1m hjr
  have hmem:(⟨g.sq,Pn,Pt⟩:IntD)∈nw:=by
   obtain ⟨y,hy,y1,y2⟩:=n3 _ hin
   have y1:y.st=(Pn:Int):=y1
   have y2:g.sq≤y.sq:=y2
   rcases hacc y (n2 y hy) with ⟨n,_,_,_,h4,_⟩|⟨P',q1,q2⟩
   ·omega
   ·cases q1
    subst q2
    exact hy
  have hreg:∀ x∈nw,RegX c g (some ⟨Pn,Pt,true⟩) x∨∃ P,some (⟨Pn,Pt,true⟩:Pd)=some P∧x=⟨g.sq,P.n,P.t⟩:=by
   intro x hx
   rcases hacc x (n2 x hx) with ⟨n,q1,q2,q3,q4,q5,q6⟩|⟨P',q1,q2⟩
   ·refine .inl ⟨n,q1,q2,q3,q4,q5,q6,fun P' hP' hn'=> ?_⟩
    cases hP'
    have:=n1.nodup.inj hx hmem (by rw [q1];show (n:Int)=(Pn:Int);have hn':Pn=n:=hn';omega)
    rw [this] at q4
    have q4:g.sq < g.sq:=q4
    omega
   ·cases q1
    exact .inr ⟨_,rfl,q2⟩
  obtain ⟨I2,S2,w⟩:=Inv.redo (pd:=some ⟨Pn,Pt,true⟩) hs (fun P hP=>by cases hP;rfl) nw I1 hdn hg hreg fun P hP=>by cases hP;exact .inr hmem
  have hsq:seqR a id c c.st.toNat (Cj nw)=g.sq+1:=by
   have g1:=(A1r (a:=a) (id:=id) (c:=c) c.st.toNat (Cj nw)).1
   have g2:g.sq+1≤Cj nw:=Ae2 hmem
   have g3:seqR a id c c.st.toNat (Cj nw)≤g.sq+1:=by
    refine A1q _ (Zc ω fun x hx=> ?_) fun k hk=> ?_
    ·rcases hreg x hx with ⟨n,_,_,_,h,_⟩|⟨P',_,h⟩
     ·omega
     ·rw [h];show g.sq < g.sq+1;omega
    ·have hk':(k:Int) < c.st:=by omega
     have:=I.ge k hk'
     rcases (I.maxE hdn hk' hg).2 with h|⟨h,_⟩<;>omega
   omega
  rw [hsq]
  generalize D4 id c (Ab a a.disks.length) a nw=r at *
  obtain ⟨r1,r2⟩:=r
  simp only at I2 S2 w
  rcases w with ⟨rfl,w2,w3⟩|⟨rfl,w2,w3⟩
  ·rw [Gq (p:=(r1,0)) rfl,(Cp w2).1]
   simp only [if_true]
   refine ⟨S2.trans (Stp.flush _),.inl ⟨trivial,(Cp w2).2,Qt.flush w2 I2.dk,.inr ⟨⟨Pn,Pt,Pb⟩,rfl,trivial,?_⟩⟩⟩
   refine (I2.flush).done hs fun d hd hal=>Lst.flush w2 I2.dk (w3 _ rfl d ?_)
   have S3:=Stp.flush r1
   exact C5.2 ⟨d,rfl,by rw [←S3.len];exact hd,by rw [←S3.al];exact hal⟩
  ·rw [Jw (p:=(r1,9)) μ]
   simp only [show ¬(9:Int)=0 by decide,if_false]
   exact ⟨S2,.inr ⟨trivial,trivial,w2,w3,.inr ⟨⟨Pn,Pt,Pb⟩,true,rfl,I2⟩⟩⟩
 ·
  have hacc0:∀ i∈Dz a id c (Ab a (c.m+1).toNat),Acc c g none i:=fun i hi=>by
   rcases hacc i hi with h|⟨P,h1,h2⟩
   ·exact .inl h
   ·exact (hpen ⟨P,h1,by rw [←h2];exact hi⟩).elim
  have hnsh:∀ P,pd=some P→P.sh=true→False:=fun P h1 h2=>by
   obtain ⟨d,hd,hj⟩:=I.jr P h1 h2
   exact hpen ⟨P,h1,Ae0 I hdn (I.pn P h1).1 hd hj⟩
  have I1:Inv c id g bad none a:=by
   refine I.repd (fun d x hx hgo p s hps hv k=>⟨k.1,fun m hm hp=> ?_,fun j hj hp hd i h1 h2 h5 h6=> ?_⟩) (fun P h1=>by cases h1) (fun P h1=>by cases h1) I.s0 I.s1 I.ge I.top
   ·rcases k.2.1 m hm hp with h|h|⟨P,h,h2,h3,h4⟩
    ·exact .inl h
    ·exact .inr (.inl h)
    ·exact (hnsh P h h2).elim
   ·have:=Q.vers hx hps hv
    subst this
    refine hacc0 i ?_
    have hG:=I.dk x (List.mem_of_getElem? hx)
    have hsc:=hG.secs
    have hp':p=j+1:=by omega
    unfold Dz
    rw [List.mem_flatten]
    refine ⟨_,List.mem_map.2 ⟨(d:Int),C5.2 ⟨d,rfl,ω,Arr.Dm.2 ⟨x,hx,hgo⟩⟩,rfl⟩,?_⟩
    unfold Dq Jz
    rw [List.mem_flatten]
    refine ⟨_,List.mem_map.2 ⟨j,List.mem_range.2 (by rw [Lk];omega),rfl⟩,?_⟩
    unfold Kx
    rw [←hp',Ur I hdn hx hgo hps]
    simp only [Option.getD_some]
    have hj2:((j:Nat):Int)+1=(p:Nat):=by omega
    rw [hj2,h2]
    rw [if_pos ⟨h1,rfl,h5,h6⟩]
    exact List.mem_singleton.2 rfl
  have hreg:∀ x∈nw,RegX c g none x∨∃ P,(none:Option Pd)=some P∧x=⟨g.sq,P.n,P.t⟩:=by
   intro x hx
   rcases hacc0 x (n2 x hx) with ⟨n,q1,q2,q3,q4,q5,q6⟩|⟨P',q1,q2⟩
   ·exact .inl ⟨n,q1,q2,q3,q4,q5,q6,fun P' hP'=>by cases hP'⟩
   ·cases q1
  obtain ⟨I2,S2,w⟩:=Inv.redo (pd:=none) hs (fun P hP=>by cases hP) nw I1 hdn hg hreg fun P hP=>by cases hP
  have hsq:seqR a id c c.st.toNat (Cj nw)=g.sq:=by
   have g1:=(A1r (a:=a) (id:=id) (c:=c) c.st.toNat (Cj nw)).2 nt ω
   have g2:=(I1.maxE hdn ntl hg).1
   have g3:seqR a id c c.st.toNat (Cj nw)≤g.sq:=by
    refine A1q _ (Zc ω fun x hx=> ?_) fun k hk=> ?_
    ·rcases hreg x hx with ⟨n,_,_,_,h,_⟩|⟨P',h,_⟩
     ·omega
     ·cases h
    ·have hk':(k:Int) < c.st:=by omega
     have:=I.ge k hk'
     rcases (I1.maxE hdn hk' hg).2 with h|⟨_,P',h,_⟩
     ·omega
     ·cases h
   omega
  rw [hsq]
  generalize D4 id c (Ab a a.disks.length) a nw=r at *
  obtain ⟨r1,r2⟩:=r
  simp only at I2 S2 w
  rcases w with ⟨rfl,w2,w3⟩|⟨rfl,w2,w3⟩
  ·rw [Gq (p:=(r1,0)) rfl,(Cp w2).1]
   simp only [if_true]
   exact ⟨S2.trans (Stp.flush _),.inl ⟨trivial,(Cp w2).2,Qt.flush w2 I2.dk,.inl ⟨trivial,I2.flush⟩⟩⟩
  ·rw [Jw (p:=(r1,9)) μ]
   simp only [show ¬(9:Int)=0 by decide,if_false]
   exact ⟨S2,.inr ⟨trivial,trivial,w2,w3,.inl I2⟩⟩
theorem Lst.Ae3 {c:Cfg} {id:Int} {a:Arr} (hdn:a.down=false) (hdk:∀ x∈a.disks,DskG c x) {d p:Nat} {b:BlkD} (h:Lst id a d p b):Lst id a.flush d p b:=by
 obtain ⟨x,h1,h2,h3,h4⟩:=Lst.flush hdn hdk h
 exact ⟨x,h1,h2,h3,h4 _ (Dsk.Kt h3)⟩
theorem Inv.A8n {c:Cfg} {id:Int} {g:Gh} {bad:Nat→Prop} {a:Arr} (I:Inv c id g bad none a) (hdn:a.down=false) {n:Nat} (hn:(n:Int) < c.st) (hk:c.k≤ofN (stE a id c n) (g.ep n)) (hs:g.sq+1 < 36028797018963968) (hlf:a.left < 0) :
  (Bj a id c n).2.2=0∧Inv c id g bad none (Bj a id c n).1∧Stp a (Bj a id c n).1∧(Bj a id c n).1.down=false∧Qt (Bj a id c n).1 ∧
  (Bj a id c n).2.1=((Gt a (ofH (stE a id c n) (g.ep n))).length:Int) ∧
  (∀ d:Nat,(d:Int)∈Ab a a.disks.length→Lst id (Bj a id c n).1 d (stP c n) (stB id c n (g.ep n) (g.tx n) d)) ∧
  (∀ (d p:Nat) b0,p≠stP c n→Lst id a d p b0→Lst id (Bj a id c n).1 d p b0):=by
 have hC:=I.conf
 have hge:=I.ge n hn
 have hr:=I.A3h hdn hn
 have hl:=I.look hdn hn
 rw [if_pos hk] at hr hl
 unfold Gc at hr
 rw [hl] at hr
 simp only [if_true] at hr
 obtain ⟨I1,S1,w⟩:=I.shs hdn hn (e:=g.ep n) (t:=g.tx n) ω hs hge.2.2 (.inl ⟨rfl,rfl⟩) (ds:=Gt a (ofH (stE a id c n) (g.ep n))) fun d hd=>(List.mem_filter.1 hd).1
 unfold Bj
 rw [hl]
 simp only
 rw [if_neg μ,hr]
 simp only
 rw [if_neg μ]
 rcases w with ⟨w1,w2,w3,w4⟩|⟨_,_,w3⟩
 rotate_left
 ·exact (w3 hlf).elim
 rw [Gq w1,(Cp w2).1]
 simp only [if_true]
 refine ⟨trivial,I1.flush,S1.trans (Stp.flush _),(Cp w2).2,Qt.flush w2 I1.dk,trivial,fun d hd=>Lst.Ae3 w2 I1.dk ?_,fun d p b0 hp hL=>Lst.Ae3 w2 I1.dk (w4 d p b0 (fun h=>hp h.2) hL)⟩
 by_cases hm:(d:Int)∈Gt a (ofH (stE a id c n) (g.ep n))
 ·exact w3 d hm
 ·refine w4 d _ _ (fun h=>hm h.1) ?_
  obtain ⟨d',hdd,hdl,hal⟩:=C5.1 hd
  have:d'=d:=by omega
  subst this
  rcases I.st1 hdn hn hdl with ⟨h,_⟩|⟨h,_⟩
  ·exact h
  ·refine (hm ?_).elim
   unfold Gt
   refine List.mem_filter.2 ⟨hd,?_⟩
   have:(ofH (stE a id c n) (g.ep n))[d']? = some false:=by
    unfold ofH
    rw [Ld,List.getElem?_map,List.getElem?_map,List.getElem?_range hdl]
    simp [h]
    omega
   simp [this]
theorem Pg {c:Cfg} {id:Int} {g:Gh} {bad:Nat→Prop} : ∀ (ds:List Int) {a:Arr} (m:Int),Inv c id g bad none a→a.down=false→a.left < 0→(∀ d∈ds,d∈Ab a a.disks.length) →
  Inv c id g bad none (Cg id c a m ds).1∧Stp a (Cg id c a m ds).1∧(Cg id c a m ds).2.2=0∧(Cg id c a m ds).1.down=false ∧
  (∀ d:Nat,(d:Int)∈ds→Lst id (Cg id c a m ds).1 d 0 (hdB id d c))∧(∀ (d p:Nat) b0,(p≠0∨b0=hdB id d c)→Lst id a d p b0→Lst id (Cg id c a m ds).1 d p b0)
 | [],a,m,I,hdn,_,_=>⟨I,Stp.refl a,rfl,hdn,fun d hd=>by simp at hd,fun _ _ _ _ h=>h⟩
 | d :: ds,a,m,I,hdn,hlf,hds=>by
  have hds':∀ e∈ds,e∈Ab a a.disks.length:=fun e he=>hds e (List.mem_cons_of_mem _ he)
  obtain ⟨e,rfl,hel,hal⟩:=C5.1 (hds d (List.mem_cons_self ..))
  have h1:=I.hd1 hdn hal
  rw [Cg]
  by_cases hh:isHd a id (e:Int) c
  ·rw [if_pos hh]
   have hL:Lst id a e 0 (hdB id e c):=by
    rcases h1 with ⟨h,_⟩|⟨_,h⟩
    ·exact h
    ·have:=hh.1;rw [h] at this;cases this
   obtain ⟨i1,i2,i3,i4,i5,i6⟩:=Pg ds m I hdn hlf hds'
   refine ⟨i1,i2,i3,i4,fun d hd=> ?_,i6⟩
   rcases List.mem_cons.1 hd with hd|hd
   ·have:d=e:=by omega
    subst this
    exact i6 _ _ _ (.inr rfl) hL
   ·exact i5 d hd
  ·rw [if_neg hh]
   obtain ⟨I1,S1,w⟩:=I.put hdn (I.putH hel hal)
   rcases w with ⟨w1,w2,w3,w4⟩|⟨_,_,w3⟩
   rotate_left
   ·exact (w3 hlf).elim
   rw [if_pos w1]
   have hL:Lst id (vput a (hdB id e c)) e 0 (hdB id e c):=w3 e 0 rfl rfl
   obtain ⟨i1,i2,i3,i4,i5,i6⟩:=Pg ds (m+1) I1 w2 (S1.neg hlf) fun d hd=>by rw [S1.Ab];exact hds' d hd
   refine ⟨i1,S1.trans i2,i3,i4,fun d hd=> ?_,fun d p b0 hp hb=> ?_⟩
   ·rcases List.mem_cons.1 hd with hd|hd
    ·have:d=e:=by omega
     subst this
     exact i6 _ _ _ (.inr rfl) hL
    ·exact i5 d hd
   ·refine i6 d p b0 hp ?_
    by_cases he:(hdB id e c).dk=d∧(hdB id e c).pl=p
    ·have h2:(e:Int)=d:=he.1
     have h3:(0:Int)=p:=he.2
     have:e=d:=by omega
     have:p=0:=by omega
     subst_vars
     rcases hp with hp|hp
     ·exact (hp rfl).elim
     ·rw [hp];exact hL
    ·exact w4 d p b0 he hb
theorem Inv.Ae4 {c:Cfg} {id:Int} {g:Gh} {bad:Nat→Prop} {a:Arr} (I:Inv c id g bad none a) (hdn:a.down=false) (hlf:a.left < 0) :
  (B9 a id c).2.2=0∧Inv c id g bad none (B9 a id c).1∧Stp a (B9 a id c).1∧(B9 a id c).1.down=false∧Qt (B9 a id c).1 ∧
  (∀ d:Nat,(d:Int)∈Ab a a.disks.length→AllV id (B9 a id c).1 d 0 (hdB id d c))∧(∀ (d p:Nat) b0,p≠0→Lst id a d p b0→AllV id (B9 a id c).1 d p b0):=by
 obtain ⟨i1,i2,i3,i4,i5,i6⟩:=Pg (Ab a a.disks.length) 0 I hdn hlf fun d hd=>hd
 have hpw:(Cg id c a 0 (Ab a a.disks.length)).1.Kv=0:=by unfold Arr.Kv;simp [i4]
 unfold B9
 rw [if_neg (by simp [hdn])]
 simp only
 rw [if_pos i3,if_pos hpw]
 exact ⟨rfl,i1.flush,i2.trans (Stp.flush _),(Cp i4).2,Qt.flush i4 i1.dk,fun d hd=>Lst.flush i4 i1.dk (i5 d hd),fun d p b0 hp hL=>Lst.flush i4 i1.dk (i6 d p b0 (.inl hp) hL)⟩
theorem Zd (a:Arr) (d:Nat):a.on? (d:Int)=a.disks[d]? := by unfold Arr.on?;simp
theorem Inv.dmg {c:Cfg} {id:Int} {g:Gh} {bad bad':Nat→Prop} {a:Arr} (I:Inv c id g bad none a) (hb:∀ d,bad d→bad' d) {d:Nat} {x y:Dsk} (hx:a.disks[d]? = some x) (hG:DskG c x→DskG c y)
  (hv:y.gone=false→bad' d∧∀ p s,y.vers p s→(∀ id p:Int,(Cm s id d p).2≠0)∨(x.gone=false∧x.vers p s)) (hl:y.secs.length=x.secs.length) {b:Arr} (hbd:b.disks=a.disks.set d y):Inv c id g bad' none b:=by
 have hd:d < a.disks.length:=(List.getElem?_eq_some_iff.1 hx).1
 have get:∀ e,b.disks[e]? = if d=e then some y else a.disks[e]? := fun e=>by
  rw [hbd,List.getElem?_set]
  by_cases h:d=e
  ·subst h;simp [hd]
  ·simp [h]
 have mono:∀ e p s,SecP c id g bad none e p s→SecP c id g bad' none e p s:=fun e p s k=>by
  refine ⟨fun hp=>(k.1 hp).imp_right fun ⟨h1,h2⟩=>⟨hb _ h1,h2⟩,fun m hm hp=> ?_,k.2.2⟩
  rcases k.2.1 m hm hp with h1|⟨h1,h2⟩|h1
  ·exact .inl h1
  ·exact .inr (.inl ⟨hb _ h1,h2⟩)
  ·exact .inr (.inr h1)
 refine ⟨I.conf,I.id0,I.id1,by rw [hbd,List.length_set];exact I.len,fun z hz=> ?_,fun e z hz hg p s hp hvs=> ?_,fun P h1=>(by cases h1),fun P h1=>(by cases h1),I.s0,I.s1,I.ge,I.top⟩
 ·rw [hbd] at hz
  rcases List.mem_or_eq_of_mem_set hz with hz|rfl
  ·exact I.dk z hz
  ·exact hG (I.dk x (List.mem_of_getElem? hx))
 ·rw [get] at hz
  by_cases he:d=e
  ·subst he
   rw [if_pos rfl] at hz;cases hz
   obtain ⟨hbd',hv⟩:=hv hg
   rcases hv p s hvs with h|⟨h1,h2⟩
   ·exact ⟨fun _=> .inr ⟨hbd',h _ _⟩,fun m _ _=> .inr (.inl ⟨hbd',h _ _⟩),fun k _ _ _ i h0=>(h _ _ h0).elim⟩
   ·exact mono d p s (I.v d x hx h1 p s (by rw [←hl];exact hp) h2)
  ·rw [if_neg he] at hz
   exact mono e p s (I.v e z hz hg p s hp hvs)
theorem Tb {a b:Arr} {d:Nat} {y:Dsk} (hd:d < a.disks.length) (hb:b.disks=a.disks.set d y) (e:Nat):b.alive (e:Int)=if e=d then !y.gone else a.alive (e:Int):=by
 unfold Arr.alive
 rw [Zd,Zd,hb,List.getElem?_set]
 by_cases h:d=e
 ·subst h;simp [hd]
 ·have:¬e=d:=fun h'=>h h'.symm
  simp [h,this]
structure Dmg (a b:Arr) (d:Nat) (up:Bool):Prop where
 len:b.disks.length=a.disks.length
 dn:b.down=a.down
 lf:b.left=a.left
 qt:Qt a→Qt b
 al:∀ e:Nat,b.alive (e:Int)=if e=d then up else a.alive (e:Int)
theorem Inv.fail {c:Cfg} {id:Int} {g:Gh} {bad bad':Nat→Prop} {a:Arr} (I:Inv c id g bad none a) (hb:∀ d,bad d→bad' d) {d:Nat} (hd:d < a.disks.length):Inv c id g bad' none (a.fail (d:Int)).1∧Dmg a (a.fail (d:Int)).1 d false:=by
 have hx:a.disks[d]? = some a.disks[d]:=List.getElem?_eq_getElem hd
 have e:(a.fail (d:Int)).1=a.set (d:Int) a.disks[d].fail:=by unfold Arr.fail Arr.does;rw [Zd,hx]
 have hs:(a.set (d:Int) a.disks[d].fail).disks=a.disks.set d a.disks[d].fail:=by simp [Arr.set]
 rw [e]
 refine ⟨I.dmg hb hx (y:=a.disks[d].fail) (fun G=>⟨G.secs,G.size,fun w hw=>by simp [Dsk.fail] at hw,fun _=>rfl⟩) (fun h=>by cases h) rfl hs,by rw [hs,List.length_set],rfl,rfl,fun q z hz=> ?_,fun f=>Tb hd hs f⟩
 rw [hs] at hz
 rcases List.mem_or_eq_of_mem_set hz with hz|rfl
 ·exact q z hz
 ·rfl
theorem Inv.replace {c:Cfg} {id:Int} {g:Gh} {bad:Nat→Prop} {a:Arr} (I:Inv c id g bad none a) {d:Nat} (hd:d < a.disks.length) (hb:bad d):Inv c id g bad none (a.replace (d:Int)).1∧Dmg a (a.replace (d:Int)).1 d true:=by
 have hx:a.disks[d]? = some a.disks[d]:=List.getElem?_eq_getElem hd
 have e:(a.replace (d:Int)).1=a.set (d:Int) a.disks[d].replace:=by unfold Arr.replace Arr.does;rw [Zd,hx]
 have hs:(a.set (d:Int) a.disks[d].replace).disks=a.disks.set d a.disks[d].replace:=by simp [Arr.set]
 rw [e]
 refine ⟨I.dmg (fun _ h=>h) hx (y:=a.disks[d].replace) (fun G=>⟨by simp [Dsk.replace];exact G.secs,G.size,fun w hw=>by simp [Dsk.replace] at hw,fun _=>rfl⟩) (fun _=>⟨hb,fun p s hv=> .inl ?_⟩) (by simp [Dsk.replace]) hs,by rw [hs,List.length_set],rfl,rfl,fun q z hz=> ?_,fun f=>Tb hd hs f⟩
 ·have:s=[]:=by
   rcases hv with h|h
   ·simp [Dsk.replace,List.getElem?_replicate] at h
    exact h.2
   ·simp [Dsk.replace] at h
  subst this
  exact fun _ _=>Pf _ _ _
 ·rw [hs] at hz
  rcases List.mem_or_eq_of_mem_set hz with hz|rfl
  ·exact q z hz
  ·rfl
theorem A3n {s:Txt} (h:(Dy s).2≠0) (id d p:Int):(Cm s id d p).2≠0:=by
 unfold Cm
 rw [if_neg (fun h'=>h h'.1),if_neg h]
 exact h
theorem Inv.Cd {c:Cfg} {id:Int} {g:Gh} {bad bad':Nat→Prop} {a:Arr} (I:Inv c id g bad none a) (hb:∀ d,bad d→bad' d) {d:Nat} (hd:d < a.disks.length) (hbd:bad' d) (p:Int) {s:Txt} (hs:(Dy s).2≠0) (Q:Qt a) :
  Inv c id g bad' none (a.Cd (d:Int) p s).1∧Dmg a (a.Cd (d:Int) p s).1 d (a.alive (d:Int)):=by
 have hx:a.disks[d]? = some a.disks[d]:=List.getElem?_eq_getElem hd
 have e:(a.Cd (d:Int) p s).1=a.set (d:Int) (a.disks[d].Cd p s):=by unfold Arr.Cd Arr.does;rw [Zd,hx]
 have hset:(a.set (d:Int) (a.disks[d].Cd p s)).disks=a.disks.set d (a.disks[d].Cd p s):=by simp [Arr.set]
 have hw0:=Q _ (List.getElem_mem hd)
 have hgo:(a.disks[d].Cd p s).gone=a.disks[d].gone:=by unfold Dsk.Cd;split<;>rfl
 have hal:a.alive (d:Int) = !a.disks[d].gone:=by unfold Arr.alive;rw [Zd,hx]
 have hlen:(a.disks[d].Cd p s).secs.length=a.disks[d].secs.length:=by unfold Dsk.Cd;split<;>simp
 have hwt:(a.disks[d].Cd p s).waits=[]:=by unfold Dsk.Cd;split<;>simp [hw0]
 rw [e]
 refine ⟨I.dmg hb hx (y:=a.disks[d].Cd p s) (fun G=>⟨by rw [hlen];exact G.secs,by unfold Dsk.Cd;split<;>exact G.size,fun w hw=>by rw [hwt] at hw;simp at hw,fun _=>hwt⟩) (fun hg=>⟨hbd,fun q t hv=> ?_⟩) hlen hset,by rw [hset,List.length_set],rfl,rfl,fun q z hz=> ?_,fun f=> ?_⟩
 ·have hg':a.disks[d].gone=false:=by rw [←hgo];exact hg
  rcases hv with h|h
  ·unfold Dsk.Cd at h
   split at h
   ·simp only [List.getElem?_set] at h
    split at h
    ·split at h
     ·simp at h
      subst h
      exact .inl fun _ _=>A3n hs _ _ _
     ·cases h
    ·exact .inr ⟨hg',.inl h⟩
   ·exact .inr ⟨hg',.inl h⟩
  ·rw [hwt] at h;simp at h
 ·rw [hset] at hz
  rcases List.mem_or_eq_of_mem_set hz with hz|rfl
  ·exact q z hz
  ·exact hwt
 ·rw [Tb hd hset f,hgo,hal]
def mWrE (c:Cfg) (n:Int) (t:Txt):Int:=if n < 0∨c.st≤n then 1 else if Aw c < t.length then 12 else 0
def mWr (c:Cfg) (L:List Txt) (n:Int) (t:Txt):List Txt:=if mWrE c n t=0 then L.set n.toNat t else L
def mRd (c:Cfg) (L:List Txt) (n:Int):Txt×Int:=if n < 0∨c.st≤n then ([],1) else (L[n.toNat]?.getD [],0)
@[simp] theorem mWr_len (c:Cfg) (L:List Txt) (n:Int) (t:Txt):(mWr c L n t).length=L.length:=by unfold mWr;split<;>simp
structure VS (c:Cfg) (a:Arr) (sq:Int) (L:List Txt) (bad:Nat→Prop):Prop where
 ex:∃ g,Inv c 7 g bad none a∧g.sq=sq∧∀ n:Nat,(n:Int) < c.st→L[n]? = some (g.tx n)
 dn:a.down=false
 qt:Qt a
 ll:(L.length:Int)=c.st
def Gd (c:Cfg) (a:Arr) (bad:Nat→Prop):Prop:= ∃ q:Nat→Bool,(∀ d < a.disks.length,q d=true→a.alive (d:Int)=true∧¬bad d)∧c.k≤((List.range a.disks.length).countP q:Nat)
theorem Gd.al {c:Cfg} {a:Arr} {bad:Nat→Prop} (h:Gd c a bad):c.k≤((Ab a a.disks.length).length:Int):=by
 obtain ⟨q,h1,h2⟩:=h
 rw [Dw]
 have:=List.countP_mono_left (l:=List.range a.disks.length) (p:=q) (q:=fun d:Nat=>a.alive (d:Int)) fun d hd hq=>(h1 d (List.mem_range.1 hd) hq).1
 omega
theorem Gd.one {c:Cfg} {a:Arr} {bad:Nat→Prop} (h:Gd c a bad) (hk:1≤c.k):∃ d:Nat,d < a.disks.length∧a.alive (d:Int)=true∧¬bad d:=by
 obtain ⟨q,h1,h2⟩:=h
 have:0 < (List.range a.disks.length).countP q:=by omega
 obtain ⟨d,hd,hq⟩:=List.countP_pos_iff.1 this
 exact ⟨d,List.mem_range.1 hd,h1 d (List.mem_range.1 hd) hq⟩
theorem Gd.stp {c:Cfg} {a b:Arr} {bad:Nat→Prop} (h:Gd c a bad) (S:Stp a b):Gd c b bad:=by
 obtain ⟨q,h1,h2⟩:=h
 exact ⟨q,fun d hd hq=>by rw [S.len] at hd;rw [S.al];exact h1 d hd hq,by rw [S.len];exact h2⟩
theorem Gd.of {c:Cfg} {id:Int} {g:Gh} {bad:Nat→Prop} {a:Arr} (G:Gd c a bad) (I:Inv c id g bad none a) (hdn:a.down=false) {n:Nat} (hn:(n:Int) < c.st):c.k≤ofN (stE a id c n) (g.ep n):=by
 obtain ⟨q,h1,h2⟩:=G
 have:=I.many hdn hn q h1
 omega
theorem Gd.all {c:Cfg} {id:Int} {g:Gh} {bad:Nat→Prop} {pd:Option Pd} {a:Arr} (I:Inv c id g bad pd a) (h:∀ d:Nat,d < a.disks.length→a.alive (d:Int)=true∧¬bad d):Gd c a bad:=by
 have h1:=Bd I.conf
 have hl:=I.len
 refine ⟨fun _=>true,fun d hd _=>h d hd,?_⟩
 rw [List.countP_true,List.length_range]
 omega
theorem Inv.whole {c:Cfg} {id:Int} {g:Gh} {bad:Nat→Prop} {a:Arr} (I:Inv c id g bad none a) (hdn:a.down=false) (h:∀ d:Nat,d < a.disks.length→a.alive (d:Int)=true∧¬bad d) {n:Nat} (hn:(n:Int) < c.st):ofN (stE a id c n) (g.ep n)=a.disks.length:=by
 have h1:=I.many hdn hn (fun _=>true) fun d hd _=>h d hd
 have h2:=I.few hdn hn
 have h3:=D5 a a.disks.length
 rw [List.countP_true,List.length_range] at h1
 omega
theorem VS.make {c:Cfg} (hC:Ax c):(Cf (Ck (c.k+c.m) (1+c.sl+c.st) (c.k * c.sh+42)) c 7).vo=some (c,0)∧(Cf (Ck (c.k+c.m) (1+c.sl+c.st) (c.k * c.sh+42)) c 7).er=0 ∧
  VS c (Cf (Ck (c.k+c.m) (1+c.sl+c.st) (c.k * c.sh+42)) c 7).ar 0 (List.replicate c.st.toNat []) (fun _=>False)∧(Cf (Ck (c.k+c.m) (1+c.sl+c.st) (c.k * c.sh+42)) c 7).ar.left < 0 ∧
  ((Cf (Ck (c.k+c.m) (1+c.sl+c.st) (c.k * c.sh+42)) c 7).ar.disks.length:Int)=c.k+c.m∧∀ d:Nat,d < (Cf (Ck (c.k+c.m) (1+c.sl+c.st) (c.k * c.sh+42)) c 7).ar.disks.length→(Cf (Ck (c.k+c.m) (1+c.sl+c.st) (c.k * c.sh+42)) c 7).ar.alive (d:Int)=true:=by
 obtain ⟨m1,m2,m3,m4,m5,m6⟩:=Ahb hC (id:=7) ν ν
 obtain ⟨_,_,hlf,hal⟩:=Zb hC (id:=7) ν ν
 have h1:=Bd hC
 have hl:=m3.len
 refine ⟨m1,m2,⟨⟨gh0,m3,rfl,fun n hn=> ?_⟩,m4,m6,?_⟩,m5.neg (by rw [hlf];decide),hl,fun d hd=> ?_⟩
 ·rw [List.getElem?_replicate,if_pos ω];rfl
 ·rw [List.length_replicate];omega
 ·rw [m5.al];exact hal d ω
theorem VS.write {c:Cfg} {a:Arr} {sq:Int} {L:List Txt} {bad:Nat→Prop} (V:VS c a sq L bad) (hlf:a.left < 0) (hk:c.k≤((Ab a a.disks.length).length:Int)) (hs:sq+1 < 36028797018963968) (n:Int) (t:Txt) :
  (Am a 7 c sq n t).2.2=mWrE c n t∧(Am a 7 c sq n t).2.1=(if mWrE c n t=0 then sq+1 else sq)∧VS c (Am a 7 c sq n t).1 (Am a 7 c sq n t).2.1 (mWr c L n t) bad∧Stp a (Am a 7 c sq n t).1:=by
 obtain ⟨⟨g,I,rfl,hL⟩,hdn,hq,hll⟩:=V
 by_cases h1:n < 0∨c.st≤n
 ·have e:Am a 7 c g.sq n t=(a,g.sq,1):=by unfold Am;rw [if_pos h1]
  have e1:mWrE c n t=1:=by unfold mWrE;rw [if_pos h1]
  rw [e]
  unfold mWr
  rw [e1]
  exact ⟨rfl,rfl,⟨⟨g,I,rfl,hL⟩,hdn,hq,hll⟩,Stp.refl a⟩
 by_cases h2:Aw c < t.length
 ·have e:Am a 7 c g.sq n t=(a,g.sq,12):=by unfold Am;rw [if_neg h1,if_pos h2]
  have e1:mWrE c n t=12:=by unfold mWrE;rw [if_neg h1,if_pos h2]
  rw [e]
  unfold mWr
  rw [e1]
  exact ⟨rfl,rfl,⟨⟨g,I,rfl,hL⟩,hdn,hq,hll⟩,Stp.refl a⟩
 have e1:mWrE c n t=0:=by unfold mWrE;rw [if_neg h1,if_neg h2]
 obtain ⟨k,rfl⟩:=Int.eq_ofNat_of_zero_le (show 0≤n by omega)
 obtain ⟨S,w⟩:=I.write hdn (n:=k) (t:=t) ω ω hs hk
 rcases w with ⟨w1,w2,w3,w4⟩|⟨_,_,w3,_⟩
 rotate_left
 ·exact (w3 hlf).elim
 unfold mWr
 rw [e1,w1]
 refine ⟨rfl,rfl,⟨⟨g.upd k t,w3,rfl,fun m hm=> ?_⟩,w2,w4,by simpa using hll⟩,S⟩
 simp only [if_true,Int.toNat_natCast,Gh.upd]
 rw [List.getElem?_set]
 by_cases hmk:m=k
 ·subst hmk
  rw [if_pos rfl,if_pos rfl,if_pos ω]
 ·rw [if_neg (fun h=>hmk h.symm),if_neg hmk]
  exact hL m hm
theorem VS.read {c:Cfg} {a:Arr} {sq:Int} {L:List Txt} {bad:Nat→Prop} (V:VS c a sq L bad) (G:Gd c a bad) (n:Int):Gc a 7 c n=mRd c L n:=by
 obtain ⟨⟨g,I,rfl,hL⟩,hdn,hq,hll⟩:=V
 by_cases h1:n < 0∨c.st≤n
 ·unfold mRd Gc Cx
  simp [h1]
 obtain ⟨k,rfl⟩:=Int.eq_ofNat_of_zero_le (show 0≤n by omega)
 have hk:(k:Int) < c.st:=by omega
 rw [I.A3h hdn hk,if_pos (G.of I hdn hk)]
 unfold mRd
 rw [if_neg h1,Int.toNat_natCast,hL k hk]
 rfl
def Le (c:Cfg):Arr:=Ck (c.k+c.m) (1+c.sl+c.st) (c.k * c.sh+42)
theorem A8p {a:Arr} {d:Int} (h:¬(0≤d∧d < (a.disks.length:Int))):(a.fail d).1=a:=by
 have:a.on? d=none:=by
  unfold Arr.on?
  split
  ·rw [List.getElem?_eq_none_iff];omega
  ·rfl
 unfold Arr.fail Arr.does
 rw [this]
theorem VS.fail {c:Cfg} {a:Arr} {sq:Int} {L:List Txt} {bad:Nat→Prop} (V:VS c a sq L bad) (d:Int):VS c (a.fail d).1 sq L bad∧(a.fail d).1.left=a.left∧(a.fail d).1.disks.length=a.disks.length:=by
 by_cases h:0≤d∧d < (a.disks.length:Int)
 ·obtain ⟨⟨g,I,e,hL⟩,hdn,hq,hll⟩:=V
  obtain ⟨k,rfl⟩:=Int.eq_ofNat_of_zero_le h.1
  obtain ⟨I1,D⟩:=I.fail (bad':=bad) (fun _ h=>h) (d:=k) ω
  exact ⟨⟨⟨g,I1,e,hL⟩,by rw [D.dn];exact hdn,D.qt hq,hll⟩,D.lf,D.len⟩
 ·rw [A8p h]
  exact ⟨V,rfl,rfl⟩
theorem VS.lost {c:Cfg} {a:Arr} {sq:Int} {L:List Txt} (V:VS c a sq L (fun _=>False)) {n:Nat} (hn:(n:Int) < c.st):Gc a 7 c n=if c.k≤((Ab a a.disks.length).length:Int) then (L[n]?.getD [],0) else ([],10):=by
 obtain ⟨⟨g,I,rfl,hL⟩,hdn,hq,hll⟩:=V
 have h1:=I.many hdn hn (fun d=>a.alive (d:Int)) fun d _ h=>⟨h,fun h=>h⟩
 have h2:=I.few hdn hn
 rw [←Dw] at h1
 have:ofN (stE a 7 c n) (g.ep n)=(Ab a a.disks.length).length:=by omega
 rw [I.A3h hdn hn,this,hL n hn]
 rfl
theorem VS.few {c:Cfg} {a:Arr} {sq:Int} {L:List Txt} {bad:Nat→Prop} (V:VS c a sq L bad) (h:((Ab a a.disks.length).length:Int) < c.k):(Am a 7 c sq 0 []).2.2=10:=by
 obtain ⟨⟨g,I,rfl,hL⟩,hdn,hq,hll⟩:=V
 have hC:=I.conf
 have h1:=Bd hC
 have hcap:=Lc hC
 have h8:c.sh≤c.k * c.sh∧8≤c.sh:=by
  have h8:=hC.2.2.1.1
  have:=Int.mul_le_mul_of_nonneg_right (show 1≤c.k by omega) (show 0≤c.sh by omega)
  omega
 unfold Am
 rw [if_neg ω,if_neg (by show ¬Aw c < ((0:Nat):Int);omega),if_neg (by simp [hdn])]
 simp only
 rw [if_pos (.inl h)]
theorem ArrQ.qt {k:Nat} {a:Arr} (h:ArrQ k a) (q:Qt a):ArrQ 0 a :=
 ⟨⟨fun d hd=>⟨(h.b.disks d hd).w,(h.b.disks d hd).one,by rw [q d hd];simp⟩,h.b.one,h.b.few,h.b.left⟩,h.l⟩
theorem Ahc {k:Nat} {a:Arr} (h:ArrQ k a) (id:Int):∃ k',ArrQ k' (Bc a id).ar:=by
 unfold Bc
 split
 ·exact ⟨_,h⟩
 split
 ·exact ⟨_,h⟩
 ·rename_i c _
  have:∃ k',ArrQ k' (tryR (D4 id c (Ab a a.disks.length) a (C4 a id c)) Bv).1:=⟨_,Ta (A1s _ h) (Nat.le_refl _) fun a h=>Rn h⟩
  simp only
  split<;>exact this
theorem VS.open_ {c:Cfg} {a:Arr} {sq:Int} {L:List Txt} {bad:Nat→Prop} (V:VS c a sq L bad) (G:Gd c a bad) (hlf:a.left < 0) (hs:sq+1 < 36028797018963968) :
  Kw a 7=some c∧(Bc a 7).er=0∧(Bc a 7).vo=some (c,sq)∧VS c (Bc a 7).ar sq L bad∧Stp a (Bc a 7).ar:=by
 obtain ⟨⟨g,I,rfl,hL⟩,hdn,hq,hll⟩:=V
 have hg:=G.one (by have:=Bd I.conf;omega)
 obtain ⟨S,w⟩:=I.A3m hdn hq hg hs
 refine ⟨I.head hdn hg,?_⟩
 rcases w with ⟨w1,w2,w3,⟨w4,w5⟩|⟨P,h,_⟩⟩|⟨_,_,_,w,_⟩
 ·exact ⟨w1,w4,⟨⟨g,w5,rfl,hL⟩,w2,w3,hll⟩,S⟩
 ·cases h
 ·exact (w hlf).elim
end Go.Proofs.YtmbndhciflilbaaGreatDoor.X
