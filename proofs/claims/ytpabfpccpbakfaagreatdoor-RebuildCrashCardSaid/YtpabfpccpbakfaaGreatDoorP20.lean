/-
  What is whole in all versions stays so: writes, crashes, a volume that is opened (plain mathematics).
-/
import Derived.Test.YtpabfpccpbakfaaGreatDoorP19
namespace Go.Proofs.YtpabfpccpbakfaaGreatDoor.X
open F
set_option linter.unusedSimpArgs false
set_option linter.unusedVariables false
theorem AllV.sub {id:Int} {a b:Arr} {d p:Nat} {b0:BlkD} (h:AllV id a d p b0) (hs:∀ x,a.disks[d]? = some x→∃ y,b.disks[d]? = some y∧y.gone=x.gone∧y.secs.length=x.secs.length∧∀ s,y.vers p s→x.vers p s∨Ownd id d p s b0):AllV id b d p b0:=by
 obtain ⟨x,h1,h2,h3,h4⟩:=h
 obtain ⟨y,k1,k2,k3,k4⟩:=hs x h1
 exact ⟨y,k1,by rw [k2];exact h2,by rw [k3];exact h3,fun s hv=>(k4 s hv).elim (h4 s) fun h=>h⟩
theorem AllV.Bb {c:Cfg} {id:Int} {a:Arr} {d p:Nat} {b0:BlkD} (h:AllV id a d p b0) (hdk:∀ x∈a.disks,DskG c x) (keep:List Bool):AllV id (a.Bb keep) d p b0 :=
 h.sub fun x hx=>by
  obtain ⟨ks,hk⟩:=Kd a.disks keep d x hx
  exact ⟨_,hk,Dsk.Hq _,Dsk.N1 _,fun s hv=> .inl (Dsk.Rc (hdk x (List.mem_of_getElem? hx)).waits hv)⟩
theorem AllV.flush {c:Cfg} {id:Int} {a:Arr} {d p:Nat} {b0:BlkD} (h:AllV id a d p b0) (hdk:∀ x∈a.disks,DskG c x):AllV id a.flush d p b0:=by
 unfold Arr.flush
 split
 ·exact h
 ·exact h.sub fun x hx=>⟨x.flush,by simp [hx],Dsk.Hq _,Dsk.N1 _,fun s hv=> .inl (Dsk.Rc (hdk x (List.mem_of_getElem? hx)).waits hv)⟩
theorem AllV.dsks {id:Int} {a b:Arr} {d p:Nat} {b0:BlkD} (h:AllV id a d p b0) (e:b.disks=a.disks):AllV id b d p b0 :=
 h.sub fun x hx=>⟨x,by rw [e];exact hx,rfl,rfl,fun s hv=> .inl hv⟩
theorem AllV.put {c:Cfg} {id:Int} {g:Gh} {bad:Nat→Prop} {pd:Option Pd} {a:Arr} {d p:Nat} {b0:BlkD} (h:AllV id a d p b0) (I:Inv c id g bad pd a) (hdn:a.down=false) {b:BlkD} (hp:Ld c id g bad pd a b) (hb:b.dk=d→b.pl=p→b=b0):AllV id (vput a b) d p b0:=by
 obtain ⟨o1,o2,o3⟩:=Tw hp.ok
 obtain ⟨e,he,hal⟩:=hp.al
 obtain ⟨x,hx,hg⟩:=Arr.Dd.1 hal
 have hG:=I.dk x (List.mem_of_getElem? hx)
 obtain ⟨q,hq⟩:=Int.eq_ofNat_of_zero_le hp.ok.p0
 have hps:q < x.secs.length:=by have:=hG.secs;have:=hp.pl;omega
 have hsz:(((Dh b).1).length:Int)≤x.size:=by rw [o3,hG.size];have:=hp.sz;push_cast;omega
 have e1:vput a b=a.write (e:Int) (q:Int) (Dh b).1:=by unfold vput;rw [if_pos o1,he,hq]
 rw [e1]
 rcases Arr.Uq hdn hx hg hps hsz with ⟨w1,w2,w3⟩|⟨w1,w2,w3⟩
 ·rw [w3];exact h.dsks rfl
 ·rw [w3]
  refine h.sub fun y hy=> ?_
  have hlt:=(List.getElem?_eq_some_iff.1 hx).1
  show ∃ z,(a.disks.set e (x.more q (Dh b).1))[d]? = some z∧_
  rw [List.getElem?_set]
  by_cases hed:e=d
  ·subst hed
   rw [hx] at hy;cases hy
   rw [if_pos rfl,if_pos hlt]
   refine ⟨_,rfl,rfl,rfl,fun s hv=> ?_⟩
   rcases Dsk.Tx hv with hv|⟨h1,h2⟩
   ·exact .inl hv
   ·right
    subst h1 h2
    have:=Nu hp.ok
    rw [hp.ar,he,hq] at this
    have hbb:=hb he hq
    rw [←hbb]
    exact this
  ·rw [if_neg hed];exact ⟨y,hy,rfl,rfl,fun s hv=> .inl hv⟩
theorem AllV.puts {c:Cfg} {id:Int} {g:Gh} {bad:Nat→Prop} {pd:Option Pd} {d p:Nat} {b0:BlkD} : ∀ (bs:List BlkD) {a:Arr},AllV id a d p b0→Inv c id g bad pd a→a.down=false→(∀ b∈bs,Ld c id g bad pd a b)→(∀ b∈bs,b.dk=d→b.pl=p→b=b0)→AllV id (puts bs a).1 d p b0
 | [],a,h,_,_,_,_=>h
 | b :: bs,a,h,I,hdn,hok,hb=>by
  have h1:=h.put I hdn (hok b (List.mem_cons_self ..)) (hb b (List.mem_cons_self ..))
  obtain ⟨I1,S1,w⟩:=I.put hdn (hok b (List.mem_cons_self ..))
  rw [Go.Proofs.YtpabfpccpbakfaaGreatDoor.X.puts]
  rcases w with ⟨w1,w2,_⟩|⟨w1,w2,_⟩
  ·rw [if_pos w1]
   exact AllV.puts bs h1 I1 w2 (fun b' hb'=>(hok b' (List.mem_cons_of_mem _ hb')).step S1) fun b' hb'=>hb b' (List.mem_cons_of_mem _ hb')
  ·rw [if_neg (by rw [w1];decide)]
   exact h1
theorem AllV.shs {c:Cfg} {id:Int} {g:Gh} {bad:Nat→Prop} {pd:Option Pd} {a:Arr} {d p:Nat} {b0:BlkD} (h:AllV id a d p b0) (I:Inv c id g bad pd a) (hdn:a.down=false) {n:Nat} (hn:(n:Int) < c.st) (hs:g.sq+1 < 36028797018963968) {ds:List Int} (hds:∀ d∈ds,d∈Ak a a.disks.length) (hb:p=stP c n→b0=stB id c n (g.ep n) (g.tx n) d) :
  AllV id (vshR a id c n (g.ep n) (g.tx n) ds).1 d p b0:=by
 have hC:=I.conf
 have hge:=I.ge n hn
 have e3:vshR a id c n (g.ep n) (g.tx n) ds=Go.Proofs.YtpabfpccpbakfaaGreatDoor.X.puts (ds.map (shB id (Av c n) (g.ep n) (splR c (g.tx n)).1)) a:=by
  unfold vshR
  rw [if_pos (spl0 hC hge.2.2),Mc]
 rw [e3]
 refine h.puts _ I hdn (fun b hb'=> ?_) fun b hb' h1 h2=> ?_
 ·obtain ⟨d',hd',rfl⟩:=List.mem_map.1 hb'
  obtain ⟨f,rfl,hf,hal⟩:=Cy.1 (hds d' hd')
  rw [Lv hC hn]
  exact I.A9p hn (by omega) hs hge.2.2 (.inl ⟨rfl,rfl⟩) hf hal
 ·obtain ⟨d',hd',rfl⟩:=List.mem_map.1 hb'
  have h1:d'=(d:Int):=h1
  have h2:Av c n=(p:Int):=h2
  rw [Hr hC hn] at h2
  subst h1
  rw [Lv hC hn,hb (by omega)]
theorem AllV.redo {c:Cfg} {id:Int} {g:Gh} {bad:Nat→Prop} (hs:g.sq+1 < 36028797018963968) {d p:Nat} {b0:BlkD} (hb:∀ n:Nat,(n:Int) < c.st→p=stP c n→b0=stB id c n (g.ep n) (g.tx n) d):∀ (l:List IntD) {a:Arr},AllV id a d p b0→Inv c id g bad none a→a.down=false→(∃ d:Nat,d < a.disks.length∧a.alive (d:Int)=true∧¬bad d) →
  (∀ x∈l,RegX c g none x)→AllV id (Dc id c (Ak a a.disks.length) a l).1 d p b0
 | [],a,h,_,_,_,_=>h
 | x :: l,a,h,I,hdn,hg,hx=>by
  obtain ⟨n,h1,h2,h3,h4,h5,h6,h7⟩:=hx x (List.mem_cons_self ..)
  have hx':∀ y∈l,RegX c g none y:=fun y hy=>hx y (List.mem_cons_of_mem _ hy)
  rw [Dc]
  by_cases hskip:x.sq+1 < maxL (stE a id c x.st)∨Go.Proofs.YtpabfpccpbakfaaGreatDoor.X.ofN (stE a id c x.st) (x.sq+1)=(Ak a a.disks.length).length
  ·rw [if_pos hskip]
   exact AllV.redo hs hb l h I hdn hg hx'
  ·rw [if_neg hskip]
   have hmx:=(I.maxE hdn h2 hg).1
   have hq:x.sq+1=g.ep n:=by
    have:¬x.sq+1 < maxL (stE a id c n):=fun h=>hskip (.inl (by rw [h1];exact h))
    omega
   have ht:=h6 hq
   have hge:=I.ge n h2
   simp only [h1,hq,ht]
   obtain ⟨I1,S1,w⟩:=I.shs hdn h2 (e:=g.ep n) (t:=g.tx n) (by omega) hs hge.2.2 (.inl ⟨rfl,rfl⟩) (ds:=Ak a a.disks.length) fun d hd=>hd
   have hA:=h.shs I hdn h2 hs (ds:=Ak a a.disks.length) (fun d hd=>hd) (hb n h2)
   rcases w with ⟨w1,w2,_⟩|⟨w1,_⟩
   ·rw [if_pos w1]
    have:=AllV.redo hs hb l hA I1 w2 (S1.good hg) hx'
    rw [S1.Ak] at this
    exact this
   ·rw [if_neg (by rw [w1];decide)]
    exact hA
end Go.Proofs.YtpabfpccpbakfaaGreatDoor.X
