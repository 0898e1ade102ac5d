/-
  Mending under a fuse; what is whole in all versions (plain mathematics).
-/
import Derived.Test.YtpabfpccpbakfaaGreatDoorP20
namespace Go.Proofs.YtpabfpccpbakfaaGreatDoor.X
open F
set_option linter.unusedSimpArgs false
set_option linter.unusedVariables false
theorem AllV.Aey {c:Cfg} {id:Int} {g:Gh} {bad:Nat→Prop} {a:Arr} {d p:Nat} {b0:BlkD} (h:AllV id a d p b0) (I:Inv c id g bad none a) (hdn:a.down=false) (hg:∃ d:Nat,d < a.disks.length∧a.alive (d:Int)=true∧¬bad d) (hs:g.sq+1 < 36028797018963968)
  (hb:∀ n:Nat,(n:Int) < c.st→p=stP c n→b0=stB id c n (g.ep n) (g.tx n) d):AllV id (Bv a id).ar d p b0:=by
 have hhd:=I.head hdn hg
 have hreg:∀ x∈C9 a id c,RegX c g none x:=fun x hx=>by
  rcases A49 I hdn x ((Zj _).2.1 x hx) with ⟨n,q1,q2,q3,q4,q5,q6⟩|⟨P',q1,_⟩
  ·exact ⟨n,q1,q2,q3,q4,q5,q6,fun P' hP'=>by cases hP'⟩
  ·cases q1
 obtain ⟨I2,S2,w⟩:=Inv.redo (pd:=none) hs (fun P hP=>by cases hP) (C9 a id c) I hdn hg (fun x hx=> .inl (hreg x hx)) fun P hP=>by cases hP
 have h2:=AllV.redo hs hb (C9 a id c) h I hdn hg hreg
 have key:AllV id (tryR (Dc id c (Ak a a.disks.length) a (C9 a id c)) By).1 d p b0:=by
  unfold tryR
  split
  ·exact h2.flush I2.dk
  ·exact h2
 unfold Bv
 rw [if_neg (by simp [hdn]),hhd]
 simp only
 split<;>exact key
theorem Inv.vmendF {c:Cfg} {g:Gh} {bad:Nat→Prop} {a:Arr} (I:Inv c 7 g bad none a) (hdn:a.down=false) {n:Nat} (hn:(n:Int) < c.st) (hk:c.k≤ofN (stE a 7 c n) (g.ep n)) (hs:g.sq+1 < 36028797018963968) :
  Inv c 7 g bad none (Bm a 7 c n).1∧Stp a (Bm a 7 c n).1∧(∀ (d p:Nat) b0,(p=stP c n→b0=stB 7 c n (g.ep n) (g.tx n) d)→AllV 7 a d p b0→AllV 7 (Bm a 7 c n).1 d p b0) ∧
  (((Bm a 7 c n).2.2=0∧(Bm a 7 c n).1.down=false∧Qt (Bm a 7 c n).1∧∀ d:Nat,(d:Int)∈Ak a a.disks.length→AllV 7 (Bm a 7 c n).1 d (stP c n) (stB 7 c n (g.ep n) (g.tx n) d)) ∨
   ((Bm a 7 c n).2.2=9∧(Bm a 7 c n).1.down=true∧¬a.left < 0)):=by
 have hC:=I.conf
 have hge:=I.ge n hn
 have hr:=I.vread hdn hn
 have hl:=I.look hdn hn
 rw [if_pos hk] at hr hl
 unfold A26 at hr
 rw [hl] at hr
 simp only [if_true] at hr
 have hds:∀ d∈Fm a (ofH (stE a 7 c n) (g.ep n)),d∈Ak a a.disks.length:=fun d hd=>(List.mem_filter.1 hd).1
 obtain ⟨I1,S1,w⟩:=I.shs hdn hn (e:=g.ep n) (t:=g.tx n) (by omega) hs hge.2.2 (.inl ⟨rfl,rfl⟩) hds
 have hA:=fun (d p:Nat) (b0:BlkD) (hb:p=stP c n→b0=stB 7 c n (g.ep n) (g.tx n) d) (h:AllV 7 a d p b0)=>h.shs I hdn hn hs hds hb
 unfold Bm
 rw [hl]
 simp only
 rw [if_neg (by simp),hr]
 simp only
 rw [if_neg (by simp)]
 rcases w with ⟨w1,w2,w3,w4⟩|⟨w1,w2,w3⟩
 ·rw [N2 w1,(Ea w2).1]
  simp only [if_true]
  refine ⟨I1.flush,S1.trans (Stp.flush _),fun d p b0 hb h=>(hA d p b0 hb h).flush I1.dk,.inl ⟨trivial,(Ea w2).2,Qt.flush w2 I1.dk,fun d hd=>Lst.flush w2 I1.dk ?_⟩⟩
  by_cases hm:(d:Int)∈Fm a (ofH (stE a 7 c n) (g.ep n))
  ·exact w3 d hm
  ·refine w4 d _ _ (fun h=>hm h.1) ?_
   obtain ⟨d',hdd,hdl,hal⟩:=Cy.1 hd
   have:d'=d:=by omega
   subst this
   rcases I.st1 hdn hn hdl with ⟨h,_⟩|⟨h,_⟩
   ·exact h
   ·refine (hm ?_).elim
    unfold Fm
    refine List.mem_filter.2 ⟨hd,?_⟩
    have:(ofH (stE a 7 c n) (g.ep n))[d']? = some false:=by
     unfold ofH
     rw [Nv,List.getElem?_map,List.getElem?_map,List.getElem?_range hdl]
     simp [h]
     omega
    simp [this]
 ·rw [Ke (by rw [w1];decide)]
  simp only [w1]
  rw [if_neg (by decide)]
  exact ⟨I1,S1,hA,.inr ⟨rfl,w2,w3⟩⟩
theorem Wy {c:Cfg} {g:Gh} {bad:Nat→Prop} : ∀ (ds:List Int) {a:Arr} (m:Int),Inv c 7 g bad none a→a.down=false→(∀ d∈ds,d∈Ak a a.disks.length) →
  Inv c 7 g bad none (D6 7 c a m ds).1∧Stp a (D6 7 c a m ds).1∧(∀ (d p:Nat) b0,(p=0→b0=hdB 7 d c)→AllV 7 a d p b0→AllV 7 (D6 7 c a m ds).1 d p b0) ∧
  (((D6 7 c a m ds).2.2=0∧(D6 7 c a m ds).1.down=false∧(∀ d:Nat,(d:Int)∈ds→Lst 7 (D6 7 c a m ds).1 d 0 (hdB 7 d c))∧(∀ (d p:Nat) b0,(p≠0∨b0=hdB 7 d c)→Lst 7 a d p b0→Lst 7 (D6 7 c a m ds).1 d p b0)) ∨
   ((D6 7 c a m ds).2.2=9∧(D6 7 c a m ds).1.down=true∧¬a.left < 0))
 | [],a,m,I,hdn,_=>⟨I,Stp.refl a,fun _ _ _ _ h=>h,.inl ⟨rfl,hdn,fun d hd=>by simp at hd,fun _ _ _ _ h=>h⟩⟩
 | d :: ds,a,m,I,hdn,hds=>by
  have hds':∀ e∈ds,e∈Ak a a.disks.length:=fun e he=>hds e (List.mem_cons_of_mem _ he)
  obtain ⟨e,rfl,hel,hal⟩:=Cy.1 (hds d (List.mem_cons_self ..))
  have h1:=I.hd1 hdn hal
  rw [D6]
  by_cases hh:isHd a 7 (e:Int) c
  ·rw [if_pos hh]
   have hL:Lst 7 a e 0 (hdB 7 e c):=by
    rcases h1 with ⟨h,_⟩|⟨_,h⟩
    ·exact h
    ·have:=hh.1;rw [h] at this;cases this
   obtain ⟨i1,i2,i3,i4⟩:=Wy ds m I hdn hds'
   refine ⟨i1,i2,i3,i4.imp_left fun ⟨j1,j2,j3,j4⟩=>⟨j1,j2,fun d hd=> ?_,j4⟩⟩
   rcases List.mem_cons.1 hd with hd|hd
   ·have:d=e:=by omega
    subst this
    exact j4 _ _ _ (.inr rfl) hL
   ·exact j3 d hd
  ·rw [if_neg hh]
   have hp:=I.putH hel hal
   have hA:∀ (d p:Nat) b0,(p=0→b0=hdB 7 d c)→AllV 7 a d p b0→AllV 7 (vput a (hdB 7 e c)) d p b0:=fun d p b0 hb h=>h.put I hdn hp fun q1 q2=>by
    have q1:(e:Int)=d:=q1
    have q2:(0:Int)=p:=q2
    have:e=d:=by omega
    subst this
    exact (hb (by omega)).symm
   obtain ⟨I1,S1,w⟩:=I.put hdn hp
   rcases w with ⟨w1,w2,w3,w4⟩|⟨w1,w2,w3⟩
   ·rw [if_pos w1]
    have hL:Lst 7 (vput a (hdB 7 e c)) e 0 (hdB 7 e c):=w3 e 0 rfl rfl
    obtain ⟨i1,i2,i3,i4⟩:=Wy ds (m+1) I1 w2 fun d hd=>by rw [S1.Ak];exact hds' d hd
    refine ⟨i1,S1.trans i2,fun d p b0 hb h=>i3 d p b0 hb (hA d p b0 hb h),?_⟩
    rcases i4 with ⟨j1,j2,j3,j4⟩|⟨j1,j2,j3⟩
    ·refine .inl ⟨j1,j2,fun d hd=> ?_,fun d p b0 hp hb=> ?_⟩
     ·rcases List.mem_cons.1 hd with hd|hd
      ·have:d=e:=by omega
       subst this
       exact j4 _ _ _ (.inr rfl) hL
      ·exact j3 d hd
     ·refine j4 d p b0 hp ?_
      by_cases he:(hdB 7 e c).dk=d∧(hdB 7 e c).pl=p
      ·have h2:(e:Int)=d:=he.1
       have h3:(0:Int)=p:=he.2
       have:e=d:=by omega
       have:p=0:=by omega
       subst_vars
       rcases hp with hp|hp
       ·exact (hp rfl).elim
       ·rw [hp];exact hL
      ·exact w4 d p b0 he hb
    ·exact .inr ⟨j1,j2,fun h=>j3 (S1.neg h)⟩
   ·rw [if_neg (by rw [w1];decide),w1]
    exact ⟨I1,S1,hA,.inr ⟨rfl,w2,w3⟩⟩
theorem Inv.Ajh {c:Cfg} {g:Gh} {bad:Nat→Prop} {a:Arr} (I:Inv c 7 g bad none a) (hdn:a.down=false) :
  Inv c 7 g bad none (B7 a 7 c).1∧Stp a (B7 a 7 c).1∧(∀ (d p:Nat) b0,(p=0→b0=hdB 7 d c)→AllV 7 a d p b0→AllV 7 (B7 a 7 c).1 d p b0) ∧
  (((B7 a 7 c).2.2=0∧(B7 a 7 c).1.down=false∧Qt (B7 a 7 c).1∧∀ d:Nat,(d:Int)∈Ak a a.disks.length→AllV 7 (B7 a 7 c).1 d 0 (hdB 7 d c)) ∨
   ((B7 a 7 c).2.2=9∧(B7 a 7 c).1.down=true∧¬a.left < 0)):=by
 obtain ⟨i1,i2,i3,i4⟩:=Wy (Ak a a.disks.length) 0 I hdn fun d hd=>hd
 unfold B7
 rw [if_neg (by simp [hdn])]
 simp only
 rcases i4 with ⟨j1,j2,j3,j4⟩|⟨j1,j2,j3⟩
 ·have hpw:(D6 7 c a 0 (Ak a a.disks.length)).1.Le=0:=by unfold Arr.Le;simp [j2]
  rw [if_pos j1,if_pos hpw]
  exact ⟨i1.flush,i2.trans (Stp.flush _),fun d p b0 hb h=>(i3 d p b0 hb h).flush i1.dk,.inl ⟨rfl,(Ea j2).2,Qt.flush j2 i1.dk,fun d hd=>Lst.flush j2 i1.dk (j3 d hd)⟩⟩
 ·rw [if_neg (by rw [j1];decide)]
  exact ⟨i1,i2,i3,.inr ⟨j1,j2,j3⟩⟩
end Go.Proofs.YtpabfpccpbakfaaGreatDoor.X
