/-
  What is whole in all versions stays so: writes, crashes, a volume that is opened (plain mathematics).
-/
import Derived.Test.YtngbipjclpncoaaGreatDoorP19
namespace Go.Proofs.YtngbipjclpncoaaGreatDoor.X
open F
set_option linter.unusedSimpArgs false
set_option linter.unusedVariables false
theorem AllV.sub {id:Int} {a b:Arr} {d p:Nat} {b0:BlkD} (h:AllV id a d p b0) (hs:∀ x,a.disks[d]? = some x→∃ y,b.disks[d]? = some y∧y.gone=x.gone∧y.secs.length=x.secs.length∧∀ s,y.vers p s→x.vers p s∨Ownd id d p s b0):AllV id b d p b0:=by
 obtain ⟨x,h1,h2,h3,h4⟩:=h
 obtain ⟨y,k1,k2,k3,k4⟩:=hs x h1
 exact ⟨y,k1,by rw [k2];exact h2,by rw [k3];exact h3,fun s hv=>(k4 s hv).elim (h4 s) fun h=>h⟩
theorem AllV.crash {c:Cfg} {id:Int} {a:Arr} {d p:Nat} {b0:BlkD} (h:AllV id a d p b0) (hdk:∀ x∈a.disks,DskG c x) (keep:List Bool):AllV id (a.crash keep) d p b0 :=
 h.sub fun x hx=>by
  obtain ⟨ks,hk⟩:=crashD_get a.disks keep d x hx
  exact ⟨_,hk,Dsk.crash_gone _,Dsk.crash_secs _,fun s hv=> .inl (Dsk.crash_vers (hdk x (List.mem_of_getElem? hx)).waits hv)⟩
theorem AllV.flush {c:Cfg} {id:Int} {a:Arr} {d p:Nat} {b0:BlkD} (h:AllV id a d p b0) (hdk:∀ x∈a.disks,DskG c x):AllV id a.flush d p b0:=by
 unfold Arr.flush
 split
 ·exact h
 ·exact h.sub fun x hx=>⟨x.flush,by simp [hx],Dsk.crash_gone _,Dsk.crash_secs _,fun s hv=> .inl (Dsk.crash_vers (hdk x (List.mem_of_getElem? hx)).waits hv)⟩
theorem AllV.dsks {id:Int} {a b:Arr} {d p:Nat} {b0:BlkD} (h:AllV id a d p b0) (e:b.disks=a.disks):AllV id b d p b0 :=
 h.sub fun x hx=>⟨x,by rw [e];exact hx,rfl,rfl,fun s hv=> .inl hv⟩
theorem AllV.put {c:Cfg} {id:Int} {g:Gh} {bad:Nat→Prop} {pd:Option Pd} {a:Arr} {d p:Nat} {b0:BlkD} (h:AllV id a d p b0) (I:Inv c id g bad pd a) (hdn:a.down=false) {b:BlkD} (hp:PutOk c id g bad pd a b) (hb:b.dk=d→b.pl=p→b=b0):AllV id (vput a b) d p b0:=by
 obtain ⟨o1,o2,o3⟩:=seal_open hp.ok
 obtain ⟨e,he,hal⟩:=hp.al
 obtain ⟨x,hx,hg⟩:=Arr.alive_iff.1 hal
 have hG:=I.dk x (List.mem_of_getElem? hx)
 obtain ⟨q,hq⟩:=Int.eq_ofNat_of_zero_le hp.ok.p0
 have hps:q < x.secs.length:=by have:=hG.secs;have:=hp.pl;omega
 have hsz:(((sealR b).1).length:Int)≤x.size:=by rw [o3,hG.size];have:=hp.sz;push_cast;omega
 have e1:vput a b=a.write (e:Int) (q:Int) (sealR b).1:=by unfold vput;rw [if_pos o1,he,hq]
 rw [e1]
 rcases Arr.write_cases hdn hx hg hps hsz with ⟨w1,w2,w3⟩|⟨w1,w2,w3⟩
 ·rw [w3];exact h.dsks rfl
 ·rw [w3]
  refine h.sub fun y hy=> ?_
  have hlt:=(List.getElem?_eq_some_iff.1 hx).1
  show ∃ z,(a.disks.set e (x.more q (sealR b).1))[d]? = some z∧_
  rw [List.getElem?_set]
  by_cases hed:e=d
  ·subst hed
   rw [hx] at hy;cases hy
   rw [if_pos rfl,if_pos hlt]
   refine ⟨_,rfl,rfl,rfl,fun s hv=> ?_⟩
   rcases Dsk.more_vers hv with hv|⟨h1,h2⟩
   ·exact .inl hv
   ·right
    subst h1 h2
    have:=own_seal hp.ok
    rw [hp.ar,he,hq] at this
    have hbb:=hb he hq
    rw [←hbb]
    exact this
  ·rw [if_neg hed];exact ⟨y,hy,rfl,rfl,fun s hv=> .inl hv⟩
theorem AllV.puts {c:Cfg} {id:Int} {g:Gh} {bad:Nat→Prop} {pd:Option Pd} {d p:Nat} {b0:BlkD} : ∀ (bs:List BlkD) {a:Arr},AllV id a d p b0→Inv c id g bad pd a→a.down=false→(∀ b∈bs,PutOk c id g bad pd a b)→(∀ b∈bs,b.dk=d→b.pl=p→b=b0)→AllV id (puts bs a).1 d p b0
 | [],a,h,_,_,_,_=>h
 | b :: bs,a,h,I,hdn,hok,hb=>by
  have h1:=h.put I hdn (hok b (List.mem_cons_self ..)) (hb b (List.mem_cons_self ..))
  obtain ⟨I1,S1,w⟩:=I.put hdn (hok b (List.mem_cons_self ..))
  rw [Go.Proofs.YtngbipjclpncoaaGreatDoor.X.puts]
  rcases w with ⟨w1,w2,_⟩|⟨w1,w2,_⟩
  ·rw [if_pos w1]
   exact AllV.puts bs h1 I1 w2 (fun b' hb'=>(hok b' (List.mem_cons_of_mem _ hb')).step S1) fun b' hb'=>hb b' (List.mem_cons_of_mem _ hb')
  ·rw [if_neg (by rw [w1];decide)]
   exact h1
theorem AllV.shs {c:Cfg} {id:Int} {g:Gh} {bad:Nat→Prop} {pd:Option Pd} {a:Arr} {d p:Nat} {b0:BlkD} (h:AllV id a d p b0) (I:Inv c id g bad pd a) (hdn:a.down=false) {n:Nat} (hn:(n:Int) < c.st) (hs:g.sq+1 < 36028797018963968) {ds:List Int} (hds:∀ d∈ds,d∈aliveL a a.disks.length) (hb:p=stP c n→b0=stB id c n (g.ep n) (g.tx n) d) :
  AllV id (vshR a id c n (g.ep n) (g.tx n) ds).1 d p b0:=by
 have hC:=I.conf
 have hge:=I.ge n hn
 have e3:vshR a id c n (g.ep n) (g.tx n) ds=Go.Proofs.YtngbipjclpncoaaGreatDoor.X.puts (ds.map (shB id (stripeR c n) (g.ep n) (splR c (g.tx n)).1)) a:=by
  unfold vshR
  rw [if_pos (spl0 hC hge.2.2),vshL_puts]
 rw [e3]
 refine h.puts _ I hdn (fun b hb'=> ?_) fun b hb' h1 h2=> ?_
 ·obtain ⟨d',hd',rfl⟩:=List.mem_map.1 hb'
  obtain ⟨f,rfl,hf,hal⟩:=alv_mem.1 (hds d' hd')
  rw [shB_eq hC hn]
  exact I.putSt hn (by omega) hs hge.2.2 (.inl ⟨rfl,rfl⟩) hf hal
 ·obtain ⟨d',hd',rfl⟩:=List.mem_map.1 hb'
  have h1:d'=(d:Int):=h1
  have h2:stripeR c n=(p:Int):=h2
  rw [stripe_eq hC hn] at h2
  subst h1
  rw [shB_eq hC hn,hb (by omega)]
end Go.Proofs.YtngbipjclpncoaaGreatDoor.X
