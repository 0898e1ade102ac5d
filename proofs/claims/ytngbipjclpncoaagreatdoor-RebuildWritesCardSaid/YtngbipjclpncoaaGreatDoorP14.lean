/-
  Looking at all stripes: models, and what is mended (plain mathematics).
-/
import Derived.Test.YtngbipjclpncoaaGreatDoorP13
namespace Go.Proofs.YtngbipjclpncoaaGreatDoor.X
open F
set_option linter.unusedSimpArgs false
set_option linter.unusedVariables false
structure RepD where
 nx:Int
 me:Int
 lo:Int
 dn:Bool
def rep0:RepD:=⟨0,0,0,false⟩
def addE (e:Int):Int:=if e=10 then 0 else e
def addR (r:RepD) (many e:Int):RepD:=⟨r.nx,r.me+many,if e=10 then r.lo+1 else r.lo,r.dn⟩
structure ScD where
 ar:Arr
 rp:RepD
 er:Int
def stepL (id:Int) (c:Cfg):Nat→Arr→RepD→ScD
 | 0,a,r=>⟨a,⟨r.nx,r.me,r.lo,decide (r.nx=c.st)⟩,0⟩
 | n+1,a,r =>
  if addE (vmendR a id c r.nx).2.2≠0 then ⟨(vmendR a id c r.nx).1,rep0,addE (vmendR a id c r.nx).2.2⟩
  else stepL id c n (vmendR a id c r.nx).1 ⟨r.nx+1,(addR r (vmendR a id c r.nx).2.1 (vmendR a id c r.nx).2.2).me,(addR r (vmendR a id c r.nx).2.1 (vmendR a id c r.nx).2.2).lo,r.dn⟩
def stepR (a:Arr) (id:Int) (c:Cfg) (fr many:Int):ScD :=
 if fr < 0∨c.st < fr∨many < 1 then ⟨a,rep0,1⟩
 else if fr=0 then
  (if addE (vheadsR a id c).2.2≠0 then ⟨(vheadsR a id c).1,rep0,addE (vheadsR a id c).2.2⟩
   else stepL id c (min many (c.st - fr)).toNat (vheadsR a id c).1 (addR ⟨fr,0,0,false⟩ (vheadsR a id c).2.1 (vheadsR a id c).2.2))
 else stepL id c (min many (c.st - fr)).toNat a ⟨fr,0,0,false⟩
def scAllR (a:Arr) (id:Int) (c:Cfg):ScD:=stepR a id c 0 (max c.st 1)
def leastL (a:Arr) (id:Int) (c:Cfg):Nat→Int→Int×Int
 | 0,l=>(l,0)
 | n+1,l=>if (leastL a id c n l).2≠0 then leastL a id c n l else if (vhealthR a id c n).2≠0 then (0,(vhealthR a id c n).2) else (min (leastL a id c n l).1 (vhealthR a id c n).1,0)
def leastR (a:Arr) (id:Int) (c:Cfg):Int×Int:=leastL a id c c.st.toNat 255
def SA (a b:Arr) (d p:Nat):Prop:= ∀ x,a.disks[d]? = some x→∃ y,b.disks[d]? = some y∧y.gone=x.gone∧y.secs.length=x.secs.length∧y.at_ p=x.at_ p
theorem SA.refl (a:Arr) (d p:Nat):SA a a d p:=fun x hx=>⟨x,hx,rfl,rfl,rfl⟩
theorem SA.trans {a b c:Arr} {d p:Nat} (h:SA a b d p) (k:SA b c d p):SA a c d p:=fun x hx=>by
 obtain ⟨y,h1,h2,h3,h4⟩:=h x hx
 obtain ⟨z,k1,k2,k3,k4⟩:=k y h1
 exact ⟨z,k1,k2.trans h2,k3.trans h3,k4.trans h4⟩
theorem SA.dsks {a b:Arr} (h:b.disks=a.disks) (d p:Nat):SA a b d p:=fun x hx=>⟨x,by rw [h];exact hx,rfl,rfl,rfl⟩
theorem SA.write {a:Arr} {d p:Nat} {i j:Int} {s:Txt} (h:¬(i=d∧j=p)):SA a (a.write i j s) d p:=by
 intro x hx
 unfold Arr.write
 split
 ·exact ⟨x,hx,rfl,rfl,rfl⟩
 split
 ·exact ⟨x,hx,rfl,rfl,rfl⟩
 rename_i y hy
 split
 ·exact ⟨x,hx,rfl,rfl,rfl⟩
 split
 ·exact ⟨x,hx,rfl,rfl,rfl⟩
 rename_i hc _
 have hy':0≤i∧a.disks[i.toNat]? = some y:=by unfold Arr.on? at hy;split at hy;exact ⟨by assumption,hy⟩;cases hy
 show ∃ z,(a.disks.set i.toNat (y.write j s))[d]? = some z∧_
 rw [List.getElem?_set]
 by_cases hd:i.toNat=d
 ·have hxy:x=y:=by rw [←hd,hy'.2] at hx;exact (Option.some.inj hx).symm
  subst hxy
  rw [if_pos hd,if_pos (List.getElem?_eq_some_iff.1 hy'.2).1]
  have hw:x.write j s = { x with waits:=x.waits ++ [(j,s)] } := by unfold Dsk.write;rw [if_pos (by simpa using hc)]
  refine ⟨_,rfl,by rw [hw],by rw [hw],?_⟩
  rw [hw]
  unfold Dsk.at_
  simp only
  rw [lastW_app,if_neg (fun e=>h ⟨by omega,e⟩)]
 ·rw [if_neg hd];exact ⟨x,hx,rfl,rfl,rfl⟩
theorem SA.vput {a:Arr} {b:BlkD} {d p:Nat} (h:¬(b.dk=d∧b.pl=p)):SA a (vput a b) d p:=by
 unfold Go.Proofs.YtngbipjclpncoaaGreatDoor.X.vput
 split
 ·exact SA.write h
 ·exact SA.refl _ _ _
theorem SA.puts {d p:Nat} : ∀ (bs:List BlkD) {a:Arr},(∀ b∈bs,¬(b.dk=d∧b.pl=p))→SA a (puts bs a).1 d p
 | [],a,_=>SA.refl _ _ _
 | b :: bs,a,h=>by
  have h1:SA a (Go.Proofs.YtngbipjclpncoaaGreatDoor.X.vput a b) d p:=SA.vput (h b (List.mem_cons_self ..))
  rw [Go.Proofs.YtngbipjclpncoaaGreatDoor.X.puts]
  split
  ·exact h1.trans (SA.puts bs fun b' hb'=>h b' (List.mem_cons_of_mem _ hb'))
  ·exact h1
theorem SA.flush {c:Cfg} {a:Arr} (hdk:∀ x∈a.disks,DskG c x) {d p:Nat} (hp:(p:Int) < 1+c.sl+c.st):SA a a.flush d p:=by
 intro x hx
 unfold Arr.flush
 split
 ·exact ⟨x,hx,rfl,rfl,rfl⟩
 have hG:=hdk x (List.mem_of_getElem? hx)
 refine ⟨x.flush,by simp [hx],Dsk.crash_gone _,Dsk.crash_secs _,?_⟩
 cases hg:x.gone with
 | true=>unfold Dsk.flush Dsk.crash;rw [if_pos hg]
 | false=>exact Dsk.flush_at hg hG.waits (by have:=hG.secs;omega)
theorem SA.shs {c:Cfg} {id:Int} {a:Arr} (hC:ConfP c) {n:Nat} (hn:(n:Int) < c.st) {e:Int} {t:Txt} {ds:List Int} {d p:Nat} (h:p≠stP c n):SA a (vshR a id c n e t ds).1 d p:=by
 unfold vshR
 split
 ·rw [vshL_puts]
  refine SA.puts _ fun b hb=> ?_
  obtain ⟨d',_,rfl⟩:=List.mem_map.1 hb
  intro hbp
  have:stripeR c n=(p:Int):=hbp.2
  rw [stripe_eq hC hn] at this
  omega
 ·exact SA.refl _ _ _
theorem tryR_SA {p:Arr×Int} {f:Arr→Arr×Int} {a:Arr} {d q:Nat} (h:SA a p.1 d q) (hf:SA p.1 (f p.1).1 d q):SA a (tryR p f).1 d q:=by
 unfold tryR
 split
 ·exact h.trans hf
 ·exact h
theorem SA.vmend {c:Cfg} {id:Int} {g:Gh} {bad:Nat→Prop} {a:Arr} (I:Inv c id g bad none a) (hdn:a.down=false) {n:Nat} (hn:(n:Int) < c.st) (hk:c.k≤ofN (stE a id c n) (g.ep n)) (hs:g.sq+1 < 36028797018963968) {d p:Nat} (h:p≠stP c n) (hp:(p:Int) < 1+c.sl+c.st):SA a (vmendR a id c n).1 d p:=by
 have hge:=I.ge n hn
 have hr:=I.vread hdn hn
 have hl:=I.look hdn hn
 rw [if_pos hk] at hr hl
 unfold vreadR at hr
 rw [hl] at hr
 simp only [if_true] at hr
 obtain ⟨I1,S1,w⟩:=I.shs hdn hn (e:=g.ep n) (t:=g.tx n) (by omega) hs hge.2.2 (.inl ⟨rfl,rfl⟩) (ds:=lacksL a (ofH (stE a id c n) (g.ep n))) fun d hd=>(List.mem_filter.1 hd).1
 have key:SA a (tryR (vshR a id c n (g.ep n) (g.tx n) (lacksL a (ofH (stE a id c n) (g.ep n)))) flushR).1 d p :=
  tryR_SA (SA.shs I.conf hn h) (SA.flush I1.dk hp)
 unfold vmendR
 rw [hl]
 simp only
 rw [if_neg (by simp),hr]
 simp only
 rw [if_neg (by simp)]
 split<;>exact key
theorem Lst.sa {id:Int} {a b:Arr} {d p:Nat} {bk:BlkD} (h:Lst id a d p bk) (S:SA a b d p):Lst id b d p bk:=by
 obtain ⟨x,h1,h2,h3,h4⟩:=h
 obtain ⟨y,k1,k2,k3,k4⟩:=S x h1
 exact ⟨y,k1,by rw [k2];exact h2,by rw [k3];exact h3,by rw [k4];exact h4⟩
def UnA (a:Arr) (d p:Nat):Prop:= ∃ x,a.disks[d]? = some x∧x.gone=false∧p < x.secs.length∧Un 7 d p (x.at_ p)
theorem UnA.sa {a b:Arr} {d p:Nat} (h:UnA a d p) (S:SA a b d p):UnA b d p:=by
 obtain ⟨x,h1,h2,h3,h4⟩:=h
 obtain ⟨y,k1,k2,k3,k4⟩:=S x h1
 exact ⟨y,k1,by rw [k2];exact h2,by rw [k3];exact h3,by rw [k4];exact h4⟩
theorem UnA.get {c:Cfg} {a:Arr} (hdn:a.down=false) (hdk:∀ x∈a.disks,DskG c x) (hsz:0≤c.k * c.sh+42) {d p:Nat} (h:UnA a d p):(vgetR a 7 d p).2=false:=by
 obtain ⟨x,h1,h2,h3,h4⟩:=h
 rw [vget_alive hdn hdk hsz h1 h2 h3]
 have:(bownR (x.at_ p) 7 d p).2≠0:=h4
 simp [this]
structure EX (c:Cfg) (a:Arr) (sq:Int) (L:List Txt) (X:Nat→Nat→Bool):Prop where
 ex:∃ g,Inv c 7 g (fun _=>True) none a∧g.sq=sq∧(∀ n:Nat,(n:Int) < c.st→L[n]? = some (g.tx n)) ∧
  ∀ d:Nat,d < a.disks.length→(X d 0=false→Lst 7 a d 0 (hdB 7 d c))∧(X d 0=true→UnA a d 0) ∧
   ∀ n:Nat,(n:Int) < c.st→(X d (stP c n)=false→Lst 7 a d (stP c n) (stB 7 c n (g.ep n) (g.tx n) d))∧(X d (stP c n)=true→UnA a d (stP c n))
 dn:a.down=false
 qt:Qt a
 ll:(L.length:Int)=c.st
 al:∀ d:Nat,d < a.disks.length→a.alive (d:Int)=true
 lf:a.left < 0
def cntX (X:Nat→Nat→Bool) (N p:Nat):Nat:=(List.range N).countP fun d=>X d p
def clr (X:Nat→Nat→Bool) (q:Nat):Nat→Nat→Bool:=fun d p=>if p=q then false else X d p
theorem lacks_len {a:Arr} {hv:List Bool} (hal:∀ d:Nat,d < a.disks.length→a.alive (d:Int)=true) (q:Nat→Bool) (h:∀ d:Nat,d < a.disks.length→hv[d]?.getD false = !q d):(lacksL a hv).length=(List.range a.disks.length).countP q:=by
 have e:aliveL a a.disks.length=(List.range a.disks.length).map fun d:Nat=>(d:Int):=by
  unfold aliveL
  rw [List.filter_eq_self.2 fun d hd=>hal d (List.mem_range.1 hd)]
 unfold lacksL
 rw [e,←List.countP_eq_length_filter,List.countP_map]
 refine List.countP_congr fun d hd=> ?_
 have:=h d (List.mem_range.1 hd)
 simp [this]
theorem EX.ofN {c:Cfg} {a:Arr} {g:Gh} {X:Nat→Nat→Bool} (I:Inv c 7 g (fun _=>True) none a) (hdn:a.down=false) {n:Nat} (hn:(n:Int) < c.st) (h:∀ d:Nat,d < a.disks.length→(X d (stP c n)=false→Lst 7 a d (stP c n) (stB 7 c n (g.ep n) (g.tx n) d))∧(X d (stP c n)=true→UnA a d (stP c n))) :
  (∀ d:Nat,d < a.disks.length→(stGet a 7 c n d).2=if X d (stP c n)=true then -1 else g.ep n)∧Go.Proofs.YtngbipjclpncoaaGreatDoor.X.ofN (stE a 7 c n) (g.ep n)+cntX X a.disks.length (stP c n)=a.disks.length:=by
 have hge:=I.ge n hn
 have hl:=I.len
 have h1:∀ d:Nat,d < a.disks.length→(stGet a 7 c n d).2=if X d (stP c n)=true then -1 else g.ep n:=fun d hd=>by
  obtain ⟨k1,k2⟩:=h d hd
  by_cases hx:X d (stP c n)=true
  ·rw [if_pos hx,st_none (by rw [stripe_eq I.conf hn];exact (k2 hx).get hdn I.dk I.sz)]
  ·rw [if_neg hx,st_right I.conf hdn I.dk hn (by omega) hge.2.2 (k1 (by simpa using hx))]
 refine ⟨h1,?_⟩
 rw [ofN_stE]
 unfold cntX
 have:(List.range a.disks.length).countP (fun d:Nat=>decide ((stGet a 7 c n d).2=g.ep n))=(List.range a.disks.length).countP (fun d => !X d (stP c n)):=List.countP_congr fun d hd=>by
  rw [h1 d (List.mem_range.1 hd)]
  cases X d (stP c n)
  ·simp
  ·simp;omega
 rw [this]
 have h3:=List.length_eq_countP_add_countP (fun d:Nat=>X d (stP c n)) (l:=List.range a.disks.length)
 have h4:(List.range a.disks.length).countP (fun d=>decide ¬(X d (stP c n)=true))=(List.range a.disks.length).countP (fun d => !X d (stP c n)):=List.countP_congr fun d _=>by cases X d (stP c n)<;>simp
 rw [List.length_range] at h3
 omega
theorem EX.mend {c:Cfg} {a:Arr} {sq:Int} {L:List Txt} {X:Nat→Nat→Bool} (E:EX c a sq L X) {n:Nat} (hn:(n:Int) < c.st) (hs:sq+1 < 36028797018963968) :
  if c.k+cntX X a.disks.length (stP c n)≤a.disks.length then (vmendR a 7 c n).2=(((cntX X a.disks.length (stP c n):Nat):Int),0)∧EX c (vmendR a 7 c n).1 sq L (clr X (stP c n))∧(vmendR a 7 c n).1.disks.length=a.disks.length
  else vmendR a 7 c n=(a,0,10):=by
 obtain ⟨⟨g,I,rfl,hL,hX⟩,hdn,hq,hll,hal,hlf⟩:=E
 obtain ⟨h1,h2⟩:=EX.ofN I hdn hn fun d hd=>(hX d hd).2.2 n hn
 have hge:=I.ge n hn
 split
 ·rename_i hk
  have hk':c.k≤Go.Proofs.YtngbipjclpncoaaGreatDoor.X.ofN (stE a 7 c n) (g.ep n):=by omega
  obtain ⟨m1,m2,m3,m4,m5,m6,m7,m8⟩:=I.vmend hdn hn hk' hs hlf
  have hsa:=fun {d p:Nat} (h:p≠stP c n) (hp:(p:Int) < 1+c.sl+c.st)=>SA.vmend (d:=d) I hdn hn hk' hs h hp
  have hlen:=m3.len
  refine ⟨Prod.ext ?_ m1,⟨⟨g,m2,rfl,hL,fun d hd=> ?_⟩,m4,m5,hll,fun d hd=>by rw [m3.al];exact hal d (by rw [←m3.len];exact hd),m3.neg hlf⟩,hlen⟩
  ·rw [m6,lacks_len hal (fun d=>X d (stP c n)) fun d hd=> ?_]
   ·rfl
   ·unfold ofH
    rw [stE_eq,List.getElem?_map,List.getElem?_map,List.getElem?_range hd]
    have:=h1 d hd
    simp only [Option.map_some,Option.getD_some,this]
    cases X d (stP c n)
    ·simp
    ·simp;omega
  ·rw [hlen] at hd
   have hc1:=conf_sl I.conf
   obtain ⟨k1,k2,k3⟩:=hX d hd
   have hmem:(d:Int)∈aliveL a a.disks.length:=alv_mem.2 ⟨d,rfl,hd,hal d hd⟩
   have h0:(0:Nat)≠stP c n:=by unfold stP;omega
   refine ⟨fun hx=> ?_,fun hx=> ?_,fun m hm=>⟨fun hx=> ?_,fun hx=> ?_⟩⟩
   ·unfold clr at hx;rw [if_neg h0] at hx
    exact (k1 hx).sa (hsa h0 (by show (0:Int) < _;omega))
   ·unfold clr at hx;rw [if_neg h0] at hx
    exact (k2 hx).sa (hsa h0 (by show (0:Int) < _;omega))
   ·by_cases hmn:m=n
    ·subst hmn;exact m7 d hmem
    ·have hne:stP c m≠stP c n:=by unfold stP;omega
     unfold clr at hx;rw [if_neg hne] at hx
     exact ((k3 m hm).1 hx).sa (hsa hne (by unfold stP;push_cast;omega))
   ·by_cases hmn:m=n
    ·subst hmn;unfold clr at hx;rw [if_pos rfl] at hx;cases hx
    ·have hne:stP c m≠stP c n:=by unfold stP;omega
     unfold clr at hx;rw [if_neg hne] at hx
     exact ((k3 m hm).2 hx).sa (hsa hne (by unfold stP;push_cast;omega))
 ·rename_i hk
  have hl:=I.look hdn hn
  rw [if_neg (by omega)] at hl
  unfold vmendR
  rw [hl]
  simp
end Go.Proofs.YtngbipjclpncoaaGreatDoor.X
