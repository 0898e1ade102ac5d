/-
  Rebuild: what stands, a disk that is replaced, writes meanwhile (plain mathematics).
-/
import Derived.Test.YtngbipjclpncoaaGreatDoorP24
namespace Go.Proofs.YtngbipjclpncoaaGreatDoor.X
open F
set_option linter.unusedSimpArgs false
set_option linter.unusedVariables false
theorem cnt_ge (j:Nat):∀ N,(List.range N).countP (fun d=>decide (j≤d))=N - j
 | 0=>by simp
 | N+1=>by
  rw [List.range_succ,List.countP_append,List.countP_cons,List.countP_nil,cnt_ge j N]
  by_cases h:j≤N
  ·simp [h];omega
  ·simp [h];omega
theorem cnt_drop {p q:Nat→Bool} {d:Nat} (h:∀ e,e≠d→p e=true→q e=true):∀ N,(List.range N).countP p≤(List.range N).countP q+if d < N then 1 else 0
 | 0=>by simp
 | N+1=>by
  have ih:=cnt_drop h N
  rw [List.range_succ,List.countP_append,List.countP_append,List.countP_cons,List.countP_nil,List.countP_cons,List.countP_nil]
  by_cases hd:N=d
  ·subst hd
   rw [if_neg (show ¬N < N by omega)] at ih
   rw [if_pos (show N < N+1 by omega)]
   split<;>split<;>omega
  ·have h1:=h N hd
   have e:(if d < N+1 then 1 else 0)=(if d < N then 1 else 0:Nat):=by
    by_cases h2:d < N
    ·rw [if_pos h2,if_pos (show d < N+1 by omega)]
    ·rw [if_neg h2,if_neg (show ¬d < N+1 by omega)]
   rw [e]
   by_cases hp:p N=true
   ·rw [if_pos hp,if_pos (h1 hp)]
    omega
   ·rw [if_neg hp]
    generalize (if q N=true then 1 else 0:Nat)=y
    omega
theorem VS.health {c:Cfg} {a:Arr} {sq:Int} {L:List Txt} (V:VS c a sq L (fun _=>False)) {n:Nat} (hn:(n:Int) < c.st):vhealthR a 7 c n=if c.k≤((aliveL a a.disks.length).length:Int) then (((aliveL a a.disks.length).length:Int),0) else (0,10):=by
 obtain ⟨⟨g,I,rfl,hL⟩,hdn,hq,hll⟩:=V
 have h1:=I.many hdn hn (fun d=>a.alive (d:Int)) fun d _ h=>⟨h,fun h=>h⟩
 have h2:=I.few hdn hn
 rw [←aliveL_cnt] at h1
 have:ofN (stE a 7 c n) (g.ep n)=(aliveL a a.disks.length).length:=by omega
 rw [I.vhealth hdn hn,this]
theorem VS.least {c:Cfg} {a:Arr} {sq:Int} {L:List Txt} (V:VS c a sq L (fun _=>False)) (hl:a.disks.length≤255):∀ k:Nat,(k:Int)≤c.st→leastL a 7 c k 255=if k=0 then (255,0) else if c.k≤((aliveL a a.disks.length).length:Int) then (((aliveL a a.disks.length).length:Int),0) else (0,10)
 | 0,_=>rfl
 | k+1,hk=>by
  have ih:=V.least hl k (by omega)
  have hh:=V.health (n:=k) (by omega)
  have h3:=aliveL_cnt a a.disks.length
  have h4:=List.countP_le_length (p:=fun d:Nat=>a.alive (d:Int)) (l:=List.range a.disks.length)
  rw [List.length_range] at h4
  rw [leastL,ih,hh]
  by_cases h0:k=0
  ·subst h0
   by_cases h:c.k≤((aliveL a a.disks.length).length:Int)
   ·simp [h];omega
   ·simp [h]
  ·by_cases h:c.k≤((aliveL a a.disks.length).length:Int)
   ·simp [h,h0]
   ·simp [h,h0]
def standsR (a:Arr) (id:Int) (c:Cfg):Int×Int:=if (leastR a id c).2=0 then ((leastR a id c).1 - c.k,0) else (0,(leastR a id c).2)
theorem VS.stands {c:Cfg} {a:Arr} {sq:Int} {L:List Txt} (V:VS c a sq L (fun _=>False)) (hl:a.disks.length≤255) (hst:1≤c.st):standsR a 7 c=if c.k≤((aliveL a a.disks.length).length:Int) then (((aliveL a a.disks.length).length:Int) - c.k,0) else (0,10):=by
 have h:=V.least hl c.st.toNat (by omega)
 rw [if_neg (by omega)] at h
 unfold standsR leastR
 rw [h]
 by_cases h:c.k≤((aliveL a a.disks.length).length:Int)
 ·simp [h]
 ·simp [h]
structure FL (c:Cfg) (a:Arr) (sq:Int) (L:List Txt) (j:Nat):Prop where
 v:VS c a sq L (fun _=>False)
 lf:a.left < 0
 len:(a.disks.length:Int)=c.k+c.m
 al:∀ d:Nat,d < a.disks.length→a.alive (d:Int)=decide (j≤d)
theorem Wh.fl {c:Cfg} {a:Arr} {sq:Int} {L:List Txt} (W:Wh c a sq L):FL c a sq L 0:=⟨W.v,W.lf,W.len,fun d hd=>by simp [W.al d hd]⟩
theorem FL.fail {c:Cfg} {a:Arr} {sq:Int} {L:List Txt} {j:Nat} (F:FL c a sq L j) (hj:j < a.disks.length):FL c (a.fail (j:Int)).1 sq L (j+1):=by
 obtain ⟨⟨g,I,e,hL⟩,hdn,hq,hll⟩:=F.v
 obtain ⟨I1,D⟩:=I.fail (bad':=fun _=>False) (fun _ h=>h) hj
 refine ⟨⟨⟨g,I1,e,hL⟩,by rw [D.dn];exact hdn,D.qt hq,hll⟩,by rw [D.lf];exact F.lf,by rw [D.len];exact F.len,fun d hd=> ?_⟩
 rw [D.al]
 by_cases h:d=j
 ·rw [if_pos h];simp;omega
 ·rw [if_neg h,F.al d (by rw [←D.len];exact hd)]
  by_cases h2:j≤d
  ·simp [h2];omega
  ·simp [h2];omega
theorem FL.cnt {c:Cfg} {a:Arr} {sq:Int} {L:List Txt} {j:Nat} (F:FL c a sq L j):(aliveL a a.disks.length).length=a.disks.length - j:=by
 rw [aliveL_cnt,←cnt_ge j]
 exact List.countP_congr fun d hd=>by rw [F.al d (List.mem_range.1 hd)]
theorem FL.stands {c:Cfg} {a:Arr} {sq:Int} {L:List Txt} {j:Nat} (F:FL c a sq L j) (h7:c.k+c.m≤7) (hst:1≤c.st) (hj:j≤c.m+1):standsR a 7 c=if (j:Int)≤c.m then (c.m - j,0) else (0,10):=by
 have hl:=F.len
 have hc:1≤c.k:=by
  obtain ⟨⟨g,I,_⟩,_⟩:=F.v
  have:=conf_sl I.conf
  omega
 rw [F.v.stands (by omega) hst,F.cnt]
 by_cases h:(j:Int)≤c.m
 ·rw [if_pos h,if_pos (show c.k≤((a.disks.length - j:Nat):Int) by omega)]
  congr 1
  omega
 ·rw [if_neg h,if_neg (show ¬c.k≤((a.disks.length - j:Nat):Int) by omega)]
theorem VS.drop {c:Cfg} {a:Arr} {sq:Int} {L:List Txt} (V:VS c a sq L (fun _=>False)) (d:Int):VS c (a.fail d).1 sq L (fun _=>False)∧(a.fail d).1.disks.length=a.disks.length∧(aliveL a a.disks.length).length≤(aliveL (a.fail d).1 (a.fail d).1.disks.length).length+1:=by
 obtain ⟨V1,_,hl⟩:=V.fail d
 refine ⟨V1,hl,?_⟩
 by_cases h:0≤d∧d < (a.disks.length:Int)
 ·obtain ⟨k,rfl⟩:=Int.eq_ofNat_of_zero_le h.1
  obtain ⟨⟨g,I,e,hL⟩,_⟩:=V
  obtain ⟨I1,D⟩:=I.fail (bad':=fun _=>False) (fun _ h=>h) (d:=k) (by omega)
  rw [hl,aliveL_cnt,aliveL_cnt]
  have:=cnt_drop (p:=fun e:Nat=>a.alive (e:Int)) (q:=fun e:Nat=>(a.fail (k:Int)).1.alive (e:Int)) (d:=k) (fun e he hp=>by
   show (a.fail (k:Int)).1.alive (e:Int)=true
   rw [D.al,if_neg he];exact hp) a.disks.length
  split at this<;>omega
 ·rw [fail_no h]
  omega
structure RB (c:Cfg) (a:Arr) (sq:Int) (L:List Txt) (d n:Nat):Prop where
 m:MS c a sq L (fun e=>e=d) (0 < n) n
 dn:a.down=false
 qt:Qt a
 lf:a.left < 0
 len:(a.disks.length:Int)=c.k+c.m
 dl:d < a.disks.length
 le:(n:Int)≤c.st
theorem cnt_ne {d:Nat} : ∀ N,d < N→(List.range N).countP (fun e=>decide (e≠d))+1=N
 | 0,h=>by omega
 | N+1,h=>by
  rw [List.range_succ,List.countP_append,List.countP_cons,List.countP_nil]
  by_cases hd:d=N
  ·subst hd
   have:(List.range d).countP (fun e=>decide (e≠d))=(List.range d).length:=List.countP_eq_length.2 fun e he=>by have:=List.mem_range.1 he;simp;omega
   rw [this]
   simp
  ·have:=cnt_ne (d:=d) N (by omega)
   rw [if_pos (show decide (N≠d)=true by simp;omega)]
   omega
theorem RB.gd {c:Cfg} {a:Arr} {sq:Int} {L:List Txt} {d n:Nat} (R:RB c a sq L d n) (hm:1≤c.m):Gd c a (fun e=>e=d):=by
 refine ⟨fun e=>decide (e≠d),fun e he h=>⟨R.m.al e he,by simpa using h⟩,?_⟩
 have h1:=cnt_ne a.disks.length R.dl
 have h2:=R.len
 omega
theorem Inv.rb {c:Cfg} {a:Arr} {g:Gh} {L:List Txt} {d:Nat} (I:Inv c 7 g (fun e=>e=d) none a) (hL:∀ n:Nat,(n:Int) < c.st→L[n]? = some (g.tx n)) (hdn:a.down=false) (hq:Qt a) (hll:(L.length:Int)=c.st) (hlf:a.left < 0) (hd:d < a.disks.length)
  (hal:∀ e:Nat,e < a.disks.length→e≠d→a.alive (e:Int)=true):RB c (a.replace (d:Int)).1 g.sq L d 0∧(a.replace (d:Int)).1.disks.length=a.disks.length:=by
 obtain ⟨I1,D⟩:=I.replace hd rfl
 have hl:=I.len
 have hc:=conf_sl I.conf
 refine ⟨⟨⟨⟨g,I1,rfl,hL,fun e _=>⟨fun h=>by omega,fun m hm=>by omega⟩⟩,hll,fun e he=> ?_⟩,by rw [D.dn];exact hdn,D.qt hq,by rw [D.lf];exact hlf,by rw [D.len];exact hl,by rw [D.len];exact hd,by omega⟩,D.len⟩
 rw [D.al]
 split
 ·rfl
 ·exact hal e (by rw [←D.len];exact he) (by assumption)
theorem Wh.rb {c:Cfg} {a:Arr} {sq:Int} {L:List Txt} (W:Wh c a sq L) {d:Nat} (hd:d < a.disks.length):RB c (a.replace (d:Int)).1 sq L d 0∧(a.replace (d:Int)).1.disks.length=a.disks.length:=by
 obtain ⟨⟨g,I,rfl,hL⟩,hdn,hq,hll⟩:=W.v
 exact (I.good fun e _ _=> .inl fun h=>h.elim:Inv c 7 g (fun e=>e=d) none a).rb hL hdn hq hll W.lf hd fun e he _=>W.al e he
theorem Wh.frb {c:Cfg} {a:Arr} {sq:Int} {L:List Txt} (W:Wh c a sq L) {d:Nat} (hd:d < a.disks.length):RB c (((a.fail (d:Int)).1).replace (d:Int)).1 sq L d 0∧(((a.fail (d:Int)).1).replace (d:Int)).1.disks.length=a.disks.length∧(a.fail (d:Int)).1.down=false∧(a.fail (d:Int)).1.disks.length=a.disks.length:=by
 obtain ⟨⟨g,I,rfl,hL⟩,hdn,hq,hll⟩:=W.v
 obtain ⟨I1,D⟩:=I.fail (bad':=fun e=>e=d) (fun _ h=>h.elim) hd
 have hdn1:(a.fail (d:Int)).1.down=false:=by rw [D.dn];exact hdn
 obtain ⟨r1,r2⟩:=I1.rb hL hdn1 (D.qt hq) hll (by rw [D.lf];exact W.lf) (by rw [D.len];exact hd) fun e he hne=>by
  rw [D.al,if_neg hne];exact W.al e (by rw [←D.len];exact he)
 exact ⟨r1,by rw [r2,D.len],hdn1,D.len⟩
theorem RB.step {c:Cfg} {a:Arr} {sq:Int} {L:List Txt} {d n:Nat} (R:RB c a sq L d n) (hC:ConfP c) (hs:sq+1 < 36028797018963968) {many:Int} (hm:1≤many) :
  (stepR a 7 c n many).er=0∧(stepR a 7 c n many).rp.lo=0∧∃ n':Nat,(stepR a 7 c n many).rp.nx=n'∧(n':Int)=n+min many (c.st - n)∧(stepR a 7 c n many).rp.dn=decide ((n':Int)=c.st)∧RB c (stepR a 7 c n many).ar sq L d n':=by
 have hc:=conf_sl hC
 have hle:=R.le
 have hm1:1≤c.m:=by have:=hC.1.2.1;have:=hC.2.1;omega
 by_cases hn:(n:Int) < c.st
 ·obtain ⟨S,w⟩:=R.m.step hC R.dn R.qt (R.gd hm1) hs hn hm
  rcases w with ⟨w1,w2,w3,n',w4,w5,w6,w7,w8⟩|⟨_,_,w3,_⟩
  ·exact ⟨w1,w7,n',w4,w5,w6,w8,w2,w3,S.neg R.lf,by rw [S.len];exact R.len,by rw [S.len];exact R.dl,by omega⟩
  ·exact (w3 R.lf).elim
 ·have e:(n:Int)=c.st:=by omega
  have hst:1≤c.st:=hC.2.2.2.1.1
  have hk:(min many (c.st - (n:Int))).toNat=0:=by omega
  have hE:stepR a 7 c n many=⟨a,⟨n,0,0,decide ((n:Int)=c.st)⟩,0⟩:=by
   unfold stepR
   rw [if_neg (by omega),if_neg (by omega),hk]
   rfl
  rw [hE]
  exact ⟨rfl,rfl,n,rfl,by omega,rfl,R⟩
theorem RB.wh {c:Cfg} {a:Arr} {sq:Int} {L:List Txt} {d n:Nat} (R:RB c a sq L d n) (hst:1≤c.st) (hn:(n:Int)=c.st):Wh c a sq L :=
 ⟨R.m.vs (by omega) (by omega) R.dn R.qt _,R.lf,R.len,R.m.al⟩
theorem Inv.writeV {c:Cfg} {g:Gh} {bad:Nat→Prop} {a:Arr} (I:Inv c 7 g bad none a) (hdn:a.down=false) (hlf:a.left < 0) {n:Nat} {t:Txt} (hn:(n:Int) < c.st) (ht:(t.length:Int)≤confCap c) (hs:g.sq+1 < 36028797018963968)
  (hk:c.k≤((aliveL a a.disks.length).length:Int)) :
  (∀ (d p:Nat) b0,p≠stP c n→(∀ i,p≠slP c i)→AllV 7 a d p b0→AllV 7 (vwriteR a 7 c g.sq n t).1 d p b0)∧∀ d:Nat,d < a.disks.length→a.alive (d:Int)=true→AllV 7 (vwriteR a 7 c g.sq n t).1 d (stP c n) (stB 7 c n (g.sq+1) t d):=by
 have hC:=I.conf
 have h1:=conf_sl hC
 have hl:=I.len
 have s0:=I.s0
 have hcap:=cap_eq hC
 have hjn:=I.jn hk
 have I1:=I.begin hn ht
 have i1:(iwriteR ⟨g.sq,n,t⟩).2=0:=(intent_back (i:=⟨g.sq,n,t⟩) ⟨s0,by show g.sq < _;omega,by show (0:Int)≤n;omega,by show (n:Int) < 65536;omega,by show t.length < 65000;omega⟩).1
 have e0:(vwriteR a 7 c g.sq n t).1=(tryR (tryR (tryR (puts ((aliveL a (c.m+1).toNat).map (jrB 7 c g.sq (iwriteR ⟨g.sq,n,t⟩).1)) a) flushR) fun a'=>vshR a' 7 c n (g.sq+1) t (aliveL a a.disks.length)) flushR).1:=by
  unfold vwriteR
  rw [if_neg (by omega),if_neg (by omega),if_neg (by simp [hdn])]
  simp only
  rw [if_neg (by rintro (h|h);omega;exact hjn (List.length_eq_zero_iff.1 h)),i1,jrL_puts]
 rw [e0]
 have hJ:∀ b∈(aliveL a (c.m+1).toNat).map (jrB 7 c g.sq (iwriteR ⟨g.sq,n,t⟩).1),PutOk c 7 g bad (some ⟨n,t,false⟩) a b:=by
  intro b hb
  obtain ⟨d,hd,rfl⟩:=List.mem_map.1 hb
  obtain ⟨e,rfl,he,hal⟩:=alv_mem.1 hd
  exact (I1.putJ (by omega) hal).1
 have hA1:∀ (d p:Nat) b0,(∀ i,p≠slP c i)→AllV 7 a d p b0→AllV 7 (puts ((aliveL a (c.m+1).toNat).map (jrB 7 c g.sq (iwriteR ⟨g.sq,n,t⟩).1)) a).1 d p b0:=fun d p b0 hp h=>by
  refine h.puts _ I1 hdn hJ fun b hb _ h2=> ?_
  obtain ⟨d',hd',rfl⟩:=List.mem_map.1 hb
  have h2:1+g.sq % c.sl=(p:Int):=h2
  have h3:=(slP_lt hC g.sq).1
  exact (hp g.sq (by omega)).elim
 obtain ⟨I2,S2,k⟩:=I1.putsI _ hdn hJ
 generalize hp:puts ((aliveL a (c.m+1).toNat).map (jrB 7 c g.sq (iwriteR ⟨g.sq,n,t⟩).1)) a=p at *
 obtain ⟨a1,e1⟩:=p
 simp only at I2 S2 k hA1
 rcases k with ⟨rfl,d1,k⟩|⟨rfl,d1,k⟩
 rotate_left
 ·exact (k hlf).elim
 rw [tryR_ok (p:=(a1,0)) rfl,(flush_ok d1).1,tryR_ok (p:=(a1.flush,0)) rfl]
 have d2:=(flush_ok d1).2
 obtain ⟨d0,hd0⟩:=List.exists_mem_of_ne_nil _ hjn
 obtain ⟨e,rfl,he,hal⟩:=alv_mem.1 hd0
 have hjr:AllV 7 a1.flush e (slP c g.sq) (jB 7 c g ⟨n,t,true⟩ e):=by
  refine Lst.flush d1 I2.dk (k e (slP c g.sq) _ (fun b hb hbp=> ?_) (.inr ⟨?_,?_,?_⟩))
  ·obtain ⟨d,hd,rfl⟩:=List.mem_map.1 hb
   have:d=(e:Int):=hbp.1
   subst this
   exact (I1.putJ (by omega) hal).2
  ·rw [←(I1.putJ (d:=e) (by omega) hal).2]
   exact List.mem_map.2 ⟨_,hd0,rfl⟩
  ·rfl
  ·rfl
 have hi2:=(intent_back (i:=⟨g.sq,n,t⟩) ⟨s0,by show g.sq < _;omega,by show (0:Int)≤n;omega,by show (n:Int) < 65536;omega,by show t.length < 65000;omega⟩).2.1
 have hjr':AllJ 7 c g ⟨n,t,true⟩ a1.flush e:=by
  obtain ⟨x,x1,x2,x3,x4⟩:=hjr
  refine ⟨x,x1,x2,x3,fun s hs=> ?_⟩
  have:=x4 s hs
  unfold Ownd at this
  exact ⟨by rw [this],by rw [this];exact hi2⟩
 have I3:=(I2.flush).shards ⟨e,by omega,hjr'⟩
 have S3:=S2.trans (Stp.flush a1)
 have e3:vshR a1.flush 7 c n (g.sq+1) t (aliveL a a.disks.length)=puts ((aliveL a a.disks.length).map (shB 7 (stripeR c n) (g.sq+1) (splR c t).1)) a1.flush:=by
  unfold vshR
  rw [if_pos (spl0 hC ht),vshL_puts]
 simp only [e3]
 have hS:∀ b∈(aliveL a a.disks.length).map (shB 7 (stripeR c n) (g.sq+1) (splR c t).1),PutOk c 7 g bad (some ⟨n,t,true⟩) a1.flush b:=by
  intro b hb
  obtain ⟨d,hd,rfl⟩:=List.mem_map.1 hb
  obtain ⟨e,rfl,he,hal⟩:=alv_mem.1 hd
  rw [shB_eq hC hn]
  exact I3.putSt hn (by omega) hs ht (.inr ⟨_,rfl,rfl,rfl,rfl,rfl⟩) (by rw [S3.len];exact he) (by rw [S3.al];exact hal)
 have hA2:∀ (d p:Nat) b0,p≠stP c n→AllV 7 a1.flush d p b0→AllV 7 (puts ((aliveL a a.disks.length).map (shB 7 (stripeR c n) (g.sq+1) (splR c t).1)) a1.flush).1 d p b0:=fun d p b0 hp h=>by
  refine h.puts _ I3 d2 hS fun b hb _ h2=> ?_
  obtain ⟨d',hd',rfl⟩:=List.mem_map.1 hb
  have h2:stripeR c n=(p:Int):=h2
  rw [stripe_eq hC hn] at h2
  exact (hp (by omega)).elim
 obtain ⟨I4,S4,k4⟩:=I3.putsI _ d2 hS
 generalize hp4:puts ((aliveL a a.disks.length).map (shB 7 (stripeR c n) (g.sq+1) (splR c t).1)) a1.flush=p4 at *
 obtain ⟨a4,e4⟩:=p4
 simp only at I4 S4 k4 hA2
 rcases k4 with ⟨rfl,d4,k4⟩|⟨rfl,d4,k4⟩
 rotate_left
 ·exact (k4 (S3.neg hlf)).elim
 rw [tryR_ok (p:=(a4,0)) rfl,(flush_ok d4).1]
 have S5:=(S3.trans S4).trans (Stp.flush a4)
 refine ⟨fun d p b0 hp1 hp2 h=>(hA2 d p b0 hp1 ((hA1 d p b0 hp2 h).flush I2.dk)).flush I4.dk,fun d hd' hal'=> ?_⟩
 have hmem:(d:Int)∈aliveL a a.disks.length:=alv_mem.2 ⟨d,rfl,hd',hal'⟩
 refine Lst.flush d4 I4.dk (k4 d (stP c n) _ (fun b hb hbp=> ?_) (.inr ⟨List.mem_map.2 ⟨_,hmem,shB_eq hC hn d⟩,rfl,rfl⟩))
 obtain ⟨d',hd',rfl⟩:=List.mem_map.1 hb
 have:d'=(d:Int):=hbp.1
 subst this
 exact shB_eq hC hn d
theorem RB.write {c:Cfg} {a:Arr} {sq:Int} {L:List Txt} {d n:Nat} (R:RB c a sq L d n) (hs:sq+1 < 36028797018963968) (i:Int) (t:Txt) :
  (vwriteR a 7 c sq i t).2.2=mWrE c i t∧(vwriteR a 7 c sq i t).2.1=(if mWrE c i t=0 then sq+1 else sq)∧RB c (vwriteR a 7 c sq i t).1 (vwriteR a 7 c sq i t).2.1 (mWr c L i t) d n:=by
 obtain ⟨⟨g,I,rfl,hL,hA⟩,hll,hal⟩:=R.m
 have hm0:0≤c.m:=I.conf.1.2.1
 have hkk:c.k≤((aliveL a a.disks.length).length:Int):=by rw [aliveL_all hal];have:=R.len;omega
 have V:VS c a g.sq L (fun e=>e=d):=⟨⟨g,I,rfl,hL⟩,R.dn,R.qt,hll⟩
 obtain ⟨e1,e2,V1,S⟩:=V.write R.lf hkk hs i t
 refine ⟨e1,e2,?_,V1.dn,V1.qt,S.neg R.lf,by rw [S.len];exact R.len,by rw [S.len];exact R.dl,R.le⟩
 by_cases h1:i < 0∨c.st≤i
 ·have e:vwriteR a 7 c g.sq i t=(a,g.sq,1):=by unfold vwriteR;rw [if_pos h1]
  have e1:mWrE c i t=1:=by unfold mWrE;rw [if_pos h1]
  have e2:mWr c L i t=L:=by unfold mWr;rw [e1];rfl
  rw [e,e2]
  exact R.m
 by_cases h2:confCap c < t.length
 ·have e:vwriteR a 7 c g.sq i t=(a,g.sq,12):=by unfold vwriteR;rw [if_neg h1,if_pos h2]
  have e1:mWrE c i t=12:=by unfold mWrE;rw [if_neg h1,if_pos h2]
  have e2:mWr c L i t=L:=by unfold mWr;rw [e1];rfl
  rw [e,e2]
  exact R.m
 have e3:mWrE c i t=0:=by unfold mWrE;rw [if_neg h1,if_neg h2]
 obtain ⟨k,rfl⟩:=Int.eq_ofNat_of_zero_le (show 0≤i by omega)
 obtain ⟨S',w⟩:=I.write R.dn (n:=k) (t:=t) (by omega) (by omega) hs hkk
 obtain ⟨v1,v2⟩:=I.writeV R.dn R.lf (n:=k) (t:=t) (by omega) (by omega) hs hkk
 rcases w with ⟨w1,w2,w3,w4⟩|⟨_,_,w3,_⟩
 rotate_left
 ·exact (w3 R.lf).elim
 have e4:(vwriteR a 7 c g.sq (k:Int) t).2.1=(g.upd k t).sq:=by rw [w1];rfl
 obtain ⟨⟨g',_,eg,hL'⟩,_,_,hll'⟩:=V1
 rw [e4]
 refine ⟨⟨g.upd k t,w3,rfl,fun m hm=> ?_,fun f hf=>⟨fun h=> ?_,fun m hm hm2=> ?_⟩⟩,hll',fun f hf=>by rw [S.al];exact hal f (by rw [←S.len];exact hf)⟩
 ·unfold mWr
  rw [e3]
  simp only [if_true,Int.toNat_natCast,Gh.upd]
  rw [List.getElem?_set]
  by_cases hmk:m=k
  ·subst hmk
   rw [if_pos rfl,if_pos rfl,if_pos (by omega)]
  ·rw [if_neg (fun h=>hmk h.symm),if_neg hmk]
   exact hL m hm
 ·exact v1 _ _ _ (by unfold stP;omega) (fun i=>by unfold slP;omega) ((hA f (by rw [←S.len];exact hf)).1 h)
 ·have hf':f < a.disks.length:=by rw [←S.len];exact hf
  by_cases hmk:m=k
  ·subst hmk
   simp only [Gh.upd,if_true]
   exact v2 f hf' (hal f hf')
  ·simp only [Gh.upd,if_neg hmk]
   exact v1 _ _ _ (by unfold stP;omega) (fun i=>slP_ne I.conf i m) ((hA f hf').2 m hm hm2)
end Go.Proofs.YtngbipjclpncoaaGreatDoor.X
