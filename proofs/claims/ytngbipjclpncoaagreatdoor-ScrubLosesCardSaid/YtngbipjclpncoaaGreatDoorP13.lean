/-
  A volume that is damaged and mended, beside a list of bad disks; crashes (plain mathematics).
-/
import Derived.Test.YtngbipjclpncoaaGreatDoorPA
import Derived.Test.YtngbipjclpncoaaGreatDoorVG
namespace Go.Proofs.YtngbipjclpncoaaGreatDoor.X
open F
set_option linter.unusedSimpArgs false
set_option linter.unusedVariables false
def bdP (bd:List Bool) (d:Nat):Prop:=bd[d]? = some true
def bads (bd:List Bool):Nat:=bd.countP fun b=>b
theorem countP_range {α:Type} (p:α→Bool) (q:Nat→Bool):∀ (l:List α) (n:Nat),(∀ (i:Nat) x,l[i]? = some x→q (n+i)=p x)→((List.range l.length).map (n + ·)).countP q=l.countP p
 | [],n,_=>rfl
 | x :: l,n,h=>by
  have e:(List.range (x :: l).length).map (n + ·)=n :: (List.range l.length).map (n+1 + ·):=by
   rw [List.length_cons,List.range_succ_eq_map,List.map_cons,List.map_map]
   congr 1
   exact List.map_congr_left fun a _=>by simp;omega
  have h0:=h 0 x rfl
  rw [Nat.add_zero] at h0
  rw [e,List.countP_cons,List.countP_cons,h0,countP_range p q l (n+1) fun i y hy=>by
   have:=h (i+1) y (by simpa using hy)
   rw [show n+1+i=n+(i+1) by omega]
   exact this]
structure SS (c:Cfg) (a:Arr) (sq:Int) (L:List Txt) (bd:List Bool):Prop where
 v:VS c a sq L (bdP bd)
 lf:a.left < 0
 bl:(bd.length:Int)=c.k+c.m
 al:(a.disks.length:Int)=c.k+c.m
 gd:∀ d:Nat,bd[d]? = some false→a.alive (d:Int)=true
 few:(bads bd:Int)≤c.m
theorem SS.good {c:Cfg} {a:Arr} {sq:Int} {L:List Txt} {bd:List Bool} (s:SS c a sq L bd):Gd c a (bdP bd):=by
 refine ⟨fun d=>decide (bd[d]? = some false),fun d hd h=> ?_,?_⟩
 ·have h:bd[d]? = some false:=by simpa using h
  exact ⟨s.gd d h,fun hb=>by unfold bdP at hb;rw [h] at hb;cases hb⟩
 ·have hl:a.disks.length=bd.length:=by have:=s.bl;have:=s.al;omega
  rw [hl]
  have h1:=countP_range (fun b:Bool => !b) (fun d=>decide (bd[d]? = some false)) bd 0 fun i x hx=>by
   rw [Nat.zero_add,hx]
   cases x<;>simp
  have h2:(List.range bd.length).map (0 + ·)=List.range bd.length:=by simp
  rw [h2] at h1
  rw [h1]
  have h3:=List.length_eq_countP_add_countP (fun b:Bool=>b) (l:=bd)
  have h4:bd.countP (fun a=>decide ¬(a=true))=bd.countP (fun b => !b):=List.countP_congr fun x _=>by cases x<;>simp
  have:=s.few
  have:=s.bl
  unfold bads at *
  omega
theorem bads_set {bd:List Bool} {d:Nat} (hd:d < bd.length) (b:Bool):bads (bd.set d b)+(if bd[d]=true then 1 else 0)=bads bd+if b=true then 1 else 0:=by
 unfold bads
 rw [List.countP_set hd]
 have:bd.countP (fun b=>b) ≥ if bd[d]=true then 1 else 0:=by
  split
  ·rename_i h
   exact List.countP_pos_iff.2 ⟨_,List.getElem_mem hd,h⟩
  ·exact Nat.zero_le _
 generalize bd.countP (fun b=>b)=N at this ⊢
 cases hb:bd[d]<;>cases b<;>simp only [hb,if_true,Bool.false_eq_true,if_false] at this ⊢<;>omega
def dmgR (c:Cfg) (a:Arr) (bd:List Bool) (o:OpD):Bool×Arr×List Bool :=
 if o.d < 0∨(bd.length:Int)≤o.d∨(bd[o.d.toNat]?.getD false=false∧c.m≤bads bd) then (false,a,bd)
 else if o.o=3∧((openR o.s).2=0∨(a.corrupt o.d o.n o.s).2≠0) then (false,a,bd)
 else (true,if o.o=3 then (a.corrupt o.d o.n o.s).1 else if o.o=1 then (a.fail o.d).1 else a,bd.set o.d.toNat true)
theorem SS.dmg {c:Cfg} {a:Arr} {sq:Int} {L:List Txt} {bd:List Bool} (s:SS c a sq L bd) (o:OpD) (ho:o.o=1∨o.o=3):SS c (dmgR c a bd o).2.1 sq L (dmgR c a bd o).2.2:=by
 unfold dmgR
 split
 ·exact s
 rename_i h1
 split
 ·exact s
 rename_i h2
 obtain ⟨d,hd⟩:=Int.eq_ofNat_of_zero_le (show 0≤o.d by omega)
 have hdl:d < bd.length:=by omega
 have hda:d < a.disks.length:=by have:=s.bl;have:=s.al;omega
 rw [hd] at h1 h2 ⊢
 simp only [Int.toNat_natCast] at h1 ⊢
 have hmono:∀ e,bdP bd e→bdP (bd.set d true) e:=fun e he=>by
  unfold bdP at *
  rw [List.getElem?_set]
  split
  ·simp
  ·exact he
 have hbad:bdP (bd.set d true) d:=by unfold bdP;rw [List.getElem?_set];simp [hdl]
 have hfew:(bads (bd.set d true):Int)≤c.m:=by
  have h3:=bads_set hdl true
  have h4:=s.few
  rw [List.getElem?_eq_getElem hdl] at h1
  simp only [Option.getD_some,if_true] at h1 h3
  by_cases hb:bd[d]=true
  ·rw [if_pos hb] at h3;omega
  ·rw [if_neg hb] at h3
   have hb':bd[d]=false:=by simpa using hb
   have:¬c.m≤(bads bd:Int):=fun h=>h1 (.inr (.inr ⟨hb',h⟩))
   omega
 have hne:∀ e:Nat,(bd.set d true)[e]? = some false→e≠d∧bd[e]? = some false:=fun e he=>by
  rw [List.getElem?_set] at he
  split at he
  ·simp at he
  ·rename_i h;exact ⟨fun h'=>h h'.symm,he⟩
 obtain ⟨⟨g,I,e,hL⟩,hdn,hq,hll⟩:=s.v
 have fin:∀ (b:Arr) (up:Bool),Inv c 7 g (bdP (bd.set d true)) none b→Dmg a b d up→SS c b sq L (bd.set d true):=fun b up I1 D =>
  ⟨⟨⟨g,I1,e,hL⟩,by rw [D.dn];exact hdn,D.qt hq,hll⟩,by rw [D.lf];exact s.lf,by rw [List.length_set];exact s.bl,by rw [D.len];exact s.al,fun f hf=>by
   obtain ⟨h3,h4⟩:=hne f hf
   rw [D.al,if_neg h3]
   exact s.gd f h4,hfew⟩
 rcases ho with ho|ho
 ·simp only [ho]
  simp
  obtain ⟨I1,D⟩:=I.fail hmono hda
  exact fin _ _ I1 D
 ·simp only [ho] at h2 ⊢
  simp only [if_true]
  have h3:(openR o.s).2≠0:=fun h=>h2 ⟨trivial,.inl h⟩
  obtain ⟨I1,D⟩:=I.corrupt hmono hda hbad o.n h3 hq
  exact fin _ _ I1 D
structure MI (c:Cfg) (a:Arr) (sq:Int) (L:List Txt) (bad:Nat→Prop) (i:Nat):Prop where
 ex:∃ g,Inv c 7 g bad none a∧g.sq=sq∧(∀ n:Nat,(n:Int) < c.st→L[n]? = some (g.tx n))∧∀ n:Nat,n < i→∀ d:Nat,(d:Int)∈aliveL a a.disks.length→Lst 7 a d (stP c n) (stB 7 c n (g.ep n) (g.tx n) d)
 dn:a.down=false
 qt:Qt a
 ll:(L.length:Int)=c.st
theorem MI.step {c:Cfg} {a:Arr} {sq:Int} {L:List Txt} {bad:Nat→Prop} {i:Nat} (M:MI c a sq L bad i) (hi:(i:Int) < c.st) (G:Gd c a bad) (hlf:a.left < 0) (hs:sq+1 < 36028797018963968) :
  (vmendR a 7 c i).2.2=0∧MI c (vmendR a 7 c i).1 sq L bad (i+1)∧Stp a (vmendR a 7 c i).1:=by
 obtain ⟨⟨g,I,rfl,hL,hD⟩,hdn,hq,hll⟩:=M
 obtain ⟨m1,m2,m3,m4,m5,m6,m7,m8⟩:=I.vmend hdn hi (G.of I hdn hi) hs hlf
 refine ⟨m1,⟨⟨g,m2,rfl,hL,fun n hn d hd=> ?_⟩,m4,m5,hll⟩,m3⟩
 rw [m3.aliveL] at hd
 by_cases hni:n=i
 ·subst hni;exact m7 d hd
 ·exact m8 d _ _ (fun h=>hni (by unfold stP at h;omega)) (hD n (by omega) d hd)
theorem MI.heads {c:Cfg} {a:Arr} {sq:Int} {L:List Txt} {bad:Nat→Prop} {i:Nat} (M:MI c a sq L bad i) (hi:(i:Int)=c.st) (hlf:a.left < 0) :
  (vheadsR a 7 c).2.2=0∧(∀ bad',VS c (vheadsR a 7 c).1 sq L bad')∧Stp a (vheadsR a 7 c).1:=by
 obtain ⟨⟨g,I,rfl,hL,hD⟩,hdn,hq,hll⟩:=M
 obtain ⟨m1,m2,m3,m4,m5,m6,m7⟩:=I.vheads hdn hlf
 refine ⟨m1,fun bad'=>⟨⟨g,m2.good fun d hd hal=> .inr ?_,rfl,hL⟩,m4,m5,hll⟩,m3⟩
 have hmem:(d:Int)∈aliveL a a.disks.length:=alv_mem.2 ⟨d,rfl,by rw [←m3.len];exact hd,by rw [←m3.al];exact hal⟩
 exact ⟨m6 d hmem,fun n hn=>m7 d _ _ (by unfold stP;omega) (hD n (by omega) d hmem)⟩
theorem SS.repl {c:Cfg} {a:Arr} {sq:Int} {L:List Txt} {bd:List Bool} (s:SS c a sq L bd) {d:Nat} (hd:bd[d]? = some true):SS c (a.replace (d:Int)).1 sq L bd:=by
 have hdl:=(List.getElem?_eq_some_iff.1 hd).1
 have hda:d < a.disks.length:=by have:=s.bl;have:=s.al;omega
 obtain ⟨⟨g,I,e,hL⟩,hdn,hq,hll⟩:=s.v
 obtain ⟨I1,D⟩:=I.replace hda (show bdP bd d from hd)
 exact ⟨⟨⟨g,I1,e,hL⟩,by rw [D.dn];exact hdn,D.qt hq,hll⟩,by rw [D.lf];exact s.lf,s.bl,by rw [D.len];exact s.al,fun f hf=>by
  rw [D.al]
  split
  ·rfl
  ·exact s.gd f hf,s.few⟩
structure RS (c:Cfg) (a:Arr) (L0 L1:List Txt) (B:Int):Prop where
 ex:∃ g pd,Inv c 7 g (fun _=>False) pd a∧0≤g.sq∧(g.sq < B∧B≤1000)∧(∀ n:Nat,(n:Int) < c.st→L0[n]? = some (g.tx n))∧∀ P,pd=some P→L1=L0.set P.n P.t
 ll:(L0.length:Int)=c.st
theorem VS.rs {c:Cfg} {a:Arr} {sq:Int} {L:List Txt} (V:VS c a sq L (fun _=>False)) {B:Int} (hs:sq < B∧B≤1000) (L1:List Txt):RS c a L L1 B:=by
 obtain ⟨⟨g,I,rfl,hL⟩,hdn,hq,hll⟩:=V
 exact ⟨⟨g,none,I,I.s0,hs,hL,fun P h=>by cases h⟩,hll⟩
theorem crash_step {c:Cfg} {a:Arr} (hdk:∀ x∈a.disks,DskG c x) (keep:List Bool):Qt (a.crash keep)∧(a.crash keep).down=false∧(a.crash keep).left = -1∧(a.crash keep).disks.length=a.disks.length∧∀ d:Nat,(a.crash keep).alive (d:Int)=a.alive (d:Int):=by
 refine ⟨fun y hy=> ?_,rfl,rfl,Arr.crash_len _ _,alive_of (Arr.crash_len _ _) fun d x hx=> ?_⟩
 ·obtain ⟨d,hd⟩:=List.getElem?_of_mem hy
  have hlt:d < a.disks.length:=by rw [←Arr.crash_len a keep];exact (List.getElem?_eq_some_iff.1 hd).1
  obtain ⟨ks,hk⟩:=crashD_get a.disks keep d _ (List.getElem?_eq_getElem hlt)
  have hd':(crashD a.disks keep)[d]? = some y:=hd
  rw [hk] at hd'
  cases hd'
  exact Dsk.crash_waits (hdk _ (List.getElem_mem hlt)).gone _
 ·obtain ⟨ks,hk⟩:=crashD_get a.disks keep d x hx
  exact ⟨_,hk,Dsk.crash_gone _⟩
theorem RS.up {c:Cfg} {a:Arr} {L0 L1:List Txt} {B B':Int} (R:RS c a L0 L1 B) (h:B≤B'∧B'≤1000):RS c a L0 L1 B':=by
 obtain ⟨⟨g,pd,I,h1,h2,h3,h4⟩,hll⟩:=R
 exact ⟨⟨g,pd,I,h1,by omega,h3,h4⟩,hll⟩
theorem RS.crash {c:Cfg} {a:Arr} {L0 L1:List Txt} {B:Int} (R:RS c a L0 L1 B) (keep:List Bool):RS c (a.crash keep) L0 L1 B∧Qt (a.crash keep)∧(a.crash keep).down=false∧(a.crash keep).left = -1∧(a.crash keep).disks.length=a.disks.length∧∀ d:Nat,(a.crash keep).alive (d:Int)=a.alive (d:Int):=by
 obtain ⟨⟨g,pd,I,h1,h2,h3,h4⟩,hll⟩:=R
 exact ⟨⟨⟨g,pd,I.crash keep,h1,h2,h3,h4⟩,hll⟩,crash_step I.dk keep⟩
theorem RS.fuse {c:Cfg} {a:Arr} {L0 L1:List Txt} {B:Int} (R:RS c a L0 L1 B) (n:Int):RS c (a.fuse n) L0 L1 B:=by
 obtain ⟨⟨g,pd,I,h1,h2,h3,h4⟩,hll⟩:=R
 exact ⟨⟨g,pd,I.fuse n,h1,h2,h3,h4⟩,hll⟩
end Go.Proofs.YtngbipjclpncoaaGreatDoor.X
