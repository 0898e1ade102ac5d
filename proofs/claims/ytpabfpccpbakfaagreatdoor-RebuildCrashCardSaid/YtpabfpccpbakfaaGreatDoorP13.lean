/-
  A volume that is damaged and mended, beside a list of bad disks; crashes (plain mathematics).
-/
import Derived.Test.YtpabfpccpbakfaaGreatDoorPA
import Derived.Test.YtpabfpccpbakfaaGreatDoorVG
namespace Go.Proofs.YtpabfpccpbakfaaGreatDoor.X
open F
set_option linter.unusedSimpArgs false
set_option linter.unusedVariables false
def bdP (bd:List Bool) (d:Nat):Prop:=bd[d]? = some true
def bads (bd:List Bool):Nat:=bd.countP fun b=>b
theorem N0 {α:Type} (p:α→Bool) (q:Nat→Bool):∀ (l:List α) (n:Nat),(∀ (i:Nat) x,l[i]? = some x→q (n+i)=p x)→((List.range l.length).map (n + ·)).countP q=l.countP p
 | [],n,_=>rfl
 | x :: l,n,h=>by
  have e:(List.range (x :: l).length).map (n + ·)=n :: (List.range l.length).map (n+1 + ·):=by
   rw [List.length_cons,List.range_succ_eq_map,List.map_cons,List.map_map]
   congr 1
   exact List.map_congr_left fun a _=>by simp;omega
  have h0:=h 0 x rfl
  rw [Nat.add_zero] at h0
  rw [e,List.countP_cons,List.countP_cons,h0,N0 p q l (n+1) fun i y hy=>by
   have:=h (i+1) y (by simpa using hy)
   rw [show n+1+i=n+(i+1) by omega]
   exact this]
structure SS (c:Cfg) (a:Arr) (sq:Int) (L:List Txt) (bd:List Bool):Prop where
 v:VS c a sq L (bdP bd)
 lf:a.left < 0
 bl:(bd.length:Int)=c.k+c.m
 al:(a.disks.length:Int)=c.k+c.m
 gd:∀ d:Nat,bd[d]? = some false→a.alive (d:Int)=true
 few:(bads bd:Int)≤c.m
theorem SS.good {c:Cfg} {a:Arr} {sq:Int} {L:List Txt} {bd:List Bool} (s:SS c a sq L bd):Gd c a (bdP bd):=by
 refine ⟨fun d=>decide (bd[d]? = some false),fun d hd h=> ?_,?_⟩
 ·have h:bd[d]? = some false:=by simpa using h
  exact ⟨s.gd d h,fun hb=>by unfold bdP at hb;rw [h] at hb;cases hb⟩
 ·have hl:a.disks.length=bd.length:=by have:=s.bl;have:=s.al;omega
  rw [hl]
  have h1:=N0 (fun b:Bool => !b) (fun d=>decide (bd[d]? = some false)) bd 0 fun i x hx=>by
   rw [Nat.zero_add,hx]
   cases x<;>simp
  have h2:(List.range bd.length).map (0 + ·)=List.range bd.length:=by simp
  rw [h2] at h1
  rw [h1]
  have h3:=List.length_eq_countP_add_countP (fun b:Bool=>b) (l:=bd)
  have h4:bd.countP (fun a=>decide ¬(a=true))=bd.countP (fun b => !b):=List.countP_congr fun x _=>by cases x<;>simp
  have:=s.few
  have:=s.bl
  unfold bads at *
  omega
structure MI (c:Cfg) (a:Arr) (sq:Int) (L:List Txt) (bad:Nat→Prop) (i:Nat):Prop where
 ex:∃ g,Inv c 7 g bad none a∧g.sq=sq∧(∀ n:Nat,(n:Int) < c.st→L[n]? = some (g.tx n))∧∀ n:Nat,n < i→∀ d:Nat,(d:Int)∈Ak a a.disks.length→Lst 7 a d (stP c n) (stB 7 c n (g.ep n) (g.tx n) d)
 dn:a.down=false
 qt:Qt a
 ll:(L.length:Int)=c.st
structure RS (c:Cfg) (a:Arr) (L0 L1:List Txt) (B:Int):Prop where
 ex:∃ g pd,Inv c 7 g (fun _=>False) pd a∧0≤g.sq∧(g.sq < B∧B≤1000)∧(∀ n:Nat,(n:Int) < c.st→L0[n]? = some (g.tx n))∧∀ P,pd=some P→L1=L0.set P.n P.t
 ll:(L0.length:Int)=c.st
theorem VS.rs {c:Cfg} {a:Arr} {sq:Int} {L:List Txt} (V:VS c a sq L (fun _=>False)) {B:Int} (hs:sq < B∧B≤1000) (L1:List Txt):RS c a L L1 B:=by
 obtain ⟨⟨g,I,rfl,hL⟩,hdn,hq,hll⟩:=V
 exact ⟨⟨g,none,I,I.s0,hs,hL,fun P h=>by cases h⟩,hll⟩
theorem A77 {c:Cfg} {a:Arr} (hdk:∀ x∈a.disks,DskG c x) (keep:List Bool):Qt (a.Bb keep)∧(a.Bb keep).down=false∧(a.Bb keep).left = -1∧(a.Bb keep).disks.length=a.disks.length∧∀ d:Nat,(a.Bb keep).alive (d:Int)=a.alive (d:Int):=by
 refine ⟨fun y hy=> ?_,rfl,rfl,Arr.M9 _ _,Ww (Arr.M9 _ _) fun d x hx=> ?_⟩
 ·obtain ⟨d,hd⟩:=List.getElem?_of_mem hy
  have hlt:d < a.disks.length:=by rw [←Arr.M9 a keep];exact (List.getElem?_eq_some_iff.1 hd).1
  obtain ⟨ks,hk⟩:=Kd a.disks keep d _ (List.getElem?_eq_getElem hlt)
  have hd':(Ha a.disks keep)[d]? = some y:=hd
  rw [hk] at hd'
  cases hd'
  exact Dsk.Lc (hdk _ (List.getElem_mem hlt)).gone _
 ·obtain ⟨ks,hk⟩:=Kd a.disks keep d x hx
  exact ⟨_,hk,Dsk.Hq _⟩
theorem RS.up {c:Cfg} {a:Arr} {L0 L1:List Txt} {B B':Int} (R:RS c a L0 L1 B) (h:B≤B'∧B'≤1000):RS c a L0 L1 B':=by
 obtain ⟨⟨g,pd,I,h1,h2,h3,h4⟩,hll⟩:=R
 exact ⟨⟨g,pd,I,h1,by omega,h3,h4⟩,hll⟩
end Go.Proofs.YtpabfpccpbakfaaGreatDoor.X
