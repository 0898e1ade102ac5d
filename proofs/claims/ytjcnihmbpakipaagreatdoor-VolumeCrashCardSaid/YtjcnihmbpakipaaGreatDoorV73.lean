/-
  Contracts: law16.reopened.
-/
import Derived.Test.YtjcnihmbpakipaaGreatDoorV72
namespace Go.Proofs.YtjcnihmbpakipaaGreatDoor.X
open Go.RowKit F
set_option maxRecDepth 100000
set_option linter.unusedSimpArgs false
set_option linter.unusedVariables false
structure CrD where
 f:Int
 kp:List Bool
 ag:Int
 mo:List Bool
def CrC (x:CrD):List AV:=[.int .i64 x.f,OL x.kp,.int .i64 x.ag,OL x.mo]
section
variable {p q nb:Nat} {cells:List AV} {ps:List Nat} {pv pm bl bb:Nat} {c:Cfg} {k:Nat} {a:Arr} {sq:Int} {L:List Txt} {bd:List Bool} {E:Nat→Prop} {hp:Heap} {bad:Nat→Prop}
structure LawA (p q nb:Nat) (cells:List AV) (ps:List Nat) (pm bl bb:Nat) (c:Cfg) (k:Nat) (a:Arr) (L:List Txt) (bd:List Bool) (E:Nat→Prop) (hp:Heap):Prop where
 md:MdA pm bl bb c L bd hp
 at_:At (ArrI p q nb cells ps a) (fun x=>(x=pm∨x=bl∨x=bb)∨E x) hp
 lp:hp.lp=none
 q:ArrQ k a
 len:(a.disks.length:Int)=c.k+c.m
 ne:∀ x,E x→x≠pm∧x≠bl∧x≠bb
theorem LawA.turn (H:LawA p q nb cells ps pm bl bb c k a L bd E hp) {h':Heap} {a':Arr} {k':Nat} (K:Keep (fun x=>(x=pm∨x=bl∨x=bb)∨E x) hp h') (A:At (ArrI p q nb cells ps a') (fun x=>(x=pm∨x=bl∨x=bb)∨E x) h') (Q:ArrQ k' a') (hl:a'.disks.length=a.disks.length) :
  LawA p q nb cells ps pm bl bb c k' a' L bd E h'∧Fr E hp h' :=
 ⟨⟨H.md.keep K (.inl (.inl rfl)) (.inl (.inr (.inl rfl))) (.inl (.inr (.inr rfl))),A,K.lp.trans H.lp,Q,by rw [hl];exact H.len,H.ne⟩,fun x hx=>K.get x (.inr hx)⟩
theorem LawA.less (H:LawA p q nb cells ps pm bl bb c k a L bd E hp) {E':Nat→Prop} (h:∀ x,E' x→E x):LawA p q nb cells ps pm bl bb c k a L bd E' hp :=
 ⟨H.md,H.at_.mono fun x hx=>hx.imp_right (h x),H.lp,H.q,H.len,fun x hx=>H.ne x (h x hx)⟩
theorem LawA.alloc (H:LawA p q nb cells ps pm bl bb c k a L bd E hp) (cs:List AV):LawA p q nb cells ps pm bl bb c k a L bd (fun x=>E x∨x=hp.next) (hp.alloc cs)∧Fr E hp (hp.alloc cs):=by
 refine ⟨⟨⟨Heap.get_alloc_old H.md.gm,Heap.get_alloc_old H.md.gl,Heap.get_alloc_old H.md.gb,H.md.n1,H.md.n2,H.md.n3⟩,(H.at_.alloc (ArrI.loc p q nb cells ps a) cs).mono fun x hx=> ?_,H.lp,H.q,H.len,fun x hx=> ?_⟩,fun x hx=> ?_⟩
 ·rcases hx with hx|hx|hx
  ·exact .inl (.inl hx)
  ·exact .inl (.inr hx)
  ·exact .inr hx
 ·rcases hx with hx|rfl
  ·exact H.ne x hx
  ·have h2:=Heap.get_lt H.md.gm
   have h3:=Heap.get_lt H.md.gl
   have h4:=Heap.get_lt H.md.gb
   exact ⟨by omega,by omega,by omega⟩
 ·have:x < hp.next:=H.at_.lt (.inr hx)
  rw [Heap.get_alloc,if_neg (by omega)]
theorem LawA.crash (H:LawA p q nb cells ps pm bl bb c k a L bd E hp) (hk:k < 2 ^ 27) (keep:List Bool) (hkl:keep.length < 2 ^ 62) :
  CSem Tryz.prog 74 [.ptr p 0,OL keep] hp fun x h'=>x = .int .i64 0∧LawA p q nb cells ps pm bl bb c 0 (a.crash keep) L bd E h'∧Fr E hp h':=by
 refine (acrash_sem H.at_ H.q.b (by omega) keep hkl).mono ?_
 rintro x h' ⟨rfl,A,K⟩
 exact ⟨rfl,H.turn K A (H.q.crash keep) (by simp)⟩
theorem LawA.fuse (H:LawA p q nb cells ps pm bl bb c k a L bd E hp) (n:Int) (hn:n < 2 ^ 62) :
  CSem Tryz.prog 30 [.ptr p 0,.int .i64 n] hp fun x h'=>x = .int .i64 (if n < 0 then 1 else 0)∧LawA p q nb cells ps pm bl bb c k (a.fuse n) L bd E h'∧Fr E hp h':=by
 refine (afuse_sem H.at_ n).mono ?_
 rintro x h' ⟨rfl,A,K⟩
 exact ⟨rfl,H.turn K A (H.q.fuse hn) (by simp)⟩
def OpnQ (p q nb:Nat) (cells:List AV) (ps:List Nat) (pm bl bb:Nat) (c:Cfg) (L0 L1 L:List Txt) (B:Int) (bd:List Bool) (E:Nat→Prop) (a:Arr) (hp:Heap) (x:AV) (h':Heap):Prop :=
 ∃ pw a' sq L',x = .tup [.ptr pw 0,.int .i64 0]∧LawE p q nb cells ps pw pm bl bb c 0 a' sq L bd E h'∧Fr E hp h'∧VS c a' sq L' (fun _=>False)∧Gd c a' (fun _=>False)∧(L'=L0∨L'=L1)∧0≤sq∧sq≤B∧Stp a a'
theorem Gd.of_al {a b:Arr} (h:Gd c a bad) (hl:b.disks.length=a.disks.length) (hal:∀ d:Nat,b.alive (d:Int)=a.alive (d:Int)):Gd c b bad:=by
 obtain ⟨q,h1,h2⟩:=h
 exact ⟨q,fun d hd hq=>by rw [hl] at hd;rw [hal];exact h1 d hd hq,by rw [hl];exact h2⟩
theorem LawE.toA (H:LawE p q nb cells ps pv pm bl bb c k a sq L bd E hp):LawA p q nb cells ps pm bl bb c k a L bd E hp :=
 ⟨H.md,H.at_.mono fun x hx=>hx.imp_left .inr,H.lp,H.q,H.len,fun x hx=>(H.ne x hx).2⟩
theorem vopen_Qb {k:Nat} {a:Arr} {id:Int} (h:ArrQ k a) (hh:headR a id=some c) (hst:c.st≤12) (hdn:a.down=false):ArrQ (k+12 * 255) (vopenR a id).ar:=by
 have hall:=aliveL_len a a.disks.length
 have hfew:=h.b.few
 have hnlen:(intentsR a id c).length≤12:=by
  have:=newestR_short (l:=intsL a id c (aliveL a (c.m+1).toNat)) (n:=c.st.toNat) (fun x hx=>by have:=intsL_st x hx;omega)
  unfold intentsR
  omega
 have hmul:(intentsR a id c).length * (aliveL a a.disks.length).length≤12 * 255:=Nat.mul_le_mul hnlen (by omega)
 have:ArrQ (k+12 * 255) (tryR (redoL id c (aliveL a a.disks.length) a (intentsR a id c)) flushR).1:=tryR_Q ((redoL_Q _ h).mono (by omega)) (Nat.le_refl _) fun a h=>flushR_Q h
 unfold vopenR
 rw [if_neg (by simp [hdn]),hh]
 simp only
 split<;>exact this
theorem LawA.open_ {L0 L1:List Txt} {B:Int} (H:LawA p q nb cells ps pm bl bb c k a L bd E hp) (hk:k < 2 ^ 25) (hst:c.st≤6) (R:RS c a L0 L1 B) (hdn:a.down=false) (Q:Qt a) (G:Gd c a (fun _=>False)) :
  CSem Tryz.prog 22 [.ptr p 0,.int .i64 7] hp fun x h'=>OpnQ p q nb cells ps pm bl bb c L0 L1 L B bd E a hp x h' ∨
   (¬a.left < 0∧x = .tup [.nilPtr,.int .i64 9]∧∃ a' k',LawA p q nb cells ps pm bl bb c k' a' L bd E h'∧k' < 2 ^ 26∧Fr E hp h'∧RS c a' L0 L1 B∧Gd c a' (fun _=>False)):=by
 obtain ⟨o0,S,w⟩:=R.open_ hdn Q G
 refine (vopen_sem (id:=7) H.q (by omega) (fun d hd=>by rw [o0] at hd;cases hd;omega) (by decide) H.at_ H.lp).mono ?_
 rintro x h' ⟨K,A,hn,hs⟩
 have Q1:=vopen_Qb H.q o0 (by omega) hdn
 rcases w with ⟨w1,sq,L',w2,w3,w4,w5,w6⟩|⟨w1,w2,w3,w4,w5⟩
 ·left
  obtain ⟨pw,rfl,hpw,gw,A'⟩:=hs c sq w2
  have h1:=Heap.get_lt H.md.gm
  have h2:=Heap.get_lt H.md.gl
  have h3:=Heap.get_lt H.md.gb
  rw [w1]
  refine ⟨pw,_,sq,L',rfl,⟨gw,H.md.keep K (.inl (.inl rfl)) (.inl (.inr (.inl rfl))) (.inl (.inr (.inr rfl))),A'.mono fun x hx=> ?_,K.lp.trans H.lp,Q1.qt w5.qt,by rw [S.len];exact H.len,⟨by omega,by omega,by omega⟩,fun x hx=> ?_⟩,fun x hx=>K.get x (.inr hx),w5,G.stp S,w6,w3,w4,S⟩
  ·rcases hx with (rfl|hx)|hx
   ·exact .inr rfl
   ·exact .inl (.inl hx)
   ·exact .inl (.inr hx)
  ·have:=H.at_.lt (.inr hx)
   exact ⟨by omega,H.ne x hx⟩
 ·right
  have e:=hn w2
  rw [w1] at e
  obtain ⟨H1,F1⟩:=H.turn K A Q1 S.len
  exact ⟨w4,e,_,_,H1,by omega,F1,w5,G.stp S⟩
def RoQ (p q nb:Nat) (cells:List AV) (ps:List Nat) (pm bl bb:Nat) (c:Cfg) (L0 L1 L:List Txt) (bd:List Bool) (E:Nat→Prop) (hp:Heap) (y:AV) (h':Heap):Prop :=
 ∃ pw a' sq L',y = .tup [.ptr pw 0,.bool true]∧LawE p q nb cells ps pw pm bl bb c 0 a' sq L bd E h'∧Fr E hp h'∧VS c a' sq L' (fun _=>False)∧Gd c a' (fun _=>False)∧(L'=L0∨L'=L1)∧0≤sq∧sq≤1000∧a'.left < 0
theorem LawA.reopened {L0 L1:List Txt} (H:LawA p q nb cells ps pm bl bb c k a L bd E hp) (hk:k < 2 ^ 27) (hst:c.st≤6) (R:RS c a L0 L1 900) (G:Gd c a (fun _=>False)) (x:CrD) (h1:x.kp.length < 2 ^ 62) (h2:x.mo.length < 2 ^ 62) (h3:x.ag≤1000) :
  CSem Tryz.prog 32 [.ptr p 0,.agg (CrC x)] hp fun y h'=>RoQ p q nb cells ps pm bl bb c L0 L1 L bd E hp y h':=by
 refine CSem.body hm Tryz.func32 rfl (by kernel_rfl) (by kernel_rfl) (by simp [Tryz.ntmps32]) ?_
 refine wpc_st (fun r h=>rg r 0 = .ptr p 0∧rg r 3 = .ptr hp.next 0∧h=hp.alloc (CrC x)) ?_ (by simp [AV.cells,CrC])
 rintro r _ ⟨r0,r3,rfl⟩
 obtain ⟨H1,F1⟩:=H.alloc (CrC x)
 have gx:(hp.alloc (CrC x)).get hp.next=some [.int .i64 x.f,OL x.kp,.int .i64 x.ag,OL x.mo]:=Heap.get_alloc_same _ _
 generalize hp.alloc (CrC x)=H1h at H1 F1 gx ⊢
 generalize hp.next=bx at r3 H1 gx
 simp [r0,r3,fieldAddrX,gx]
 refine (H1.crash hk x.kp h1).then ?_
 rintro _ H2h ⟨rfl,H2,F2⟩
 have gx2:=(F2 bx (.inr rfl)).trans gx
 have F12:Fr E hp H2h:=F1.trans fun y hy=>F2 y (.inl hy)
 obtain ⟨R2,Q2,d2,lf2,len2,al2⟩:=R.crash x.kp
 have G2:=G.of_al len2 al2
 generalize a.crash x.kp=a2 at H2 R2 Q2 d2 lf2 G2
 have opn:∀ {a3:Arr} {H3h:Heap} {M0 M1:List Txt},(M0=L0∨M0=L1)→(M1=L0∨M1=L1)→LawA p q nb cells ps pm bl bb c 0 a3 L bd (fun y=>E y∨y=bx) H3h→RS c a3 M0 M1 950→Qt a3→a3.down=false→a3.left = -1→Gd c a3 (fun _=>False)→Fr E hp H3h →
   CSem Tryz.prog 22 [.ptr p 0,.int .i64 7] H3h fun x h'=> ∃ pw a' sq L',x = .tup [.ptr pw 0,.int .i64 0]∧LawE p q nb cells ps pw pm bl bb c 0 a' sq L bd E h'∧Fr E hp h'∧VS c a' sq L' (fun _=>False)∧Gd c a' (fun _=>False)∧(L'=L0∨L'=L1)∧0≤sq∧sq≤1000∧a'.left < 0:=by
  intro a3 H3h M0 M1 m0 m1 H3 R3 Q3 d3 lf3 G3 F3
  refine (H3.open_ (by decide) hst R3 d3 Q3 G3).mono ?_
  rintro y h' (⟨pw,a',sq,L',e,HE,F,V,G',hL,s0,s1,S⟩|⟨h,_⟩)
  ·exact ⟨pw,a',sq,L',e,HE.less fun _ h=> .inl h,F3.trans fun z hz=>F z (.inl hz),V,G',by rcases hL with rfl|rfl;exact m0;exact m1,s0,by omega,S.neg (by rw [lf3];decide)⟩
  ·rw [lf3] at h;exact (h (by decide)).elim
 by_cases hag:0≤x.ag
 rotate_left
 ·simp [r0,r3,fieldAddrX,gx2,hag]
  refine (opn (.inl rfl) (.inr rfl) H2 (R2.up (by decide)) Q2 d2 lf2 G2 F12).then ?_
  rintro _ H3h ⟨pw,a',sq,L',rfl,HE,F,V,G',hL,s0,s1,lf⟩
  simp
  exact ⟨pw,a',sq,L',rfl,HE,F,V,G',hL,s0,s1,lf⟩
 have hag':¬x.ag < 0:=by omega
 simp [r0,r3,fieldAddrX,gx2,hag]
 refine (H2.fuse x.ag (by omega)).then ?_
 rintro _ H3h ⟨rfl,H3,F3⟩
 have gx3:=(F3 bx (.inr rfl)).trans gx2
 have F13:Fr E hp H3h:=F12.trans fun y hy=>F3 y (.inl hy)
 have ef:(a2.fuse x.ag).disks=a2.disks:=by unfold Arr.fuse;split<;>rfl
 have R3:=R2.fuse x.ag
 have Q3:Qt (a2.fuse x.ag):=fun y hy=>Q2 y (by rw [ef] at hy;exact hy)
 have d3:(a2.fuse x.ag).down=false:=by unfold Arr.fuse;split<;>exact d2
 have G3:=G2.of_al (b:=a2.fuse x.ag) (by rw [ef]) fun d=>by unfold Arr.alive Arr.on?;rw [ef]
 generalize a2.fuse x.ag=a3 at H3 R3 Q3 d3 G3
 simp [r0]
 refine (H3.open_ (by decide) hst R3 d3 Q3 G3).then ?_
 rintro y H4h (⟨pw,a4,sq,L',rfl,HE,F4,V4,G4,hL4,s0,s1,_⟩|⟨_,rfl,a4,k4,H4,hk4,F4,R4,G4⟩)
 ·have gx4:=(F4 bx (.inr rfl)).trans gx3
  simp [r0]
  refine (adown_sem HE.at_).use ?_
  rw [V4.dn]
  simp [r0,r3,fieldAddrX,gx4]
  refine (HE.toA.crash (by decide) x.mo h2).then ?_
  rintro _ H5h ⟨rfl,H5,F5⟩
  have F15:Fr E hp H5h:=(F13.trans fun y hy=>F4 y (.inl hy)).trans fun y hy=>F5 y (.inl hy)
  have R4':RS c a4 L' L' 950:=V4.rs (by omega) L'
  obtain ⟨R5,Q5,d5,lf5,len5,al5⟩:=R4'.crash x.mo
  have G5:=G4.of_al len5 al5
  simp [r0]
  refine (opn hL4 hL4 H5 R5 Q5 d5 lf5 G5 F15).then ?_
  rintro _ H6h ⟨pw,a',sq,L',rfl,HE,F,V,G',hL,s0,s1,lf⟩
  simp
  exact ⟨pw,a',sq,L',rfl,HE,F,V,G',hL,s0,s1,lf⟩
 ·have gx4:=(F4 bx (.inr rfl)).trans gx3
  simp [r0,r3,fieldAddrX,gx4]
  refine (H4.crash (by omega) x.mo h2).then ?_
  rintro _ H5h ⟨rfl,H5,F5⟩
  have F15:Fr E hp H5h:=(F13.trans fun y hy=>F4 y (.inl hy)).trans fun y hy=>F5 y (.inl hy)
  obtain ⟨R5,Q5,d5,lf5,len5,al5⟩:=R4.crash x.mo
  have G5:=G4.of_al len5 al5
  simp [r0]
  refine (opn (.inl rfl) (.inr rfl) H5 (R5.up (by decide)) Q5 d5 lf5 G5 F15).then ?_
  rintro _ H6h ⟨pw,a',sq,L',rfl,HE,F,V,G',hL,s0,s1,lf⟩
  simp
  exact ⟨pw,a',sq,L',rfl,HE,F,V,G',hL,s0,s1,lf⟩
end
end Go.Proofs.YtjcnihmbpakipaaGreatDoor.X
