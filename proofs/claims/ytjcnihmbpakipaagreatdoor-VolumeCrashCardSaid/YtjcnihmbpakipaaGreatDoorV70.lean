/-
  Contracts: law16.reads, mended, damage; a law's objects beside other blocks.
-/
import Derived.Test.YtjcnihmbpakipaaGreatDoorV69
import Derived.Test.YtjcnihmbpakipaaGreatDoorP13
namespace Go.Proofs.YtjcnihmbpakipaaGreatDoor.X
open Go.RowKit F
set_option maxRecDepth 100000
set_option linter.unusedSimpArgs false
set_option linter.unusedVariables false
structure LawE (p q nb:Nat) (cells:List AV) (ps:List Nat) (pv pm bl bb:Nat) (c:Cfg) (k:Nat) (a:Arr) (sq:Int) (L:List Txt) (bd:List Bool) (E:Nat→Prop) (hp:Heap):Prop where
 gv:hp.get pv=some (volC p c 7 sq)
 md:MdA pm bl bb c L bd hp
 at_:At (ArrI p q nb cells ps a) (fun x=>(x=pv∨x=pm∨x=bl∨x=bb)∨E x) hp
 lp:hp.lp=none
 q:ArrQ k a
 len:(a.disks.length:Int)=c.k+c.m
 n2:pv≠pm∧pv≠bl∧pv≠bb
 ne:∀ x,E x→x≠pv∧x≠pm∧x≠bl∧x≠bb
def Fr (E:Nat→Prop) (h h':Heap):Prop:= ∀ x,E x→h'.get x=h.get x
theorem Fr.trans {E:Nat→Prop} {h h1 h2:Heap} (a:Fr E h h1) (b:Fr E h1 h2):Fr E h h2:=fun x hx=>(b x hx).trans (a x hx)
section
variable {p q nb:Nat} {cells:List AV} {ps:List Nat} {pv pm bl bb:Nat} {c:Cfg} {k:Nat} {a:Arr} {sq:Int} {L:List Txt} {bd:List Bool} {E:Nat→Prop} {hp:Heap} {bad:Nat→Prop}
theorem LawE.less (H:LawE p q nb cells ps pv pm bl bb c k a sq L bd E hp) {E':Nat→Prop} (h:∀ x,E' x→E x):LawE p q nb cells ps pv pm bl bb c k a sq L bd E' hp :=
 ⟨H.gv,H.md,H.at_.mono fun x hx=>hx.imp_right (h x),H.lp,H.q,H.len,H.n2,fun x hx=>H.ne x (h x hx)⟩
theorem LawE.alloc (H:LawE p q nb cells ps pv pm bl bb c k a sq L bd E hp) (cs:List AV):LawE p q nb cells ps pv pm bl bb c k a sq L bd (fun x=>E x∨x=hp.next) (hp.alloc cs):=by
 refine ⟨Heap.get_alloc_old H.gv,⟨Heap.get_alloc_old H.md.gm,Heap.get_alloc_old H.md.gl,Heap.get_alloc_old H.md.gb,H.md.n1,H.md.n2,H.md.n3⟩,(H.at_.alloc (ArrI.loc p q nb cells ps a) cs).mono fun x hx=> ?_,H.lp,H.q,H.len,H.n2,fun x hx=> ?_⟩
 ·rcases hx with hx|hx|hx
  ·exact .inl (.inl hx)
  ·exact .inl (.inr hx)
  ·exact .inr hx
 ·rcases hx with hx|rfl
  ·exact H.ne x hx
  ·have h1:=Heap.get_lt H.gv
   have h2:=Heap.get_lt H.md.gm
   have h3:=Heap.get_lt H.md.gl
   have h4:=Heap.get_lt H.md.gb
   exact ⟨by omega,by omega,by omega,by omega⟩
theorem LawE.put (H:LawE p q nb cells ps pv pm bl bb c k a sq L bd E hp) {b:Nat} (hb:E b) (cs:List AV) {zs:List AV} (hg:hp.get b=some zs):LawE p q nb cells ps pv pm bl bb c k a sq L bd E (hp.put b cs):=by
 obtain ⟨e1,e2,e3,e4⟩:=H.ne b hb
 refine ⟨?_,⟨?_,?_,?_,H.md.n1,H.md.n2,H.md.n3⟩,H.at_.put (ArrI.loc p q nb cells ps a) cs (.inr hb),H.lp,H.q,H.len,H.n2,H.ne⟩
 ·rw [Heap.get_put_other hg (Ne.symm e1)];exact H.gv
 ·rw [Heap.get_put_other hg (Ne.symm e2)];exact H.md.gm
 ·rw [Heap.get_put_other hg (Ne.symm e3)];exact H.md.gl
 ·rw [Heap.get_put_other hg (Ne.symm e4)];exact H.md.gb
theorem LawE.vol (H:LawE p q nb cells ps pv pm bl bb c k a sq L bd E hp) (hC:ConfP c) (hk:k < 2 ^ 27):VolB k a c:=⟨hC,H.q,by omega⟩
theorem LawE.mono (H:LawE p q nb cells ps pv pm bl bb c k a sq L bd E hp) {k':Nat} (hk:ArrQ k' a):LawE p q nb cells ps pv pm bl bb c k' a sq L bd E hp:=⟨H.gv,H.md,H.at_,H.lp,hk,H.len,H.n2,H.ne⟩
theorem LawE.turn (H:LawE p q nb cells ps pv pm bl bb c k a sq L bd E hp) {h':Heap} {a':Arr} {k':Nat} (K:Keep (fun x=>(x=pv∨x=pm∨x=bl∨x=bb)∨E x) hp h') (A:At (ArrI p q nb cells ps a') (fun x=>(x=pv∨x=pm∨x=bl∨x=bb)∨E x) h') (Q:ArrQ k' a') (hl:a'.disks.length=a.disks.length) :
  LawE p q nb cells ps pv pm bl bb c k' a' sq L bd E h'∧Fr E hp h' :=
 ⟨⟨K.got (.inl (.inl rfl)) H.gv,H.md.keep K (.inl (.inr (.inl rfl))) (.inl (.inr (.inr (.inl rfl)))) (.inl (.inr (.inr (.inr rfl)))),A,K.lp.trans H.lp,Q,by rw [hl];exact H.len,H.n2,H.ne⟩,fun x hx=>K.get x (.inr hx)⟩
theorem LawE.write (H:LawE p q nb cells ps pv pm bl bb c k a sq L bd E hp) (hC:ConfP c) (hk:k < 2 ^ 27) (hs0:0≤sq) (hs1:sq < 2 ^ 61) (n:Int) (t:Txt) :
  CSem Tryz.prog 14 [.ptr pv 0,.int .i64 n,S t] hp fun x h'=>x = .int .i64 (vwriteR a 7 c sq n t).2.2∧LawE p q nb cells ps pv pm bl bb c (k+2 * a.disks.length) (vwriteR a 7 c sq n t).1 (vwriteR a 7 c sq n t).2.1 L bd E h'∧Fr E hp h':=by
 have h0:=conf_sl hC
 refine (vwrite_sem (H.vol hC hk) H.len hk (by decide) H.gv H.at_ (.inl (.inl rfl)) hs0 hs1 H.lp n t).mono ?_
 rintro x h' ⟨rfl,A,K,gv⟩
 have Q:=vwrite_Q H.q 7 c sq n t
 have hal:=aliveL_len a (c.m+1).toNat
 have hl:=H.len
 refine ⟨rfl,⟨gv,H.md.keep K ⟨.inl (.inr (.inl rfl)),Ne.symm H.n2.1⟩ ⟨.inl (.inr (.inr (.inl rfl))),Ne.symm H.n2.2.1⟩ ⟨.inl (.inr (.inr (.inr rfl))),Ne.symm H.n2.2.2⟩,A,K.lp.trans H.lp,Q.mono (by omega),by rw [vwrite_len];exact hl,H.n2,H.ne⟩,fun x hx=>K.get x ⟨.inr hx,(H.ne x hx).1⟩⟩
theorem LawE.mwrite (H:LawE p q nb cells ps pv pm bl bb c k a sq L bd E hp) (hl:(L.length:Int)=c.st) (n:Int) (t:Txt) :
  CSem Tryz.prog 19 [.ptr pm 0,.int .i64 n,S t] hp fun x h'=>x = .int .i64 (mWrE c n t)∧LawE p q nb cells ps pv pm bl bb c k a sq (mWr c L n t) bd E h'∧Fr E hp h':=by
 refine (mwrite_sem H.md hl n t).mono ?_
 rintro x h' ⟨rfl,M,h|h⟩
 ·subst h
  exact ⟨rfl,⟨H.gv,M,H.at_,H.lp,H.q,H.len,H.n2,H.ne⟩,fun _ _=>rfl⟩
 ·have gl:=H.md.gl
  have A:=H.at_.put (ArrI.loc p q nb cells ps a) ((mWr c L n t).map S) (.inl (.inr (.inr (.inl rfl))))
  subst h
  exact ⟨rfl,⟨by rw [Heap.get_put_other gl H.n2.2.1];exact H.gv,M,A,H.lp,H.q,H.len,H.n2,H.ne⟩,fun x hx=>Heap.get_put_other gl (H.ne x hx).2.2.1⟩
theorem LawE.fail (H:LawE p q nb cells ps pv pm bl bb c k a sq L bd E hp) (d:Int) :
  CSem Tryz.prog 20 [.ptr p 0,.int .i64 d] hp fun x h'=>x = .int .i64 (a.fail d).2∧LawE p q nb cells ps pv pm bl bb c k (a.fail d).1 sq L bd E h'∧Fr E hp h':=by
 refine (afail_sem H.at_ d).mono ?_
 rintro x h' ⟨rfl,A,K⟩
 exact ⟨rfl,H.turn K A (H.q.fail d) (by simp)⟩
theorem LawE.repl (H:LawE p q nb cells ps pv pm bl bb c k a sq L bd E hp) (d:Int) :
  CSem Tryz.prog 27 [.ptr p 0,.int .i64 d] hp fun x h'=>x = .int .i64 (a.replace d).2∧LawE p q nb cells ps pv pm bl bb c k (a.replace d).1 sq L bd E h'∧Fr E hp h':=by
 refine (areplace_sem H.at_ d).mono ?_
 rintro x h' ⟨rfl,A,K⟩
 exact ⟨rfl,H.turn K A (H.q.replace d) (by simp)⟩
theorem LawE.corr (H:LawE p q nb cells ps pv pm bl bb c k a sq L bd E hp) (hk:k < 2 ^ 27) (d n:Int) (s:Txt) :
  CSem Tryz.prog 72 [.ptr p 0,.int .i64 d,.int .i64 n,S s] hp fun x h'=>x = .int .i64 (a.corrupt d n s).2∧LawE p q nb cells ps pv pm bl bb c k (a.corrupt d n s).1 sq L bd E h'∧Fr E hp h':=by
 refine (acorrupt_sem H.at_ H.q.b (by omega) d n s).mono ?_
 rintro x h' ⟨rfl,A,K⟩
 exact ⟨rfl,H.turn K A (H.q.corrupt d n s) (by simp)⟩
theorem LawE.note (H:LawE p q nb cells ps pv pm bl bb c k a sq L bd E hp) (d:Nat) (b:Bool):LawE p q nb cells ps pv pm bl bb c k a sq L (bd.set d b) E (hp.put bb ((bd.map AV.bool).set d (.bool b)))∧Fr E hp (hp.put bb ((bd.map AV.bool).set d (.bool b))):=by
 have gb:=H.md.gb
 have e:(bd.map AV.bool).set d (.bool b)=(bd.set d b).map AV.bool:=by rw [List.map_set]
 rw [e]
 refine ⟨⟨by rw [Heap.get_put_other gb H.n2.2.2];exact H.gv,⟨?_,?_,Heap.get_put_same gb,H.md.n1,H.md.n2,H.md.n3⟩,H.at_.put (ArrI.loc p q nb cells ps a) _ (.inl (.inr (.inr (.inr rfl)))),H.lp,H.q,H.len,H.n2,H.ne⟩,fun x hx=>Heap.get_put_other gb (H.ne x hx).2.2.2⟩
 ·rw [Heap.get_put_other gb H.md.n2,H.md.gm];simp
 ·rw [Heap.get_put_other gb H.md.n3];exact H.md.gl
structure RdI (pv pm:Nat) (N:Nat) (H:Heap) (i:Nat) (r:Regs) (hp:Heap):Prop where
 le:i≤N+2
 r0:rg r 0 = .ptr pv 0
 r1:rg r 1 = .ptr pm 0
 r5:rg r 5 = .int .i64 ((i:Int) - 1)
 h:H=hp
theorem LawE.reads (H:LawE p q nb cells ps pv pm bl bb c k a sq L bd E hp) (hC:ConfP c) (hk:k < 2 ^ 27) (V:VS c a sq L bad) (G:Gd c a bad) :
  CSem Tryz.prog 29 [.ptr pv 0,.ptr pm 0] hp fun x h'=>x = .bool true∧h'=hp:=by
 refine CSem.body hm Tryz.func29 rfl (by kernel_rfl) (by kernel_rfl) (by simp [Tryz.ntmps29]) ?_
 have gm:=H.md.gm
 simp only [mdC] at gm
 have hll:=V.ll
 have h0:=conf_sl hC
 simp [Tryz.f29]
 refine wpc_loop (RdI pv pm L.length hp) (L.length+2 - ·) ?_ 0 ?_
 rotate_left
 ·exact ⟨by omega,by simp,by simp,by simp,rfl⟩
 rintro i r h ⟨le,r0,r1,r5,rfl⟩
 rcases Nat.lt_or_eq_of_le le with hlt|heq
 ·have hlt':(i:Int) - 1≤L.length:=by omega
  have hw1:IntKind.i64.wrap (i:Int)=i:=wrap64 (by omega) (by omega)
  simp [r0,r1,r5,fieldAddrX,gm,hlt']
  refine (vread_sem (H.vol hC hk) H.gv H.at_ H.lp ((i:Int) - 1)).use ?_
  rw [V.read G]
  simp [r1,r5]
  refine (mread_sem H.md hll ((i:Int) - 1)).use ?_
  simp [r5,hw1]
  exact ⟨i+1,by omega,by omega,by simpa using r0,by simpa using r1,by simp,rfl⟩
 ·subst heq
  have hge:¬((L.length:Int)+2 - 1≤L.length):=by omega
  simp [r0,r1,r5,fieldAddrX,gm,hge]
structure MdI (p q nb:Nat) (cells:List AV) (ps:List Nat) (pv pm bl bb:Nat) (c:Cfg) (a0:Arr) (sq:Int) (L:List Txt) (bd:List Bool) (E:Nat→Prop) (bad:Nat→Prop) (h0:Heap) (i:Nat) (r:Regs) (hp:Heap):Prop where
 le:i≤c.st.toNat
 r0:rg r 0 = .ptr pv 0
 r3:rg r 3 = .int .i64 i
 ex:∃ a,LawE p q nb cells ps pv pm bl bb c 0 a sq L bd E hp∧Fr E h0 hp∧MI c a sq L bad i∧Stp a0 a
theorem LawE.mended (H:LawE p q nb cells ps pv pm bl bb c 0 a sq L bd E hp) (hC:ConfP c) (V:VS c a sq L bad) (G:Gd c a bad) (lf:a.left < 0) (hs:sq+1 < 36028797018963968) :
  CSem Tryz.prog 28 [.ptr pv 0] hp fun x h'=>x = .bool true∧∃ a',LawE p q nb cells ps pv pm bl bb c 0 a' sq L bd E h'∧Fr E hp h'∧(∀ bad',VS c a' sq L bad')∧Stp a a':=by
 refine CSem.body hm Tryz.func28 rfl (by kernel_rfl) (by kernel_rfl) (by simp [Tryz.ntmps28]) ?_
 have h0:=conf_sl hC
 have hst:((c.st.toNat:Nat):Int)=c.st:=by omega
 have hfx:fieldX Tryz.prog 23 (CfA c) 3=some (.int .i64 c.st):=by kernel_rfl
 simp [Tryz.f28]
 refine wpc_loop (MdI p q nb cells ps pv pm bl bb c a sq L bd E bad hp) (c.st.toNat - ·) ?_ 0 ?_
 rotate_left
 ·exact ⟨by omega,by simp,by simp,a,H,fun _ _=>rfl,V.mi,Stp.refl a⟩
 rintro i r h ⟨le,r0,r3,a1,H1,F1,M1,S1⟩
 rcases Nat.lt_or_eq_of_le le with hlt|heq
 ·have hlt':(i:Int) < c.st:=by omega
  have hw1:IntKind.i64.wrap ((i:Int)+1)=(i:Int)+1:=wrap64 (by omega) (by omega)
  obtain ⟨m1,m2,m3⟩:=M1.step hlt' (G.stp S1) (S1.neg lf) hs
  simp [r0,r3]
  refine (vconf_sem H1.gv).use ?_
  simp [hfx,hlt',r0,r3]
  refine (vmend_sem (H1.vol hC (by decide)) H1.len (by decide) (by decide) H1.gv H1.at_ (.inl (.inl rfl)) H1.lp i).then ?_
  rintro _ h2 ⟨rfl,A2,K2⟩
  obtain ⟨k',Q2⟩:=vmend_Q H1.q 7 c i
  obtain ⟨H2,F2⟩:=H1.turn K2 A2 (Q2.qt m2.qt) m3.len
  rw [m1]
  simp [r3,hw1]
  exact ⟨i+1,by omega,by omega,by simpa using r0,by simp,_,H2,F1.trans F2,m2,S1.trans m3⟩
 ·subst heq
  obtain ⟨m1,m2,m3⟩:=M1.heads hst (S1.neg lf)
  simp [r0,r3,hst]
  refine (vconf_sem H1.gv).use ?_
  simp [hfx,r0]
  refine (vheads_sem (H1.vol hC (by decide)) (by decide) (by decide) H1.gv H1.at_ (.inl (.inl rfl)) H1.lp).then ?_
  rintro _ h2 ⟨rfl,A2,K2⟩
  obtain ⟨k',Q2⟩:=vheads_Q H1.q 7 c
  obtain ⟨H2,F2⟩:=H1.turn K2 A2 (Q2.qt (m2 bad).qt) m3.len
  rw [m1]
  simp
  exact ⟨_,H2,F1.trans F2,m2,S1.trans m3⟩
structure BdI (pm:Nat) (bd:List Bool) (H:Heap) (i:Nat) (r:Regs) (hp:Heap):Prop where
 le:i≤bd.length
 r0:rg r 0 = .ptr pm 0
 r3:rg r 3 = .int .i64 (bads (bd.take i):Nat)
 r4:rg r 4 = .int .i64 i
 h:H=hp
theorem bads_sem (M:MdA pm bl bb c L bd hp) (hl:bd.length < 2 ^ 40):CSem Tryz.prog 70 [.ptr pm 0] hp fun x h'=>x = .int .i64 (bads bd:Nat)∧h'=hp:=by
 refine CSem.body hm Tryz.func70 rfl (by kernel_rfl) (by kernel_rfl) (by simp [Tryz.ntmps70]) ?_
 have gm:=M.gm
 have gb:=M.gb
 simp only [mdC] at gm
 simp [Tryz.f70]
 refine wpc_loop (BdI pm bd hp) (bd.length - ·) ?_ 0 ?_
 rotate_left
 ·exact ⟨by omega,by simp,by simp [bads],by simp,rfl⟩
 rintro i r h ⟨le,r0,r3,r4,rfl⟩
 rcases Nat.lt_or_eq_of_le le with hlt|heq
 ·have hlt':(i:Int) < bd.length:=by omega
  have hw1:IntKind.i64.wrap ((i:Int)+1)=(i:Int)+1:=wrap64 (by omega) (by omega)
  have hbi:bads (bd.take i)≤i:=by
   have:=List.countP_le_length (p:=fun b:Bool=>b) (l:=bd.take i)
   rw [List.length_take] at this
   unfold bads
   omega
  have hw2:IntKind.i64.wrap ((bads (bd.take i):Int)+1)=(bads (bd.take i):Int)+1:=wrap64 (by omega) (by omega)
  have hs:bads (bd.take (i+1))=bads (bd.take i)+if bd[i]=true then 1 else 0:=by
   unfold bads
   rw [List.take_succ_eq_append_getElem hlt,List.countP_append,List.countP_cons,List.countP_nil]
   simp
  by_cases hb:bd[i]=true
  ·rw [if_pos hb] at hs
   simp [r0,r3,r4,fieldAddrX,gm,gb,hlt,hlt',hb,hw1,hw2]
   exact ⟨i+1,by omega,by omega,by simpa using r0,by simp [hs],by simp,rfl⟩
  ·rw [if_neg hb] at hs
   have hb':bd[i]=false:=by simpa using hb
   simp [r0,r3,r4,fieldAddrX,gm,gb,hlt,hlt',hb',hw1]
   exact ⟨i+1,by omega,by omega,by simpa using r0,by simp [hs,r3],by simp,rfl⟩
 ·subst heq
  rw [List.take_length] at r3
  simp [r0,r3,r4,fieldAddrX,gm]
end
end Go.Proofs.YtjcnihmbpakipaaGreatDoor.X
