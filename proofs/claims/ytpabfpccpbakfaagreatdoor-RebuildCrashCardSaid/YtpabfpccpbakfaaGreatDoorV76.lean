/-
  Contracts: scrub.
-/
import Derived.Test.YtpabfpccpbakfaaGreatDoorP23
import Derived.Test.YtpabfpccpbakfaaGreatDoorVG
namespace Go.Proofs.YtpabfpccpbakfaaGreatDoor.X
open Go.RowKit F
set_option maxRecDepth 100000
set_option linter.unusedSimpArgs false
set_option linter.unusedVariables false
def repC (r:RepD):List AV:=[.int .i64 r.nx,.int .i64 r.me,.int .i64 r.lo,.bool r.dn]
theorem At.kept {A:Asn} (L:Loc A) {R:Nat→Prop} {h h':Heap} {b:Nat} (a:At A R h) (K:Keep (fun x=>x≠b) h h') (hb:R b):At A R h':=by
 obtain ⟨F,f1,f2⟩:=a
 have hn:=K.next
 refine ⟨F,L.keep h h' F f1 fun x hx=>K.get x fun e=> ?_,fun x hx=>⟨(f2 x hx).1,by have:=(f2 x hx).2;omega⟩⟩
 subst e
 exact (f2 x hb).1 hx
theorem Keep.put1 {h:Heap} {b:Nat} {xs:List AV} (hg:h.get b=some xs) (cs:List AV):Keep (fun x=>x≠b) h (h.put b cs) :=
 ⟨Nat.le_refl _,rfl,rfl,fun x hx=>Heap.Ag hg hx⟩
theorem A4g {h:Heap} {b:Nat} {r:RepD} (g:h.get b=some (repC r)) {many e:Int} (h1:0≤r.me) (h2:0≤many) (h3:r.me+many < 2 ^ 62) (h4:0≤r.lo) (h5:r.lo < 2 ^ 62) :
  CSem Tryz.prog 34 [.ptr b 0,.int .i64 many,.int .i64 e] h fun x h'=>x = .int .i64 (addE e)∧h'.get b=some (repC (addR r many e))∧Keep (fun x=>x≠b) h h':=by
 refine CSem.body hm Tryz.func34 rfl (by kernel_rfl) (by kernel_rfl) (by simp [Tryz.ntmps34]) ?_
 have w1:IntKind.i64.wrap (r.me+many)=r.me+many:=wrap64 (by omega) (by omega)
 have w2:IntKind.i64.wrap (r.lo+1)=r.lo+1:=wrap64 (by omega) (by omega)
 have hbl:=Heap.Ah g
 have e1:∀ zs,(h.put b zs).get b=some zs:=fun zs=>Heap.Ac g
 have e2:∀ ys zs,((h.put b ys).put b zs).get b=some zs:=fun ys zs=>Heap.Ac (e1 ys)
 simp only [repC] at g
 by_cases he:e=10
 ·simp [Tryz.f34,A8,g,w1,w2,he,e1,e2,addE,addR,repC]
  exact (Keep.put1 g _).trans (Keep.put1 (e1 _) _)
 ·simp [Tryz.f34,A8,g,w1,w2,he,e1,e2,addE,addR,repC]
  exact Keep.put1 g _
theorem A4h {k:Nat} {a:Arr} (h:ArrQ k a) (id:Int) (c:Cfg) (n:Int):ArrQ (k+a.disks.length) (Bm a id c n).1:=by
 have hl:(Fm a (Cf a id c n).hv).length≤a.disks.length:=Nat.le_trans (List.length_filter_le _ _) (Cd a _)
 unfold Bm
 dsimp only
 split
 ·exact h.mono (by omega)
 split
 ·exact h.mono (by omega)
 ·have:ArrQ (k+a.disks.length) (tryR (vshR a id c n (Cf a id c n).ep (Hu c (Cf a id c n).sh (Cf a id c n).hv).1 (Fm a (Cf a id c n).hv)) By).1:=(Rg (Lx h _ _ _ _ _ _) (Nat.le_refl _) fun a h=>Pg h).mono (by omega)
  split<;>exact this
theorem Zv {k:Nat} {a:Arr} (h:ArrQ k a) (id:Int) (c:Cfg):ArrQ (k+a.disks.length) (B7 a id c).1:=by
 have hl:=Cd a a.disks.length
 unfold B7
 split
 ·exact h.mono (by omega)
 ·dsimp only
  split
  ·split<;>exact ((Sr _ h).flush).mono (by omega)
  ·exact (Sr _ h).mono (by omega)
@[simp] theorem U3 (a:Arr) (id:Int) (c:Cfg) (n:Int):(Bm a id c n).1.disks.length=a.disks.length:=by
 unfold Bm
 dsimp only
 split
 ·rfl
 split
 ·rfl
 ·have:(tryR (vshR a id c n (Cf a id c n).ep (Hu c (Cf a id c n).sh (Cf a id c n).hv).1 (Fm a (Cf a id c n).hv)) By).1.disks.length=a.disks.length:=(Sp fun b=>Rh b).trans (by simp)
  split<;>exact this
@[simp] theorem Rj (a:Arr) (id:Int) (c:Cfg):(B7 a id c).1.disks.length=a.disks.length:=by
 unfold B7
 split
 ·rfl
 ·dsimp only
  split
  ·split<;>simp
  ·simp
theorem Abw (a:Arr) (id:Int) (c:Cfg) (n:Int):0≤(Bm a id c n).2.1∧(Bm a id c n).2.1≤a.disks.length:=by
 have hl:(Fm a (Cf a id c n).hv).length≤a.disks.length:=Nat.le_trans (List.length_filter_le _ _) (Cd a _)
 unfold Bm
 dsimp only
 split
 ·exact ⟨Int.le_refl _,by simp⟩
 split
 ·exact ⟨Int.le_refl _,by simp⟩
 ·split
  ·exact ⟨by simp,by simp;omega⟩
  ·exact ⟨Int.le_refl _,by simp⟩
theorem Xc {id:Int} {c:Cfg} : ∀ (ds:List Int) (a:Arr) (m:Int),0≤m→0≤(D6 id c a m ds).2.1∧(D6 id c a m ds).2.1≤m+ds.length
 | [],a,m,h=>⟨h,by simp [D6]⟩
 | d :: ds,a,m,h=>by
  rw [D6]
  split
  ·have:=Xc (id:=id) (c:=c) ds a m h
   simp only [List.length_cons];push_cast;omega
  split
  ·have:=Xc (id:=id) (c:=c) ds (vput a (hdB id d c)) (m+1) (by omega)
   simp only [List.length_cons];push_cast;omega
  ·exact ⟨Int.le_refl _,by simp only [List.length_cons];push_cast;omega⟩
theorem A7k (a:Arr) (id:Int) (c:Cfg):0≤(B7 a id c).2.1∧(B7 a id c).2.1≤a.disks.length:=by
 have hl:=Cd a a.disks.length
 have h:=Xc (id:=id) (c:=c) (Ak a a.disks.length) a 0 (Int.le_refl _)
 unfold B7
 split
 ·exact ⟨Int.le_refl _,by simp⟩
 ·dsimp only
  split
  ·split
   ·exact ⟨h.1,by simp only;omega⟩
   ·exact ⟨Int.le_refl _,by simp⟩
  ·exact ⟨h.1,by omega⟩
section
variable {pa q n:Nat} {cells:List AV} {ps:List Nat} {a:Arr} {R:Nat→Prop} {h:Heap} {pv:Nat} {c:Cfg} {id sq:Int} {k:Nat}
structure StpI (pa q n:Nat) (cells:List AV) (ps:List Nat) (R:Nat→Prop) (h0:Heap) (pv b6 b9:Nat) (c:Cfg) (id:Int) (k D:Nat) (fr:Int) (N:Nat) (F:ScD) (i:Nat) (r:Regs) (hp:Heap):Prop where
 le:i≤N
 r0:rg r 0 = .ptr pv 0
 r6:rg r 6 = .ptr b6 0
 r8:rg r 8 = .int .i64 c.st
 r9:rg r 9 = .ptr b9 0
 r48:rg r 48 = .int .i64 N
 r49:rg r 49 = .int .i64 i
 g6:hp.get b6=some (repC rep0)
 K:Keep R h0 hp
 ex:∃ a1 r1,Dq id c (N - i) a1 r1=F∧r1.nx=fr+i∧0≤r1.me∧r1.me≤D * (i+1)∧0≤r1.lo∧r1.lo≤i+1∧r1.dn=false∧hp.get b9=some (repC r1)∧At (ArrI pa q n cells ps a1) (fun b=>(R b∨b=b6)∨b=b9) hp∧ArrQ (k+D * (i+1)) a1∧a1.disks.length=D
set_option maxHeartbeats 1000000 in
theorem Zw (hC:As c) (Q:ArrQ k a) (hd:(a.disks.length:Int)=c.k+c.m) (hk:k < 2 ^ 26) (hid:id < 2 ^ 62) (hv:h.get pv=some (volC pa c id sq)) (A:At (ArrI pa q n cells ps a) R h) (hR:R pv) (hlp:h.lp=none) (fr many:Int) :
  CSem Tryz.prog 11 [.ptr pv 0,.int .i64 fr,.int .i64 many] h fun x h'=>x = .tup [.agg (repC (Bj a id c fr many).rp),.int .i64 (Bj a id c fr many).er]∧At (ArrI pa q n cells ps (Bj a id c fr many).ar) R h'∧Keep R h h':=by
 refine CSem.body hm Tryz.func11 rfl (by kernel_rfl) (by kernel_rfl) (by simp [Tryz.ntmps11]) ?_
 have haggR:aggT Tryz.prog 44=some true:=by kernel_rfl
 have hzR:szT Tryz.prog 44=some 4:=by kernel_rfl
 have hzz:Au Tryz.prog 44=some (.agg [.int .i64 0,.int .i64 0,.int .i64 0,.bool false]):=by kernel_rfl
 have hb0:Ce Tryz.prog 44 []=some (.agg [.int .i64 0,.int .i64 0,.int .i64 0,.bool false]):=by kernel_rfl
 have hb1:Ce Tryz.prog 44 [(0,.int .i64 fr)]=some (.agg [.int .i64 fr,.int .i64 0,.int .i64 0,.bool false]):=by kernel_rfl
 have hfx:G6 Tryz.prog 23 (CfA c) 3=some (.int .i64 c.st):=by kernel_rfl
 have h0:=Bk hC
 have hfew:=Q.b.few
 simp only [Tryz.f11]
 generalize hT:Code.seq (Code.seq (Code.region 9 _ _) _) _=T
 have eA:∀ zs,(h.alloc zs).get h.next=some zs:=fun zs=>Heap.A9 h zs
 have hRl:∀ b,R b→b < h.next:=fun b hb=>A.lt hb
 simp [hzz,AV.cells]
 refine (Hv (Heap.Af hv)).use ?_
 simp [hfx]
 have A0:=(A.alloc (ArrI.loc pa q n cells ps a) [.int .i64 0,.int .i64 0,.int .i64 0,.bool false])
 have g0:(h.alloc [.int .i64 0,.int .i64 0,.int .i64 0,.bool false]).get h.next=some (repC rep0):=eA _
 have K0:Keep R h (h.alloc [.int .i64 0,.int .i64 0,.int .i64 0,.bool false]):=(Keep.refl R h).alloc _ hRl
 have hv0:(h.alloc [.int .i64 0,.int .i64 0,.int .i64 0,.bool false]).get pv=some (volC pa c id sq):=Heap.Af hv
 have lp0:(h.alloc [.int .i64 0,.int .i64 0,.int .i64 0,.bool false]).lp=none:=hlp
 have hne6:∀ b,R b→b≠h.next:=fun b hb=>by have:=hRl b hb;omega
 generalize h.alloc [.int .i64 0,.int .i64 0,.int .i64 0,.bool false]=H0 at A0 g0 K0 hv0 lp0 ⊢
 generalize h.next=b6 at A0 g0 hne6 ⊢
 have hbl6:=Heap.Ah g0
 simp only [repC,rep0] at g0
 have bad:fr < 0∨c.st < fr∨many < 1→Bj a id c fr many=⟨a,rep0,1⟩:=fun hb=>by unfold Bj;rw [if_pos hb]
 have hbad:∀ zs,At (ArrI pa q n cells ps a) R (H0.put b6 zs)∧Keep R h (H0.put b6 zs):=fun zs=>⟨(A0.put (ArrI.loc pa q n cells ps a) zs (.inr rfl)).mono fun b hb=> .inl hb,K0.put zs fun hr=>hne6 _ hr rfl⟩
 have ep:∀ zs,(H0.put b6 zs).get b6=some zs:=fun zs=>Heap.Ac g0
 by_cases f0:fr < 0
 ·rw [bad (.inl f0)]
  simp [hfx,f0,hb0,Ae,hzR,putN,g0,ep,Ab haggR,takeN,repC,rep0]
  exact hbad _
 by_cases f1:c.st < fr
 ·rw [bad (.inr (.inl f1))]
  simp [hfx,f0,f1,hb0,Ae,hzR,putN,g0,ep,Ab haggR,takeN,repC,rep0]
  exact hbad _
 by_cases f2:many < 1
 ·rw [bad (.inr (.inr f2))]
  simp [hfx,f0,f1,f2,hb0,Ae,hzR,putN,g0,ep,Ab haggR,takeN,repC,rep0]
  exact hbad _
 have eB:∀ zs,(H0.alloc zs).get H0.next=some zs:=fun zs=>Heap.A9 H0 zs
 have hnb:¬(fr < 0∨c.st < fr∨many < 1):=by omega
 have w0:IntKind.i64.wrap (c.st - fr)=c.st - fr:=wrap64 (by omega) (by omega)
 have hNN:(((min many (c.st - fr)).toNat:Nat):Int)=min many (c.st - fr):=by omega
 have hNst:(min many (c.st - fr)).toNat≤1000:=by have:=hC.2.2.2.1;omega
 have F1:∀ a1 r1,Dq id c 0 a1 r1=⟨a1,⟨r1.nx,r1.me,r1.lo,decide (r1.nx=c.st)⟩,0⟩:=fun _ _=>rfl
 have tail:∀ (Q':Out→Regs→Heap→Prop),(∀ (r:Regs) (h':Heap),rg r 6 = .ptr b6 0→rg r 7 = .int .i64 (Bj a id c fr many).er→h'.get b6=some (repC (Bj a id c fr many).rp)→At (ArrI pa q n cells ps (Bj a id c fr many).ar) R h'→Keep R h h'→Q' .ret r h') →
   ∀ (r:Regs) (hp:Heap) (a1:Arr) (r1:RepD) (b9:Nat),rg r 0 = .ptr pv 0→rg r 1 = .int .i64 fr→rg r 2 = .int .i64 many→rg r 6 = .ptr b6 0→rg r 8 = .int .i64 c.st→rg r 9 = .ptr b9 0→b6≠b9→(∀ b,R b→b≠b9)→hp.get b6=some (repC rep0)→Keep R h hp→hp.get b9=some (repC r1)→At (ArrI pa q n cells ps a1) (fun b=>(R b∨b=b6)∨b=b9) hp→ArrQ (k+a.disks.length) a1→a1.disks.length=a.disks.length →
   r1.nx=fr→0≤r1.me→r1.me≤a.disks.length→0≤r1.lo→r1.lo≤1→r1.dn=false→Dq id c (min many (c.st - fr)).toNat a1 r1=Bj a id c fr many→wpc Tryz.prog T Q' r hp:=by
  intro Q' hQ' r hp a1 r1 b9 r0 r1' r2 r6 r8 r9 hn69 hne9 g6 K1 g9 A1 Q1 l1 n1 m0 m1 o0 o1 d1 hF
  subst hT
  generalize hD:a.disks.length=D at *
  generalize hNd:(min many (c.st - fr)).toNat=N at *
  generalize Bj a id c fr many=F at *
  have hN:min many (c.st - fr)=N:=hNN.symm
  have hmn:(if c.st - fr < many then c.st - fr else many)=(N:Int):=by rw [←hN];split<;>omega
  simp [r8,r1',r2,w0,Nr,hmn]
  refine Am (StpI pa q n cells ps R h pv b6 b9 c id k D fr N F) (N - ·) ?_ 0 ?_
  rotate_left
  ·exact ⟨by omega,by simpa using r0,by simpa using r6,by simpa using r8,by simpa using r9,by simp,by simp,g6,K1,a1,r1,by simpa using hF,by omega,m0,by simpa using m1,o0,by simpa using o1,d1,g9,A1,by simpa using Q1,l1⟩
  clear r0 r1' r2 r6 r8 r9 g6 K1 g9 A1 Q1 l1 n1 m0 m1 o0 o1 d1 hF
  rintro i r hp ⟨le,r0,r6,r8,r9,r48,r49,g6,K1,a1,r1,hF,n1,m0,m1,o0,o1,d1,g9,A1,Q1,l1⟩
  have hbl9:=Heap.Ah g9
  have gt:∀ zs,(hp.put b9 zs).get b6=some (repC rep0):=fun zs=>(Heap.Ag g9 hn69).trans g6
  have e9:∀ zs,(hp.put b9 zs).get b9=some zs:=fun zs=>Heap.Ac g9
  have hDi:D * (i+1)≤255 * 1001:=Nat.mul_le_mul hfew (by omega)
  have hDi':(D:Int) * ((i:Int)+1)≤255 * 1001:=by exact_mod_cast hDi
  simp only [repC] at g9
  rcases Nat.lt_or_eq_of_le le with hlt|heq
  rotate_left
  ·subst heq
   rw [Nat.sub_self,F1] at hF
   subst hF
   simp only [repC,rep0] at gt g6
   simp [r49,r48,r9,r8,A8,g9,e9,Ab haggR,hzR,takeN,r6,Ae,putN,gt,n1]
   have A2:=(A1.put (ArrI.loc pa q n cells ps a1) [.int .i64 (fr+(i:Int)),.int .i64 r1.me,.int .i64 r1.lo,.bool (decide (fr+(i:Int)=c.st))] (.inr rfl))
   refine hQ' _ _ (by simpa using r6) (by simp) ?_ ((A2.put (ArrI.loc pa q n cells ps a1) _ (.inl (.inr rfl))).mono fun b hb=> .inl (.inl hb)) ((K1.put _ fun hb=>hne9 _ hb rfl).put _ fun hb=>hne6 _ hb rfl)
   rw [Heap.Ac (gt _)]
   simp [repC,n1]
  ·have hlt':(i:Int) < N:=by omega
   have hw1:IntKind.i64.wrap ((i:Int)+1)=(i:Int)+1:=wrap64 (by omega) (by omega)
   have hfi:fr+i < c.st:=by omega
   have hw2:IntKind.i64.wrap (fr+(i:Int)+1)=fr+(i:Int)+1:=wrap64 (by omega) (by omega)
   have B1:VolB (k+D * (i+1)) a1 c:=⟨hC,Q1,by omega⟩
   have lp1:hp.lp=none:=K1.lp.trans hlp
   have hstep:N - i=(N - (i+1))+1:=by omega
   rw [hstep,Dq] at hF
   simp [r49,r48,hlt',r0,r9,A8,g9,n1]
   refine (Abx B1 (by rw [l1];exact hd) (by omega) hid (K1.got hR hv) A1 (.inl (.inl hR)) lp1 (fr+i)).then ?_
   rintro _ h2 ⟨rfl,A2,K2⟩
   obtain ⟨c0,c1⟩:=Abw a1 id c (fr+i)
   rw [l1] at c1
   have Q2:=A4h Q1 id c (fr+i)
   have l2:=U3 a1 id c (fr+i)
   rw [l1] at Q2 l2
   rw [n1] at hF
   generalize Bm a1 id c (fr+i)=V at *
   have g92:h2.get b9=some (repC r1):=(K2.got (.inr rfl) (by rw [g9];rfl))
   have hDi2:(D:Int) * ((i:Int)+1+1)=D * ((i:Int)+1)+D:=by rw [Int.mul_add];omega
   have hDi3:D * (i+1+1)=D * (i+1)+D:=by rw [Nat.mul_add];omega
   simp [r9]
   refine (A4g (many:=V.2.1) (e:=V.2.2) g92 m0 c0 (by omega) o0 (by omega)).then ?_
   rintro _ h3 ⟨rfl,g93,K3⟩
   have A3:=A2.kept (ArrI.loc pa q n cells ps V.1) K3 (.inr rfl)
   have g63:h3.get b6=some (repC rep0):=(K3.get b6 hn69).trans (K2.got (.inl (.inr rfl)) g6)
   have K13:Keep R h h3:=K1.trans ((K2.mono fun b hb=> .inl (.inl hb)).trans (K3.mono fun b hb=>hne9 b hb))
   have e93:∀ zs,(h3.put b9 zs).get b9=some zs:=fun zs=>Heap.Ac g93
   have gt3:∀ zs,(h3.put b9 zs).get b6=some (repC rep0):=fun zs=>(Heap.Ag g93 hn69).trans g63
   have ge3:∀ zs,(h3.put b6 zs).get b6=some zs:=fun zs=>Heap.Ac g63
   have hbl93:=Heap.Ah g93
   by_cases he:addE V.2.2=0
   ·rw [if_neg (by simpa using he)] at hF
    simp only [repC,addR,n1] at g93
    simp [he,r9,A8,g93,r49,hw1,hw2]
    refine ⟨i+1,by omega,by omega,by simpa using r0,by simpa using r6,by simpa using r8,by simpa using r9,by simpa using r48,by simp,(gt3 _),K13.put _ (fun hb=>hne9 _ hb rfl),V.1,⟨fr+i+1,r1.me+V.2.1,(addR r1 V.2.1 V.2.2).lo,r1.dn⟩,hF,by push_cast;omega,by simp only;omega,by simp only;push_cast;omega,by simp only [addR];split<;>omega,by simp only [addR];push_cast;split<;>omega,d1,?_,A3.put (ArrI.loc pa q n cells ps V.1) _ (.inr rfl),by rw [hDi3];exact Q2.mono (by omega),l2⟩
    rw [e93]
    simp [repC,addR]
   ·rw [if_pos he] at hF
    subst hF
    simp only [repC,rep0] at g63
    simp [he,hb0,r6,Ae,hzR,putN,g63,ge3]
    refine hQ' _ _ (by simpa using r6) (by simp) ?_ ((A3.put (ArrI.loc pa q n cells ps V.1) _ (.inl (.inr rfl))).mono fun b hb=> .inl (.inl hb)) (K13.put _ fun hb=>hne6 _ hb rfl)
    rw [ge3]
    simp [repC,rep0]
 have g6B:∀ zs,(H0.alloc zs).get b6=some (repC rep0):=fun zs=>by simp only [repC,rep0];exact Heap.Af g0
 have hb69:b6≠H0.next:=by omega
 have hn9:∀ b,R b→b≠H0.next:=fun b hb=>by have:=A0.lt (.inl hb);omega
 have KB:∀ zs,Keep R h (H0.alloc zs):=fun zs=>K0.alloc zs hRl
 have AB:∀ zs,At (ArrI pa q n cells ps a) (fun b=>(R b∨b=b6)∨b=H0.next) (H0.alloc zs):=fun zs=>A0.alloc (ArrI.loc pa q n cells ps a) zs
 have ret:∀ (r:Regs) (h':Heap),rg r 6 = .ptr b6 0→rg r 7 = .int .i64 (Bj a id c fr many).er→h'.get b6=some (repC (Bj a id c fr many).rp)→At (ArrI pa q n cells ps (Bj a id c fr many).ar) R h'→Keep R h h'→retX Tryz.prog Tryz.f11.results.toList (fun x h'=>x = .tup [.agg (repC (Bj a id c fr many).rp),.int .i64 (Bj a id c fr many).er]∧At (ArrI pa q n cells ps (Bj a id c fr many).ar) R h'∧Keep R h h') .ret r h':=by
  intro r h' r6 r7 g A2 K2
  simp only [repC] at g
  simp [retX,r6,r7,g,Ab haggR,hzR,takeN,repC]
  exact ⟨A2,K2⟩
 by_cases fz:fr=0
 rotate_left
 ·have hF:Dq id c (min many (c.st - fr)).toNat a ⟨fr,0,0,false⟩=Bj a id c fr many:=by unfold Bj;rw [if_neg hnb,if_neg fz]
  simp [f0,f1,f2,fz,hb1,AV.cells,hzz,eB,Ae,hzR,putN]
  refine tail _ ret _ _ a ⟨fr,0,0,false⟩ H0.next (by simp) (by simp) (by simp) (by simp) (by simp) (by simp) hb69 hn9 ?_ ?_ ?_ ?_ (Q.mono (by omega)) rfl rfl (by simp) (by simp) (by simp) (by simp) rfl hF
  ·exact (Heap.Ag (eB _) hb69).trans (g6B _)
  ·exact (KB _).put _ fun hb=>hn9 _ hb rfl
  ·exact Heap.Ac (eB _)
  ·exact (AB _).put (ArrI.loc pa q n cells ps a) _ (.inr rfl)
 ·subst fz
  simp [f1,f2,hb1,AV.cells,hzz,eB,Ae,hzR,putN]
  have hv9:∀ zs ys,((H0.alloc zs).put H0.next ys).get pv=some (volC pa c id sq):=fun zs ys=>(Heap.Ag (eB _) (hn9 _ hR)).trans (Heap.Af hv0)
  refine (A7m ⟨hC,Q,by omega⟩ (by omega) hid (hv9 _ _) ((AB _).put (ArrI.loc pa q n cells ps a) _ (.inr rfl)) (.inl (.inl hR)) lp0).then ?_
  rintro _ h2 ⟨rfl,A2,K2⟩
  obtain ⟨c0,c1⟩:=A7k a id c
  have Q2:=Zv Q id c
  have l2:=Rj a id c
  have hS:Bj a id c 0 many=(if addE (B7 a id c).2.2≠0 then ⟨(B7 a id c).1,rep0,addE (B7 a id c).2.2⟩
   else Dq id c (min many (c.st - 0)).toNat (B7 a id c).1 (addR ⟨0,0,0,false⟩ (B7 a id c).2.1 (B7 a id c).2.2)):=by unfold Bj;rw [if_neg hnb,if_pos rfl]
  generalize B7 a id c=V at *
  have g92:h2.get H0.next=some (repC ⟨0,0,0,false⟩):=K2.got (.inr rfl) (Heap.Ac (eB _))
  have g62:h2.get b6=some (repC rep0):=K2.got (.inl (.inr rfl)) ((Heap.Ag (eB _) hb69).trans (g6B _))
  simp
  refine (A4g (many:=V.2.1) (e:=V.2.2) g92 (by simp) c0 (by simp only;omega) (by simp) (by simp)).then ?_
  rintro _ h3 ⟨rfl,g93,K3⟩
  have A3:=A2.kept (ArrI.loc pa q n cells ps V.1) K3 (.inr rfl)
  have g63:h3.get b6=some (repC rep0):=(K3.get b6 hb69).trans g62
  have K13:Keep R h h3:=((KB _).put _ fun hb=>hn9 _ hb rfl).trans ((K2.mono fun b hb=> .inl (.inl hb)).trans (K3.mono fun b hb=>hn9 b hb))
  have ge3:∀ zs,(h3.put b6 zs).get b6=some zs:=fun zs=>Heap.Ac g63
  by_cases he:addE V.2.2=0
  ·rw [if_neg (by simpa using he)] at hS
   simp [he]
   refine tail _ ret _ _ V.1 _ H0.next (by simp) (by simp) (by simp) (by simp) (by simp) (by simp) hb69 hn9 g63 K13 g93 A3 Q2 l2 rfl ?_ ?_ ?_ ?_ rfl hS.symm
   ·simp only [addR];omega
   ·simp only [addR];omega
   ·simp only [addR];split<;>omega
   ·simp only [addR];split<;>omega
  ·rw [if_pos he] at hS
   rw [hS]
   simp only [repC,rep0] at g63
   simp [he,hb0,Ae,hzR,putN,g63,ge3,Ab haggR,takeN,repC,rep0]
   exact ⟨(A3.put (ArrI.loc pa q n cells ps V.1) _ (.inl (.inr rfl))).mono fun b hb=> .inl (.inl hb),K13.put _ fun hb=>hne6 _ hb rfl⟩
theorem A2k {id:Int} {c:Cfg} : ∀ (n:Nat) {k:Nat} {a:Arr} {r:RepD},ArrQ k a→(Dq id c n a r).ar.disks.length=a.disks.length∧ArrQ (k+a.disks.length * n) (Dq id c n a r).ar
 | 0,k,a,r,h=>⟨rfl,h.mono (by omega)⟩
 | n+1,k,a,r,h=>by
  have h1:=A4h h id c r.nx
  have hm:a.disks.length * (n+1)=a.disks.length * n+a.disks.length:=Nat.mul_add_one ..
  rw [Dq]
  split
  ·exact ⟨U3 ..,h1.mono (by omega)⟩
  ·obtain ⟨l,q⟩:=A2k (id:=id) (c:=c) n (r:=⟨r.nx+1,(addR r (Bm a id c r.nx).2.1 (Bm a id c r.nx).2.2).me,(addR r (Bm a id c r.nx).2.1 (Bm a id c r.nx).2.2).lo,r.dn⟩) h1
   rw [U3] at l q
   exact ⟨l,q.mono (by omega)⟩
theorem Afb {k:Nat} {a:Arr} (h:ArrQ k a) {c:Cfg} (hC:As c) (id fr many:Int):(Bj a id c fr many).ar.disks.length=a.disks.length∧ArrQ (k+a.disks.length * 1001) (Bj a id c fr many).ar:=by
 unfold Bj
 split
 ·exact ⟨rfl,h.mono (by omega)⟩
 rename_i hb
 have hn:(min many (c.st - fr)).toNat≤1000:=by have:=hC.2.2.2.1;omega
 have hm:a.disks.length * (min many (c.st - fr)).toNat≤a.disks.length * 1000:=Nat.mul_le_mul_left _ hn
 have h1:=Zv h id c
 split
 ·split
  ·exact ⟨Rj ..,h1.mono (by omega)⟩
  ·obtain ⟨l,q⟩:=A2k (id:=id) (c:=c) (min many (c.st - fr)).toNat (r:=addR ⟨fr,0,0,false⟩ (B7 a id c).2.1 (B7 a id c).2.2) h1
   rw [Rj] at l q
   exact ⟨l,q.mono (by omega)⟩
 ·obtain ⟨l,q⟩:=A2k (id:=id) (c:=c) (min many (c.st - fr)).toNat (r:=⟨fr,0,0,false⟩) h
  exact ⟨l,q.mono (by omega)⟩
theorem Afc (hC:As c) (Q:ArrQ k a) (hd:(a.disks.length:Int)=c.k+c.m) (hk:k < 2 ^ 26) (hid:id < 2 ^ 62) (hv:h.get pv=some (volC pa c id sq)) (A:At (ArrI pa q n cells ps a) R h) (hR:R pv) (hlp:h.lp=none) :
  CSem Tryz.prog 22 [.ptr pv 0] h fun x h'=>x = .tup [.agg (repC (Dt a id c).rp),.int .i64 (Dt a id c).er]∧At (ArrI pa q n cells ps (Dt a id c).ar) R h'∧Keep R h h':=by
 refine CSem.body hm Tryz.func22 rfl (by kernel_rfl) (by kernel_rfl) (by simp [Tryz.ntmps22]) ?_
 have haggR:aggT Tryz.prog 44=some true:=by kernel_rfl
 have hzR:szT Tryz.prog 44=some 4:=by kernel_rfl
 have hzz:Au Tryz.prog 44=some (.agg [.int .i64 0,.int .i64 0,.int .i64 0,.bool false]):=by kernel_rfl
 have hfx:G6 Tryz.prog 23 (CfA c) 3=some (.int .i64 c.st):=by kernel_rfl
 have eA:∀ zs,(h.alloc zs).get h.next=some zs:=fun zs=>Heap.A9 h zs
 have hRl:∀ b,R b→b < h.next:=fun b hb=>A.lt hb
 simp [Tryz.f22,hzz,AV.cells]
 refine (Hv (Heap.Af hv)).use ?_
 have hmx:(if c.st < 1 then 1 else c.st)=max c.st 1:=by split<;>omega
 simp [hfx,Jj,hmx]
 refine (Zw hC Q hd hk hid (Heap.Af hv) (A.alloc (ArrI.loc pa q n cells ps a) _) (.inl hR) hlp 0 (max c.st 1)).then ?_
 rintro _ h2 ⟨rfl,A2,K2⟩
 have g2:h2.get h.next=some _:=K2.got (.inr rfl) (eA _)
 have e2:∀ zs,(h2.put h.next zs).get h.next=some zs:=fun zs=>Heap.Ac g2
 have K0:Keep R h (h.alloc [.int .i64 0,.int .i64 0,.int .i64 0,.bool false]):=(Keep.refl R h).alloc _ hRl
 have hF:Bj a id c 0 (max c.st 1)=Dt a id c:=rfl
 rw [hF] at *
 simp [Ae,hzR,putN,g2,e2,Ab haggR,takeN,repC]
 exact ⟨(A2.put (ArrI.loc pa q n cells ps _) _ (.inr rfl)).mono fun b hb=> .inl hb,(K0.trans (K2.mono fun b hb=> .inl hb)).put _ fun hb=>by have:=hRl _ hb;omega⟩
theorem Aby (fr many:Int) (h:Heap):CSem Tryz.prog 11 [.nilPtr,.int .i64 fr,.int .i64 many] h fun x h'=>x = .tup [.agg (repC rep0),.int .i64 1]∧Ext h h':=by
 refine CSem.body hm Tryz.func11 rfl (by kernel_rfl) (by kernel_rfl) (by simp [Tryz.ntmps11]) ?_
 have haggR:aggT Tryz.prog 44=some true:=by kernel_rfl
 have hzR:szT Tryz.prog 44=some 4:=by kernel_rfl
 have hzz:Au Tryz.prog 44=some (.agg [.int .i64 0,.int .i64 0,.int .i64 0,.bool false]):=by kernel_rfl
 have hb0:Ce Tryz.prog 44 []=some (.agg [.int .i64 0,.int .i64 0,.int .i64 0,.bool false]):=by kernel_rfl
 have hfx:G6 Tryz.prog 23 (CfA cfg0) 3=some (.int .i64 0):=by kernel_rfl
 have eA:∀ zs,(h.alloc zs).get h.next=some zs:=fun zs=>Heap.A9 h zs
 have eP:∀ zs ys,((h.alloc zs).put h.next ys).get h.next=some ys:=fun zs ys=>Heap.Ac (eA zs)
 simp [Tryz.f11,hzz,AV.cells]
 refine (Zx _).use ?_
 simp [hfx,hb0,Ae,hzR,putN,eA,eP,Ab haggR,takeN,repC,rep0]
 exact ((Ext.refl h).alloc _).put (Nat.le_refl _) _
theorem Afd (h:Heap):CSem Tryz.prog 22 [.nilPtr] h fun x h'=>x = .tup [.agg (repC rep0),.int .i64 1]∧Ext h h':=by
 refine CSem.body hm Tryz.func22 rfl (by kernel_rfl) (by kernel_rfl) (by simp [Tryz.ntmps22]) ?_
 have haggR:aggT Tryz.prog 44=some true:=by kernel_rfl
 have hzR:szT Tryz.prog 44=some 4:=by kernel_rfl
 have hzz:Au Tryz.prog 44=some (.agg [.int .i64 0,.int .i64 0,.int .i64 0,.bool false]):=by kernel_rfl
 have hfx:G6 Tryz.prog 23 (CfA cfg0) 3=some (.int .i64 0):=by kernel_rfl
 have eA:∀ zs,(h.alloc zs).get h.next=some zs:=fun zs=>Heap.A9 h zs
 simp [Tryz.f22,hzz,AV.cells]
 refine (Zx _).use ?_
 simp [hfx,Jj]
 refine (Aby 0 1 _).then ?_
 rintro _ h2 ⟨rfl,E2⟩
 have g2:=E2.got (eA [.int .i64 0,.int .i64 0,.int .i64 0,.bool false])
 have e2:∀ zs,(h2.put h.next zs).get h.next=some zs:=fun zs=>Heap.Ac g2
 simp [Ae,hzR,putN,g2,e2,Ab haggR,takeN,repC,rep0]
 exact (((Ext.refl h).alloc _).trans E2).put (Nat.le_refl _) _
theorem Ut {a:Arr} {id:Int} {c:Cfg} {l:Int} {i:Nat} (h:(D5 a id c i l).2≠0):∀ j:Nat,D5 a id c (i+j) l=D5 a id c i l
 | 0=>rfl
 | j+1=>by
  rw [show i+(j+1)=(i+j)+1 from rfl,D5,Ut h j,if_pos h]
structure LsI (pv:Nat) (a:Arr) (id:Int) (c:Cfg) (N:Nat) (H:Heap) (i:Nat) (r:Regs) (hp:Heap):Prop where
 le:i≤N
 r0:rg r 0 = .ptr pv 0
 r4:rg r 4 = .int .i64 (D5 a id c i 255).1
 r12:rg r 12 = .int .i64 c.st
 r13:rg r 13 = .int .i64 i
 ok:(D5 a id c i 255).2=0
 h:H=hp
theorem A7n (B:VolB k a c) (hv:h.get pv=some (volC pa c id sq)) (A:At (ArrI pa q n cells ps a) R h) (hlp:h.lp=none) :
  CSem Tryz.prog 14 [.ptr pv 0] h fun x h'=>x = .tup [.int .i64 (Dy a id c).1,.int .i64 (Dy a id c).2]∧h'=h:=by
 refine CSem.body hm Tryz.func14 rfl (by kernel_rfl) (by kernel_rfl) (by simp [Tryz.ntmps14]) ?_
 have hfx:G6 Tryz.prog 23 (CfA c) 3=some (.int .i64 c.st):=by kernel_rfl
 have h0:=Bk B.cf
 have hst:c.st=(c.st.toNat:Nat):=by omega
 have hst':c.st.toNat≤1000:=by have:=B.cf.2.2.2.1;omega
 unfold Dy
 simp [Tryz.f14]
 refine (Hv hv).use ?_
 simp [hfx]
 refine Am (LsI pv a id c c.st.toNat h) (c.st.toNat - ·) ?_ 0 ?_
 rotate_left
 ·exact ⟨by omega,by simp,by simp [D5],by simp,by simp,rfl,rfl⟩
 rintro i r hp ⟨le,r0,r4,r12,r13,ok,rfl⟩
 rcases Nat.lt_or_eq_of_le le with hlt|heq
 ·have hlt':(i:Int) < c.st:=by omega
  have hw1:IntKind.i64.wrap ((i:Int)+1)=(i:Int)+1:=wrap64 (by omega) (by omega)
  have hL:D5 a id c (i+1) 255=if (Cu a id c i).2≠0 then (0,(Cu a id c i).2) else (min (D5 a id c i 255).1 (Cu a id c i).1,0):=by
   rw [D5,if_neg (by simpa using ok)]
  simp [r12,r13,hlt',r0]
  refine (A4j B hv A hlp i).use ?_
  by_cases he:(Cu a id c i).2=0
  ·rw [if_neg (by simpa using he)] at hL
   have hm:(if (Cu a id c i).1 < (D5 a id c i 255).1 then (Cu a id c i).1 else (D5 a id c i 255).1)=min (D5 a id c i 255).1 (Cu a id c i).1:=by split<;>omega
   simp [he,r4,r13,hw1,Nr,hm]
   exact ⟨i+1,by omega,by omega,by simpa using r0,by simp [hL],by simpa using r12,by simp,by rw [hL],rfl⟩
  ·rw [if_pos he] at hL
   have hs:=Ut (i:=i+1) (a:=a) (id:=id) (c:=c) (l:=255) (by rw [hL];exact he) (c.st.toNat - (i+1))
   rw [show i+1+(c.st.toNat - (i+1))=c.st.toNat by omega,hL] at hs
   rw [hs]
   simp [he]
 ·subst heq
  have hge:¬((c.st.toNat:Nat):Int) < c.st:=by omega
  rw [←hst] at r13
  simp [r12,r13,r4,ok]
end
end Go.Proofs.YtpabfpccpbakfaaGreatDoor.X
