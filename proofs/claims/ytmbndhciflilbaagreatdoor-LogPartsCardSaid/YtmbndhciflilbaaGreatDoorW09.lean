/-
  Two logs on two volumes; LogParts.
-/
import Derived.Test.YtmbndhciflilbaaGreatDoorW08
namespace Go.Proofs.YtmbndhciflilbaaGreatDoor.X
open Go.RowKit F
set_option maxRecDepth 100000
set_option linter.unusedSimpArgs false
set_option linter.unusedVariables false
section
variable {p q nb p' q' nb':Nat} {cells cells':List AV} {ps ps':List Nat} {pv pv' lb wb lb' wb' count z:Nat} {c:Cfg} {a a':Arr} {sq sq':Int} {L L':List Txt} {T T':Txt} {E:Nat→Prop} {hp:Heap}
structure TwL (p q nb:Nat) (cells:List AV) (ps:List Nat) (pv lb wb p' q' nb':Nat) (cells':List AV) (ps':List Nat) (pv' lb' wb' count:Nat) (c:Cfg) (z:Nat) (a:Arr) (sq:Int) (L:List Txt) (T:Txt) (a':Arr) (sq':Int) (L':List Txt) (T':Txt) (E:Nat→Prop) (hp:Heap):Prop where
 two:TwoV p q nb cells ps pv c 0 a sq p' q' nb' cells' ps' pv' c 0 a' sq' E hp
 G:LF c a sq L 0 count (prts z T count)
 A:LgB lb wb pv 0 count (z:Nat) (prts z T count) hp
 le:T.length≤count * z
 lf:a.left < 0
 G':LF c a' sq' L' 0 count (prts z T' count)
 A':LgB lb' wb' pv' 0 count (z:Nat) (prts z T' count) hp
 le':T'.length≤count * z
 lf':a'.left < 0
 e1:E lb
 e2:E wb
 e3:E lb'
 e4:E wb'
 n1:lb≠wb'
 n2:wb≠lb'
 n3:wb≠wb'
 hC:ConfP c
 hz:(z:Int)=confCap c
 h6:c.st≤6
theorem TwL.swap (t:TwL p q nb cells ps pv lb wb p' q' nb' cells' ps' pv' lb' wb' count c z a sq L T a' sq' L' T' E hp):TwL p' q' nb' cells' ps' pv' lb' wb' p q nb cells ps pv lb wb count c z a' sq' L' T' a sq L T E hp :=
 ⟨t.two.swap,t.G',t.A',t.le',t.lf',t.G,t.A,t.le,t.lf,t.e3,t.e4,t.e1,t.e2,Ne.symm t.n2,Ne.symm t.n1,Ne.symm t.n3,t.hC,t.hz,t.h6⟩
theorem TwL.turn (t:TwL p q nb cells ps pv lb wb p' q' nb' cells' ps' pv' lb' wb' count c z a sq L T a' sq' L' T' E hp) :
  ∃ E1:Nat→Prop,(∀ x,E x→E1 x)∧LgS p q nb cells ps pv lb wb 0 count c z a sq L T E1 hp∧∀ {a1:Arr} {sq1:Int} {L1:List Txt} {T1:Txt} {h':Heap},LgS p q nb cells ps pv lb wb 0 count c z a1 sq1 L1 T1 E1 h'→Fr' (fun x=>E1 x∧x≠wb) hp h'→TwL p q nb cells ps pv lb wb p' q' nb' cells' ps' pv' lb' wb' count c z a1 sq1 L1 T1 a' sq' L' T' E h':=by
 obtain ⟨F',H,A',hE,hp'⟩:=t.two.ex
 refine ⟨_,fun x hx=> .inl hx,⟨H,t.G,t.A,t.le,t.lf,.inl t.e1,.inl t.e2,t.hC,t.hz,t.h6⟩,fun {a1 sq1 L1 T1 h'} S1 F1=> ?_⟩
 exact ⟨⟨⟨F',S1.H,(ArrI.loc p' q' nb' cells' ps' a').keep _ _ _ A' fun b hb=>F1 b ⟨.inr (.inr hb),fun e=>hE wb t.e2 (e ▸ hb)⟩,hE,hp'⟩,(F1 pv' ⟨.inr (.inl rfl),fun e=>t.two.ne wb t.e2 e.symm⟩).trans t.two.gv,t.two.q,t.two.len,t.two.ne⟩,S1.G,S1.A,S1.le,S1.lf,t.G',t.A'.keep (F1 lb' ⟨.inl t.e3,Ne.symm t.n2⟩) (F1 wb' ⟨.inl t.e4,Ne.symm t.n3⟩),t.le',t.lf',t.e1,t.e2,t.e3,t.e4,t.n1,t.n2,t.n3,t.hC,t.hz,t.h6⟩
theorem TwL.text (t:TwL p q nb cells ps pv lb wb p' q' nb' cells' ps' pv' lb' wb' count c z a sq L T a' sq' L' T' E hp):CSem Tryz.prog 18 [.ptr lb 0] hp fun x h'=>x=S T∧h'=hp:=by
 obtain ⟨E1,_,S1,_⟩:=t.turn
 exact S1.text
theorem TwL.read (t:TwL p q nb cells ps pv lb wb p' q' nb' cells' ps' pv' lb' wb' count c z a sq L T a' sq' L' T' E hp) (n:Int) :
  CSem Tryz.prog 20 [.ptr pv 0,.int .i64 n] hp fun x h'=>x = .tup [S (mRd c L n).1,.int .i64 (mRd c L n).2]∧h'=hp:=by
 obtain ⟨E1,_,S1,_⟩:=t.turn
 exact S1.read n
theorem TwL.append (t:TwL p q nb cells ps pv lb wb p' q' nb' cells' ps' pv' lb' wb' count c z a sq L T a' sq' L' T' E hp) (hs:sq+count < 990) {s:Txt} (hsl:s.length < 2 ^ 63) :
  CSem Tryz.prog 14 [.ptr lb 0,S s] hp fun x h'=>x = .int .i64 (if s.length≤count * z - T.length then 0 else 11)∧∃ a1 sq1 L1,TwL p q nb cells ps pv lb wb p' q' nb' cells' ps' pv' lb' wb' count c z a1 sq1 L1 (if s.length≤count * z - T.length then T ++ s else T) a' sq' L' T' E h'∧Fr' (fun x=>E x∧x≠wb) hp h'∧sq1≤sq+count:=by
 obtain ⟨E1,hE,S1,k⟩:=t.turn
 refine (S1.append_if hs hsl).mono ?_
 rintro x h' ⟨rfl,a1,sq1,L1,S2,F,O,hq⟩
 exact ⟨rfl,a1,sq1,L1,k S2 F,F.less fun x hx=>⟨hE x hx.1,hx.2⟩,hq⟩
theorem TwL.same (t:TwL p q nb cells ps pv lb wb p' q' nb' cells' ps' pv' lb' wb' count c z a sq L T a' sq' L' T E hp) (hc:(count:Int)=c.st) (n:Int):(mRd c L n).1=(mRd c L' n).1:=by
 unfold mRd
 by_cases h:n < 0∨c.st≤n
 ·rw [if_pos h,if_pos h]
 ·rw [if_neg h,if_neg h]
  obtain ⟨m,rfl⟩:=Int.eq_ofNat_of_zero_le (show 0≤n by omega)
  have h1:=t.G.at_ m (by omega)
  have h2:=t.G'.at_ m (by omega)
  rw [Nat.zero_add] at h1 h2
  simp only [Int.toNat_natCast,h1,h2]
theorem TwoV.open1 (t:TwoV p q nb cells ps pv c 0 a sq p' q' nb' cells' ps' pv' c 0 a' sq' E hp) :
  ∃ E1:Nat→Prop,(∀ x,E x→E1 x)∧LawV p q nb cells ps pv c 0 a sq E1 hp∧∀ {lb wb:Nat} {h':Heap},LawV p q nb cells ps pv c 0 a sq (fun x=>(E1 x∨x=lb)∨x=wb) h'→Fr' E1 hp h'→(∀ x,E1 x→x≠lb∧x≠wb)→TwoV p q nb cells ps pv c 0 a sq p' q' nb' cells' ps' pv' c 0 a' sq' (fun x=>(E x∨x=lb)∨x=wb) h':=by
 obtain ⟨F',H,A',hE,hp'⟩:=t.ex
 refine ⟨_,fun x hx=> .inl hx,H,fun {lb wb h'} H1 F1 hne=>⟨⟨F',H1.less fun x hx=> ?_,(ArrI.loc p' q' nb' cells' ps' a').keep _ _ _ A' fun b hb=>F1 b (.inr (.inr hb)),fun x hx hF=> ?_,hp'⟩,(F1 pv' (.inr (.inl rfl))).trans t.gv,t.q,t.len,fun x hx=> ?_⟩⟩
 ·rcases hx with ((hx|hx)|hx)|hx
  ·exact .inl (.inl (.inl hx))
  ·exact .inl (.inr hx)
  ·exact .inr hx
  ·exact .inl (.inl (.inr hx))
 ·rcases hx with (hx|hx)|hx
  ·exact hE x hx hF
  ·exact (hne x (.inr (.inr hF))).1 hx
  ·exact (hne x (.inr (.inr hF))).2 hx
 ·rcases hx with (hx|rfl)|rfl
  ·exact t.ne x hx
  ·exact fun e=>(hne pv' (.inr (.inl rfl))).1 e.symm
  ·exact fun e=>(hne pv' (.inr (.inl rfl))).2 e.symm
structure LpI (p q nb:Nat) (cells:List AV) (ps:List Nat) (pv lb wb p' q' nb':Nat) (cells':List AV) (ps':List Nat) (pv' lb' wb' count:Nat) (c:Cfg) (z:Nat) (a':Arr) (sq':Int) (L':List Txt) (bc:Nat) (ts:List Txt) (i:Nat) (r:Regs) (hp:Heap):Prop where
 le:i≤ts.length
 r1:rg r 1=SL ts
 r2:rg r 2 = .ptr bc 0
 r6:rg r 6 = .ptr pv 0
 r8:rg r 8 = .ptr pv' 0
 r9:rg r 9 = .ptr lb 0
 r11:rg r 11 = .ptr lb' 0
 r13:rg r 13=S (ts.take i).flatten
 r14:rg r 14 = .int .i64 i
 gc:hp.get bc=some [.int .i64 c.k,.int .i64 c.m,.int .i64 c.sh,.int .i64 c.st,.int .i64 c.sl]
 ex:∃ a sq L,TwL p q nb cells ps pv lb wb p' q' nb' cells' ps' pv' lb' wb' count c z a sq L (ts.take i).flatten a' sq' L' [] (fun x=>(((x=bc∨x=lb)∨x=wb)∨x=lb')∨x=wb') hp∧sq≤100+6 * i
theorem flat_take {ts:List Txt} {i:Nat} (h:i < ts.length):(ts.take (i+1)).flatten=(ts.take i).flatten ++ ts[i]:=by
 rw [List.take_succ_eq_append_getElem h,List.flatten_append]
 simp
theorem lp10 {cd:Code} (hc:(Tryz.f5.body).bind (findS 10)=some cd) {r:Regs} {Q:Out→Regs→Heap→Prop} {bc:Nat} {ts:List Txt} (r1:rg r 1=SL ts) (r2:rg r 2 = .ptr bc 0) (r6:rg r 6 = .ptr pv 0) (r8:rg r 8 = .ptr pv' 0) (r9:rg r 9 = .ptr lb 0) (r11:rg r 11 = .ptr lb' 0) (r13:rg r 13=S [])
  (gc:hp.get bc=some [.int .i64 c.k,.int .i64 c.m,.int .i64 c.sh,.int .i64 c.st,.int .i64 c.sl]) (t:TwL p q nb cells ps pv lb wb p' q' nb' cells' ps' pv' lb' wb' count c z a sq L [] a' sq' L' [] (fun x=>(((x=bc∨x=lb)∨x=wb)∨x=lb')∨x=wb') hp) (hsq:sq≤100) (hcw:bc≠wb) (hts:ts.length≤8)
  (hR:∀ r' h',rg r' 4 = .bool true→Q .ret r' h') (hQ:∀ r' h',LpI p q nb cells ps pv lb wb p' q' nb' cells' ps' pv' lb' wb' count c z a' sq' L' bc ts ts.length r' h'→Q .norm r' h'):wpc Tryz.prog cd Q r hp:=by
 simp [Tryz.f5,findS] at hc
 subst hc
 have hout:∀ (h:Heap) (K:AV→Heap→Prop),K (.bool true) h→Call Tryz.prog 10 [] h K:=out22
 have h6:=t.h6
 obtain ⟨E1,_,S1,_⟩:=t.turn
 obtain ⟨_,_,hc6,hcz,_⟩:=S1.sizes
 clear S1
 simp
 refine wpc_loop (LpI p q nb cells ps pv lb wb p' q' nb' cells' ps' pv' lb' wb' count c z a' sq' L' bc ts) (ts.length - ·) ?_ 0 ?_
 rotate_left
 ·exact ⟨by omega,by simpa using r1,by simpa using r2,by simpa using r6,by simpa using r8,by simpa using r9,by simpa using r11,by simpa using r13,by simp,gc,a,sq,L,by simpa using t,by omega⟩
 clear r1 r2 r6 r8 r9 r11 r13 gc t hsq
 rintro i r hp ⟨le,r1,r2,r6,r8,r9,r11,r13,r14,gc,a,sq,L,t,hsq⟩
 rcases Nat.lt_or_eq_of_le le with hlt|heq
 rotate_left
 ·subst heq
  simp [r1,r14]
  exact hQ _ _ ⟨Nat.le_refl _,by simpa using r1,by simpa using r2,by simpa using r6,by simpa using r8,by simpa using r9,by simpa using r11,by simpa using r13,by simpa using r14,gc,a,sq,L,t,hsq⟩
 have hlt':(i:Int) < ts.length:=by omega
 have hw1:IntKind.i64.wrap ((i:Int)+1)=(i:Int)+1:=wrap64 (by omega) (by omega)
 by_cases h5:(5000:Int) < ts[i].length
 ·simp [r1,r14,hlt,hlt',h5]
  refine hout _ _ ?_
  simp
  exact hR _ _ (by simp)
 have hle:=t.le
 simp [r1,r9,r14,hlt,hlt',h5]
 refine (t.append (s:=ts[i]) (by omega) (by omega)).then ?_
 rintro _ h1 ⟨rfl,a1,sq1,L1,t1,F1,q1⟩
 have hcs:(ts.take (i+1)).flatten=(ts.take i).flatten ++ ts[i]:=flat_take hlt
 generalize (ts.take i).flatten=U at *
 by_cases hf:ts[i].length≤count * z - U.length
 ·simp only [if_pos hf] at t1
  have hcat:U.length+ts[i].length≤140737488355328:=by omega
  have gc1:=(F1 bc ⟨.inl (.inl (.inl (.inl rfl))),hcw⟩).trans gc
  simp [hf,r1,r13,r14,hlt,hlt',hcat,hw1]
  exact ⟨i+1,by omega,by omega,by simpa using r1,by simpa using r2,by simpa using r6,by simpa using r8,by simpa using r9,by simpa using r11,by rw [hcs];simp,by simp,gc1,a1,sq1,L1,by rw [hcs];exact t1,by push_cast;omega⟩
 ·simp [hf]
  refine hout _ _ ?_
  simp
  exact hR _ _ (by simp)
structure LpR (pv pv' bc:Nat) (c:Cfg) (h0:Heap) (j:Nat) (r:Regs) (hp:Heap):Prop where
 le:(j:Int)≤c.st
 r2:rg r 2 = .ptr bc 0
 r6:rg r 6 = .ptr pv 0
 r8:rg r 8 = .ptr pv' 0
 r15:rg r 15 = .int .i64 j
 h:h0=hp
theorem lp18 {cd:Code} (hc:(Tryz.f5.body).bind (findS 18)=some cd) {r:Regs} {Q:Out→Regs→Heap→Prop} {bc:Nat} (r2:rg r 2 = .ptr bc 0) (r6:rg r 6 = .ptr pv 0) (r8:rg r 8 = .ptr pv' 0)
  (gc:hp.get bc=some [.int .i64 c.k,.int .i64 c.m,.int .i64 c.sh,.int .i64 c.st,.int .i64 c.sl]) (t:TwL p q nb cells ps pv lb wb p' q' nb' cells' ps' pv' lb' wb' count c z a sq L T a' sq' L' T E hp) (hcc:(count:Int)=c.st) (hQ:∀ r',Q .norm r' hp):wpc Tryz.prog cd Q r hp:=by
 simp [Tryz.f5,findS] at hc
 subst hc
 have h6:=t.h6
 simp
 refine wpc_loop (LpR pv pv' bc c hp) (c.st.toNat - ·) ?_ 0 ?_
 rotate_left
 ·exact ⟨by have:=t.hC.2.2.2.1.1;omega,by simpa using r2,by simpa using r6,by simpa using r8,by simp,rfl⟩
 clear r2 r6 r8
 rintro j r _ ⟨jle,r2,r6,r8,r15,rfl⟩
 rcases Int.lt_or_eq_of_le jle with jlt|jeq
 rotate_left
 ·simp [r2,r15,fieldAddrX,gc,jeq]
  exact hQ _
 have hwj:IntKind.i64.wrap ((j:Int)+1)=(j:Int)+1:=wrap64 (by omega) (by omega)
 have hsame:=t.same hcc j
 simp [r2,r6,r8,r15,fieldAddrX,gc,jlt]
 refine (t.read j).use ?_
 generalize mRd c L j=x at hsame
 simp [r8,r15]
 refine (t.swap.read j).use ?_
 generalize mRd c L' j=y at hsame
 obtain ⟨x1,x2⟩:=x
 obtain ⟨y1,y2⟩:=y
 simp only at hsame
 subst hsame
 simp [r15,hwj]
 exact ⟨j+1,by omega,by omega,by simpa using r2,by simpa using r6,by simpa using r8,by simp,rfl⟩
theorem lp16 {cd:Code} (hc:(Tryz.f5.body).bind (findS 16)=some cd) {r:Regs} {Q:Out→Regs→Heap→Prop} {bc:Nat} (r2:rg r 2 = .ptr bc 0) (r6:rg r 6 = .ptr pv 0) (r8:rg r 8 = .ptr pv' 0) (r9:rg r 9 = .ptr lb 0) (r11:rg r 11 = .ptr lb' 0) (r13:rg r 13=S T)
  (gc:hp.get bc=some [.int .i64 c.k,.int .i64 c.m,.int .i64 c.sh,.int .i64 c.st,.int .i64 c.sl]) (t:TwL p q nb cells ps pv lb wb p' q' nb' cells' ps' pv' lb' wb' count c z a sq L T a' sq' L' [] E hp) (hsq:sq'≤100) (hbc:E bc) (hcw:bc≠wb')
  (hQ:∀ r' h',rg r' 2 = .ptr bc 0→rg r' 6 = .ptr pv 0→rg r' 8 = .ptr pv' 0→h'.get bc=hp.get bc→(∃ a2 sq2 L2,TwL p q nb cells ps pv lb wb p' q' nb' cells' ps' pv' lb' wb' count c z a sq L T a2 sq2 L2 T E h')→Q .norm r' h'):wpc Tryz.prog cd Q r hp:=by
 simp [Tryz.f5,findS] at hc
 subst hc
 obtain ⟨E1,_,S1,_⟩:=t.turn
 obtain ⟨_,_,hc6,hcz,_⟩:=S1.sizes
 clear S1
 have hle:=t.le
 simp [r11,r13]
 refine (t.swap.append (s:=T) (by omega) (by omega)).then ?_
 rintro _ h1 ⟨rfl,a1,sq1,L1,t1,F1,q1⟩
 have hf:T.length≤count * z - ([]:Txt).length:=by simpa using hle
 simp only [if_pos hf,List.nil_append] at t1
 rw [if_pos hf]
 simp [r11,r13]
 refine t1.text.use ?_
 simp [r9,r13]
 refine t1.swap.text.use ?_
 simp [r9,r13]
 exact hQ _ h1 (by simpa using r2) (by simpa using r6) (by simpa using r8) (F1 bc ⟨hbc,hcw⟩) ⟨a1,sq1,L1,t1.swap⟩
end
end Go.Proofs.YtmbndhciflilbaaGreatDoor.X
