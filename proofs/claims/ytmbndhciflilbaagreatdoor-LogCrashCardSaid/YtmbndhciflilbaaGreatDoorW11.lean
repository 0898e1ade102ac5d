/-
  LogCrash: what A6m behind the loop.
-/
import Derived.Test.YtmbndhciflilbaaGreatDoorW08
import Derived.Test.YtmbndhciflilbaaGreatDoorW10
namespace Go.Proofs.YtmbndhciflilbaaGreatDoor.X
open Go.RowKit F
set_option maxRecDepth 100000
set_option linter.unusedSimpArgs false
set_option linter.unusedVariables false
section
variable {p q nb:Nat} {cells:List AV} {ps:List Nat} {pv lb wb f count mb bo bc k:Nat} {c:Cfg} {a:Arr} {sq:Int} {E:Nat→Prop} {hp h':Heap} {L:List Txt} {T:Txt} {z:Nat}
theorem L8 {s t:Txt} (h:t <+: s) (hp:Heap) (K:AV→Heap→Prop) (hK:K (.bool true) hp):Call Tryz.prog 25 [S s,S t] hp K:=by
 refine ((Ym s t).call (k:=1) μ).use ?_
 rw [decide_eq_true (Ac0 h)]
 exact hK
theorem lc32 {cd:Code} (hc:(Tryz.f8.body).bind (Df 32)=some cd) {r:Regs} {Q:Out→Regs→Heap→Prop} {U:Txt} {most:AV} {d:Bool} (r11:rg r 11 = .ptr mb 0) (r15:rg r 15 = .bool d) (r20:rg r 20=S U) (gm:hp.get mb=some [S T,most]) (hd:d=false→U=T)
  (hQ:∀ r',(∀ t,t < 24→rg r' t=rg r t)→Q .norm r' hp):wpc Tryz.prog cd Q r hp:=by
 simp [Tryz.f8,Df] at hc
 subst hc
 cases d with
 | true =>
  simp [r15]
  refine hQ _ fun t ht=> ?_
  simp
  repeat rw [if_neg ω]
 | false =>
  have e:=hd rfl
  subst e
  simp [r11,r15,r20,A8,gm]
  refine hQ _ fun t ht=> ?_
  simp
  repeat rw [if_neg ω]
theorem lc34 {cd:Code} (hc:(Tryz.f8.body).bind (Df 34)=some cd) {r:Regs} {Q:Out→Regs→Heap→Prop} {U old:Txt} {most:AV} (r11:rg r 11 = .ptr mb 0) (r12:rg r 12=S old) (r20:rg r 20=S U) (gm:hp.get mb=some [S T,most]) (hb:old.length≤T.length→old <+: U∧U <+: T)
  (hQ:∀ r',(∀ t,t < 24→rg r' t=rg r t)→Q .norm r' hp):wpc Tryz.prog cd Q r hp:=by
 simp [Tryz.f8,Df] at hc
 subst hc
 by_cases hl:old.length≤T.length
 ·obtain ⟨h1,h2⟩:=hb hl
  simp [r11,r12,r20,A8,gm,hl]
  refine L8 h1 _ _ ?_
  simp [r11,r12,r20,A8,gm,hl]
  refine L8 h2 _ _ ?_
  simp
  refine hQ _ fun t ht=> ?_
  simp
  repeat rw [if_neg ω]
 ·simp [r11,r12,r20,A8,gm,hl]
  refine hQ _ fun t ht=> ?_
  simp
  repeat rw [if_neg ω]
theorem lc36 {cd:Code} (hc:(Tryz.f8.body).bind (Df 36)=some cd) {r:Regs} {Q:Out→Regs→Heap→Prop} {U old:Txt} {most:AV} (r11:rg r 11 = .ptr mb 0) (r12:rg r 12=S old) (r20:rg r 20=S U) (gm:hp.get mb=some [S T,most]) (hb:T.length < old.length→T <+: U∧U <+: old)
  (hQ:∀ r',(∀ t,t < 24→rg r' t=rg r t)→Q .norm r' hp):wpc Tryz.prog cd Q r hp:=by
 simp [Tryz.f8,Df] at hc
 subst hc
 by_cases hl:T.length < old.length
 ·obtain ⟨h1,h2⟩:=hb hl
  simp [r11,r12,r20,A8,gm,hl]
  refine L8 h1 _ _ ?_
  simp [r11,r12,r20,A8,gm,hl]
  refine L8 h2 _ _ ?_
  simp
  refine hQ _ fun t ht=> ?_
  simp
  repeat rw [if_neg ω]
 ·simp [r11,r12,r20,A8,gm,hl]
  refine hQ _ fun t ht=> ?_
  simp
  repeat rw [if_neg ω]
theorem lc42 {cd:Code} (hc:(Tryz.f8.body).bind (Df 42)=some cd) {r:Regs} {Q:Out→Regs→Heap→Prop} {U:Txt} {m lz:Nat} (r20:rg r 20=S U) (r21:rg r 21 = .int .i64 m) (r22:rg r 22 = .ptr lz 0) (r23:rg r 23 = .int .i64 0) (hml:m≤U.length) (hm2:m≤2)
  (ht:CSem Tryz.prog 18 [.ptr lz 0] hp fun x h'=>x=S (U.take m ++ [120])∧h'=hp) (hQ:∀ r' h',rg r' 2 = .bool true→Q .ret r' h'):wpc Tryz.prog cd Q r hp:=by
 simp [Tryz.f8,Df] at hc
 subst hc
 have hml':(m:Int)≤U.length:=by omega
 have hcat:min m U.length+1≤140737488355328:=by omega
 have hcat2:m+1≤140737488355328:=by omega
 rw [Eb]
 refine Br 15 κ ?_
 simp [r20,r21,r22,r23]
 refine D7.use (x:=S (U.take m ++ [120])) ht ?_
 simp [r20,r21,r22,r23,hml,hml',hcat,hcat2]
 refine D7.use (x:= .bool true) (Nt hp) ?_
 simp
 exact hQ _ _ μ
theorem lc38 {cd:Code} (hc:(Tryz.f8.body).bind (Df 38)=some cd) {r:Regs} {Q:Out→Regs→Heap→Prop} {U:Txt} (r3:rg r 3 = .ptr bc 0) (r16:rg r 16 = .ptr pv 0) (r18:rg r 18 = .ptr lb 0) (r20:rg r 20=S U)
  (gc:hp.get bc=some [.int .i64 c.k,.int .i64 c.m,.int .i64 c.sh,.int .i64 c.st,.int .i64 c.sl]) (S3:LgS p q nb cells ps pv lb wb 0 count c z a sq L U E hp) (hs:sq≤900) (hbc:E bc) (hbw:bc≠wb) (hcc:(count:Int)=c.st) (hc0:0 < count) (hz4:4≤z) (hQ:∀ r' h',rg r' 2 = .bool true→Q .ret r' h'):wpc Tryz.prog cd Q r hp:=by
 simp [Tryz.f8,Df] at hc
 subst hc
 generalize hg42:Code.seq (Code.region 42 _ _) _=c42
 have hc42:(Tryz.f8.body).bind (Df 42)=some c42:=by rw [←hg42];rfl
 clear hg42
 have hout:∀ (h:Heap),CSem Tryz.prog 10 [] h fun x h'=>x = .bool true∧h'=h:=Nt
 have hm0:(if (2:Int) < U.length then 2 else (U.length:Int))=((min U.length 2:Nat):Int):=by split<;>omega
 have hm0':(if 2 < U.length then 2 else (U.length:Int))=((min U.length 2:Nat):Int):=by split<;>omega
 generalize hm:min U.length 2=m at hm0 hm0'
 have hml:m≤U.length:=by omega
 have hml':(m:Int)≤U.length:=by omega
 have htl:(U.take m).length=m:=by rw [List.length_take];omega
 obtain ⟨hz0,hz13,hc6,hcz',_⟩:=S3.A3v
 have hcz4:4≤count * z:=by
  have:=Nat.mul_le_mul hc0 hz4
  omega
 have hcat:m+1≤140737488355328:=by omega
 refine Nd (fun r' h'=>(∀ t,t < 21→rg r' t=rg r t)∧rg r' 21 = .int .i64 m∧hp=h') ?_ ?_
 rotate_left
 ·simp [r20,hm0,hm0']
  intro t ht
  repeat rw [if_neg ω]
 rintro r2 _ ⟨old,q21,rfl⟩
 have q3:=(old 3 ν).trans r3
 have q16:=(old 16 ν).trans r16
 have q18:=(old 18 ν).trans r18
 have q20:=(old 20 ν).trans r20
 clear old r3 r16 r18 r20
 simp [q18,q21]
 refine (S3.A8x (m:=m) ω hml).then ?_
 rintro _ h4 ⟨rfl,a4,sq4,L4,S4,F4,O4,k4⟩
 simp [q18]
 refine (S4.append (s:=[120]) ω (by rw [htl];simp;omega)).then ?_
 rintro _ h5 ⟨rfl,a5,sq5,L5,S5,F5,O5,k5⟩
 have gc5:=((F5 bc ⟨hbc,hbw⟩).trans (F4 bc ⟨hbc,hbw⟩)).trans gc
 simp [q3,q16,A8,gc5]
 rw [←hcc]
 refine (S5.open_ hc0).then ?_
 rintro _ h6 ⟨lz,wz,rfl,S6,F6,hne6⟩
 have ht:=S6.text
 simp
 refine lc42 hc42 (by simpa using q20) (by simpa using q21) μ μ hml ω ht hQ
theorem lc25 {cd:Code} (hc:(Tryz.f8.body).bind (Df 25)=some cd) {r:Regs} {Q:Out→Regs→Heap→Prop} {kp:List Bool} {old U1 U2:Txt} {most:AV} (r3:rg r 3 = .ptr bc 0) (r6:rg r 6=OL kp) (r7:rg r 7 = .ptr p 0) (r11:rg r 11 = .ptr mb 0) (r12:rg r 12=S old)
  (gc:hp.get bc=some [.int .i64 c.k,.int .i64 c.m,.int .i64 c.sh,.int .i64 c.st,.int .i64 c.sl]) (gm:hp.get mb=some [S T,most]) (hT:T.length≤count * z) (ho:old.length≤count * z) (hcz:count * z < 2 ^ 20) (hcc:(count:Int)=c.st) (hc0:0 < count) (hC:Ax c) (hz:(z:Int)=Aw c) (hz4:4≤z) (h6:c.st≤6) (hkl:kp.length < 2 ^ 62)
  (Cr:CrQ p q nb cells ps pv 0 count c z k a sq U1 U2 (fun x=>x=bc∨x=mb) hp) (b1:Btw old T U1) (b2:Btw old T U2) (hd:a.down=false→U1=T∧U2=T) (hQ:∀ r' h',rg r' 2 = .bool true→Q .ret r' h'):wpc Tryz.prog cd Q r hp:=by
 simp [Tryz.f8,Df] at hc
 subst hc
 generalize hg32:Code.seq (Code.region 32 _ _) _=c32
 generalize hg34:Code.seq (Code.region 34 _ _) _=c34
 generalize hg36:Code.seq (Code.region 36 _ _) _=c36
 generalize hg38:Code.seq (Code.region 38 _ _) _=c38
 have hc32:(Tryz.f8.body).bind (Df 32)=some c32:=by rw [←hg32];rfl
 have hc34:(Tryz.f8.body).bind (Df 34)=some c34:=by rw [←hg34];rfl
 have hc36:(Tryz.f8.body).bind (Df 36)=some c36:=by rw [←hg36];rfl
 have hc38:(Tryz.f8.body).bind (Df 38)=some c38:=by rw [←hg38];rfl
 clear hg32 hg34 hg36 hg38
 have hout:∀ (h:Heap) (K:AV→Heap→Prop),K (.bool true) h→Call Tryz.prog 10 [] h K:=out22
 simp [r7]
 refine (Hj Cr.H.at_).use ?_
 simp [r6,r7]
 refine (Cr.A1v h6 kp hkl).then ?_
 rintro _ h1 ⟨rfl,F1,op⟩
 simp [r7]
 refine op.then ?_
 rintro _ h2 ⟨pw,a',sq',L,U,rfl,H2,F2,W,ll,s0,s1,hP,hU⟩
 have gc2:=(F2 bc (.inl rfl)).trans gc
 have gm2:=(F2 mb (.inr rfl)).trans gm
 have bU:Btw old T U:=by rcases hU with rfl|rfl<;>assumption
 have hdU:a.down=false→U=T:=fun h=>by
  obtain ⟨e1,e2⟩:=hd h
  rcases hU with rfl|rfl<;>assumption
 have hUl:=bU.le ho hT
 clear hU op b1 b2 hd Cr F1
 simp [r3,A8,gc2]
 rw [←hcc]
 refine (LgS.opn (f:=0) (count:=count) H2 hC hz h6 W ll s0 hc0 ω hUl hP).then ?_
 rintro _ h3 ⟨lk,wk,rfl,S3,F3,hne3⟩
 have gc3:=(F3 bc (.inl rfl)).trans gc2
 have gm3:=(F3 mb (.inr rfl)).trans gm2
 obtain ⟨n1,n2⟩:=hne3 bc (.inl rfl)
 simp
 refine S3.text.use ?_
 have hbeg:(old.length≤T.length→old <+: U∧U <+: T):=bU.up
 have hbeg':(T.length < old.length→T <+: U∧U <+: old):=bU.dn
 simp
 refine lc32 hc32 (by simpa using r11) μ μ gm3 hdU fun x1 y1=> ?_
 refine lc34 hc34 ((y1 11 ν).trans (by simpa using r11)) ((y1 12 ν).trans (by simpa using r12)) ((y1 20 ν).trans μ) gm3 hbeg fun x2 y2=> ?_
 refine lc36 hc36 ((y2 11 ν).trans ((y1 11 ν).trans (by simpa using r11))) ((y2 12 ν).trans ((y1 12 ν).trans (by simpa using r12))) ((y2 20 ν).trans ((y1 20 ν).trans μ)) gm3 hbeg' fun x3 y3=> ?_
 refine lc38 hc38 ((y3 3 ν).trans ((y2 3 ν).trans ((y1 3 ν).trans (by simpa using r3)))) ((y3 16 ν).trans ((y2 16 ν).trans ((y1 16 ν).trans μ))) ((y3 18 ν).trans ((y2 18 ν).trans ((y1 18 ν).trans μ))) ((y3 20 ν).trans ((y2 20 ν).trans ((y1 20 ν).trans μ))) gc3 S3 s1 (.inl (.inl (.inl rfl))) n2 hcc hc0 hz4 hQ
end
end Go.Proofs.YtmbndhciflilbaaGreatDoor.X
