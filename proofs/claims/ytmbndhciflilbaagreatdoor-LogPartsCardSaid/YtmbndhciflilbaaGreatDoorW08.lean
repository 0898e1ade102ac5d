/-
  LogScripts.
-/
import Derived.Test.YtmbndhciflilbaaGreatDoorW07
namespace Go.Proofs.YtmbndhciflilbaaGreatDoor.X
open Go.RowKit F
set_option maxRecDepth 100000
set_option linter.unusedSimpArgs false
set_option linter.unusedVariables false
def findS (n:Nat):Code→Option Code
 | .seq (.region i l d) b=>if i=n then some (.seq (.region i l d) b) else findS n b
 | .seq a b=>match findS n a with
  | some c=>some c
  | none=>findS n b
 | .cond _ a b=>match findS n a with
  | some c=>some c
  | none=>findS n b
 | .block _ a=>findS n a
 | .loop a=>findS n a
 | _=>none
section
variable {p q nb:Nat} {cells:List AV} {ps:List Nat} {pv lb wb f count mb bo bc:Nat} {c:Cfg} {a:Arr} {sq:Int} {E:Nat→Prop} {hp h':Heap} {L:List Txt} {T:Txt} {z:Nat}
theorem ls26 {cd:Code} (hc:(Tryz.f3.body).bind (findR 26)=some cd) {r:Regs} {Q:Out→Regs→Heap→Prop} (r9:rg r 9 = .ptr lb 0) (r11:rg r 11 = .ptr mb 0) (r14:rg r 14 = .bool true)
  (S':LgS p q nb cells ps pv lb wb f count c z a sq L T E hp) (gm:hp.get mb=some [S T,.int .i64 ((count * z:Nat):Int)]) (hQ:∀ r',(∀ d,d < 20→rg r' d=rg r d)→rg r' 162 = .bool false→Q .norm r' hp):wpc Tryz.prog cd Q r hp:=by
 simp [Tryz.f3,findR] at hc
 subst hc
 obtain ⟨hz0,hz13,hc6,hcz,_⟩:=S'.sizes
 have hle:=S'.le
 have hw:IntKind.i64.wrap (((count * z:Nat):Int) - (T.length:Int))=((count * z - T.length:Nat):Int):=by rw [wrap64 (by omega) (by omega)];omega
 have hr:=S'.room
 have ht:=S'.text
 generalize ((count * z - T.length:Nat):Int)=w at hw hr
 generalize ((count * z:Nat):Int)=y at hw gm
 clear S' hle hcz
 refine wpc_draw 26 (by kernel_rfl) ?_
 simp [r9,r11,r14]
 refine QCall.use (x:=S T) ht ?_
 simp [r9,r11,r14,gm,fieldAddrX]
 refine QCall.use (x:= .int .i64 w) hr ?_
 simp [r9,r11,r14,gm,fieldAddrX,hw]
 refine hQ _ (fun d hd=> ?_) (by simp)
 simp
 repeat rw [if_neg (by omega)]
def LsQ (p q nb:Nat) (cells:List AV) (ps:List Nat) (pv f count mb bc:Nat) (c:Cfg) (z:Nat) (sq:Int) (L:List Txt) (hp:Heap) (r r':Regs) (h':Heap):Prop :=
 ∃ lb' wb' a' sq' L' T',rg r' 9 = .ptr lb' 0∧LgS p q nb cells ps pv lb' wb' f count c z a' sq' L' T' (fun x=>((x=bc∨x=mb)∨x=lb')∨x=wb') h'∧h'.get mb=some [S T',.int .i64 ((count * z:Nat):Int)]∧h'.get bc=hp.get bc∧OutL L L' f count∧sq'≤sq+count∧mb≠lb'∧mb≠wb'∧bc≠wb'∧bc≠mb∧bc≠lb'
theorem ls18 {cd:Code} (hc:(Tryz.f3.body).bind (findS 18)=some cd) {r:Regs} {Q:Out→Regs→Heap→Prop} {o:LOp} (r4:rg r 4 = .int .i64 f) (r5:rg r 5 = .int .i64 count) (r8:rg r 8 = .ptr pv 0) (r9:rg r 9 = .ptr lb 0) (r11:rg r 11 = .ptr mb 0) (r13:rg r 13 = .ptr bo 0)
  (S1:LgS p q nb cells ps pv lb wb f count c z a sq L T (fun x=>(((x=bc∨x=mb)∨x=lb)∨x=wb)∨x=bo) hp) (gm:hp.get mb=some [S T,.int .i64 ((count * z:Nat):Int)]) (go:hp.get bo=some (LOpC o)) (hs:sq+count < 990) (hc0:0 < count) (hos:o.s.length < 2 ^ 63) (m1:mb≠lb) (m2:mb≠wb) (m3:bc≠wb) (m4:bc≠mb) (m5:bc≠lb) (nbm:mb≠bo) (nbw:wb≠bo)
  (hQ:∀ r' h',(∀ d,d < 13→d≠9→rg r' d=rg r d)→rg r' 14 = .bool true→LsQ p q nb cells ps pv f count mb bc c z sq L hp r r' h'→Q .norm r' h'):wpc Tryz.prog cd Q r hp:=by
 simp [Tryz.f3,findS] at hc
 subst hc
 have go':hp.get bo=some [.int .i64 o.d,.int .i64 o.n,S o.s]:=go
 refine wpc_st (fun r' h'=>(∀ d,d < 15→rg r' d=rg r d)∧rg r' 100 = .int .i64 o.d∧hp=h') ?_ ?_
 rotate_left
 ·simp [r13,fieldAddrX,go']
  intro d hd
  repeat rw [if_neg (by omega)]
 rintro r2 _ ⟨old,q100,rfl⟩
 rw [wpc_block]
 refine wpc_st (fun r' h'=>(∀ d,d < 15→rg r' d=rg r d)∧rg r' 100 = .int .i64 o.d∧rg r' 115 = .bool (decide (o.d=0))∧hp=h') ?_ ?_
 rotate_left
 ·simp [q100]
  intro d hd
  repeat rw [if_neg (by omega)]
  exact old d hd
 clear old q100
 rintro r3 _ ⟨old,q100,q115,rfl⟩
 have f4:=(old 4 (by decide)).trans r4
 have f5:=(old 5 (by decide)).trans r5
 have f8:=(old 8 (by decide)).trans r8
 have f9:=(old 9 (by decide)).trans r9
 have f11:=(old 11 (by decide)).trans r11
 have f13:=(old 13 (by decide)).trans r13
 by_cases o0:o.d=0
 ·rw [decide_eq_true o0] at q115
  simp [q115]
  refine ls23 rfl f9 f11 f13 S1 gm go rfl hos (.inl (.inl (.inl (.inr rfl)))) (.inr rfl) ⟨m1,m2,nbm,Ne.symm nbw⟩ hs fun r' h2 hr h14 hex=> ?_
  obtain ⟨a2,sq2,L2,S2,q2,O2,gm2,F2⟩:=hex
  refine hQ r' h2 (fun d hd h9=>(hr d (by omega) (by omega)).trans (old d (by omega))) h14 ⟨lb,wb,a2,sq2,L2,_,(hr 9 (by decide) (by decide)).trans f9,S2.less (fun x hx=> .inl hx) (.inl (.inr rfl)) (.inr rfl),gm2,F2 bc ⟨.inl (.inl (.inl (.inl rfl))),m3,m4⟩,O2,q2,m1,m2,m3,m4,m5⟩
 rw [decide_eq_false o0] at q115
 generalize hg:Code.seq (Code.region 24 _ _) _=c24
 simp [q115]
 subst hg
 refine wpc_st (fun r' h'=>(∀ d,d < 15→rg r' d=rg r d)∧rg r' 126 = .bool (decide (o.d=1))∧hp=h') ?_ ?_
 rotate_left
 ·simp [q100]
  intro d hd
  repeat rw [if_neg (by omega)]
  exact old d hd
 clear old q100 q115 f4 f5 f8 f9 f11 f13
 rintro r4' _ ⟨old,q126,rfl⟩
 have f4:=(old 4 (by decide)).trans r4
 have f5:=(old 5 (by decide)).trans r5
 have f8:=(old 8 (by decide)).trans r8
 have f9:=(old 9 (by decide)).trans r9
 have f11:=(old 11 (by decide)).trans r11
 have f13:=(old 13 (by decide)).trans r13
 by_cases o1:o.d=1
 ·rw [decide_eq_true o1] at q126
  simp [q126]
  refine ls25 rfl f9 f11 f13 S1 gm go rfl hos (.inl (.inl (.inl (.inr rfl)))) (.inr rfl) ⟨m1,m2,nbm,Ne.symm nbw⟩ hs fun r' h2 hr h14 hex=> ?_
  obtain ⟨a2,sq2,L2,S2,q2,O2,gm2,F2⟩:=hex
  refine hQ r' h2 (fun d hd h9=>(hr d (by omega) (by omega)).trans (old d (by omega))) h14 ⟨lb,wb,a2,sq2,L2,_,(hr 9 (by decide) (by decide)).trans f9,S2.less (fun x hx=> .inl hx) (.inl (.inr rfl)) (.inr rfl),gm2,F2 bc ⟨.inl (.inl (.inl (.inl rfl))),m3,m4⟩,O2,q2,m1,m2,m3,m4,m5⟩
 rw [decide_eq_false o1] at q126
 simp [q126,f4,f5,f8]
 refine (S1.open_ hc0).then ?_
 rintro _ h2 ⟨lk,wk,rfl,S2,F2,hne2⟩
 have k1:=hne2 mb (.inl (.inl (.inl (.inr rfl))))
 have k2:=hne2 bc (.inl (.inl (.inl (.inl rfl))))
 simp
 refine hQ _ h2 (fun d hd h9=> ?_) (by simp) ⟨lk,wk,a,sq,L,T,by simp,S2.less (fun x hx=> ?_) (.inl (.inr rfl)) (.inr rfl),(F2 mb (.inl (.inl (.inl (.inr rfl))))).trans gm,F2 bc (.inl (.inl (.inl (.inl rfl)))),OutL.refl _ _ _,by omega,k1.1,k1.2,k2.2,m4,k2.1⟩
 ·simp
  repeat rw [if_neg (by omega)]
  exact old d (by omega)
 ·rcases hx with ((rfl|rfl)|rfl)|rfl
  ·exact .inl (.inl (.inl (.inl (.inl (.inl rfl)))))
  ·exact .inl (.inl (.inl (.inl (.inl (.inr rfl)))))
  ·exact .inl (.inr rfl)
  ·exact .inr rfl
structure LsR (f count pv bc:Nat) (c:Cfg) (h0:Heap) (j:Nat) (r:Regs) (hp:Heap):Prop where
 le:(j:Int)≤c.st
 r3:rg r 3 = .ptr bc 0
 r4:rg r 4 = .int .i64 f
 r5:rg r 5 = .int .i64 count
 r8:rg r 8 = .ptr pv 0
 r17:rg r 17 = .int .i64 j
 h:h0=hp
theorem ls28 {cd:Code} (hc:(Tryz.f3.body).bind (findS 28)=some cd) {r:Regs} {Q:Out→Regs→Heap→Prop} (r3:rg r 3 = .ptr bc 0) (r4:rg r 4 = .int .i64 f) (r5:rg r 5 = .int .i64 count) (r8:rg r 8 = .ptr pv 0)
  (S':LgS p q nb cells ps pv lb wb f count c z a sq L T E hp) (gc:hp.get bc=some [.int .i64 c.k,.int .i64 c.m,.int .i64 c.sh,.int .i64 c.st,.int .i64 c.sl]) (O':OutL (List.replicate c.st.toNat []) L f count) (hQ:∀ r',Q .norm r' hp):wpc Tryz.prog cd Q r hp:=by
 simp [Tryz.f3,findS] at hc
 subst hc
 have t3:=S'.h6
 simp
 refine wpc_loop (LsR f count pv bc c hp) (c.st.toNat - ·) ?_ 0 ?_
 rotate_left
 ·exact ⟨by have:=S'.hC.2.2.2.1.1;omega,by simpa using r3,by simpa using r4,by simpa using r5,by simpa using r8,by simp,rfl⟩
 clear r3 r4 r5 r8
 rintro j r _ ⟨jle,r3,r4,r5,r8,r17,rfl⟩
 rcases Int.lt_or_eq_of_le jle with jlt|jeq
 rotate_left
 ·simp [r3,r17,fieldAddrX,gc,jeq]
  exact hQ _
 have hll:=S'.G.ll
 have hjL:j < L.length:=by omega
 have hrd:mRd c L j=(L[j],0):=by
  unfold mRd
  rw [if_neg (by omega)]
  simp only [Int.toNat_natCast,List.getElem?_eq_getElem hjL]
  rfl
 have hwj:IntKind.i64.wrap ((j:Int)+1)=(j:Int)+1:=wrap64 (by omega) (by omega)
 have hfc:=S'.G.fc
 have hwf:IntKind.i64.wrap ((f:Int)+count)=(f:Int)+count:=wrap64 (by omega) (by omega)
 have hemp:(j < f∨f+count≤j)→L[j]=[]:=fun h=>by
  have:=O' j h
  rw [List.getElem?_eq_getElem hjL,List.getElem?_replicate,if_pos (by omega)] at this
  exact Option.some.inj this
 simp [r3,r8,r17,fieldAddrX,gc,jlt]
 refine (S'.read j).use ?_
 rw [hrd]
 generalize L[j]=t at hemp
 by_cases k1:j < f
 ·have:=hemp (.inl k1)
  subst this
  simp [r4,r17,k1,hwj]
  exact ⟨j+1,by omega,by omega,by simpa using r3,by simpa using r4,by simpa using r5,by simpa using r8,by simp,rfl⟩
 ·by_cases k2:f+count≤j
  ·have:=hemp (.inr k2)
   subst this
   have k2':(f:Int)+count≤j:=by omega
   simp [r4,r5,r17,k1,k2',hwf,hwj]
   exact ⟨j+1,by omega,by omega,by simpa using r3,by simpa using r4,by simpa using r5,by simpa using r8,by simp,rfl⟩
  ·have k2':¬(f:Int)+count≤j:=by omega
   simp [r4,r5,r17,k1,k2',hwf,hwj]
   exact ⟨j+1,by omega,by omega,by simpa using r3,by simpa using r4,by simpa using r5,by simpa using r8,by simp,rfl⟩
end
end Go.Proofs.YtmbndhciflilbaaGreatDoor.X
