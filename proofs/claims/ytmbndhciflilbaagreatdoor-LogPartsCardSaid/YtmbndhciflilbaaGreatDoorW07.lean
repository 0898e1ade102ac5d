/-
  LogScripts: calls, in any order of what is compared.
-/
import Derived.Test.YtmbndhciflilbaaGreatDoorW06
import Derived.Test.YtmbndhciflilbaaGreatDoorXRowL
namespace Go.Proofs.YtmbndhciflilbaaGreatDoor.X
open Go.RowKit F
set_option maxRecDepth 100000
set_option linter.unusedSimpArgs false
set_option linter.unusedVariables false
section
variable {p q nb:Nat} {cells:List AV} {ps:List Nat} {pv lb wb f count mb bo bc:Nat} {c:Cfg} {a:Arr} {sq:Int} {E:Nat→Prop} {hp h':Heap} {L:List Txt} {T:Txt} {z:Nat}
theorem LgS.put (S':LgS p q nb cells ps pv lb wb f count c z a sq L T E hp) {b:Nat} (hb:E b) (hl:b≠lb) (hw:b≠wb) (cs:List AV) {zs:List AV} (hg:hp.get b=some zs):LgS p q nb cells ps pv lb wb f count c z a sq L T E (hp.put b cs) :=
 ⟨S'.H.put hb cs hg,S'.G,S'.A.keep (Heap.get_put_other hg (Ne.symm hl)) (Heap.get_put_other hg (Ne.symm hw)),S'.le,S'.lf,S'.h1,S'.h2,S'.hC,S'.hz,S'.h6⟩
theorem LgS.box (S':LgS p q nb cells ps pv lb wb f count c z a sq L T E hp) (zs ys:List AV):LgS p q nb cells ps pv lb wb f count c z a sq L T (fun x=>E x∨x=hp.next) ((hp.alloc zs).put hp.next ys)∧((hp.alloc zs).put hp.next ys).get hp.next=some ys∧Fr' E hp ((hp.alloc zs).put hp.next ys)∧∀ x,E x→x≠hp.next:=by
 obtain ⟨H,g,F⟩:=S'.H.box zs ys
 exact ⟨⟨H,S'.G,S'.A.keep (F lb S'.h1) (F wb S'.h2),S'.le,S'.lf,.inl S'.h1,.inl S'.h2,S'.hC,S'.hz,S'.h6⟩,g,F,fun x hx=>Nat.ne_of_lt (S'.H.lt hx)⟩
theorem LgS.trunc_if (U:LgS p q nb cells ps pv lb wb f count c z a sq L T E hp) (hs:sq+count < 990) (n:Int) :
  CSem Tryz.prog 16 [.ptr lb 0,.int .i64 n] hp fun x h'=>x = .int .i64 (if n < 0∨(T.length:Int) < n then 1 else 0)∧∃ a' sq' L',LgS p q nb cells ps pv lb wb f count c z a' sq' L' (if n < 0∨(T.length:Int) < n then T else T.take n.toNat) E h'∧Fr' (fun x=>E x∧x≠wb) hp h'∧OutL L L' f count∧sq'≤sq+count:=by
 by_cases h:n < 0∨(T.length:Int) < n
 ·rw [if_pos h,if_pos h]
  refine (U.trunc_bad hs h).mono ?_
  rintro x h' ⟨rfl,rfl⟩
  exact ⟨rfl,a,sq,L,U,fun _ _=>rfl,OutL.refl _ _ _,by omega⟩
 ·rw [if_neg h,if_neg h]
  obtain ⟨m,rfl⟩:=Int.eq_ofNat_of_zero_le (show 0≤n by omega)
  exact U.trunc hs (by omega)
def LsJ (p q nb:Nat) (cells:List AV) (ps:List Nat) (pv lb wb f count mb bo:Nat) (c:Cfg) (z:Nat) (sq:Int) (L:List Txt) (T T2:Txt) (most:Int) (o:LOp) (E:Nat→Prop) (hp:Heap) (d3 d7:Bool) (h:Heap):Prop :=
 (∃ a' sq' L',LgS p q nb cells ps pv lb wb f count c z a' sq' L' (if d3 then T2 else T) E h∧(d3=false→sq'≤sq)∧sq'≤sq+count∧OutL L L' f count)∧h.get mb=some [S (if d7 then T2 else T),.int .i64 most]∧h.get bo=some (LOpC o)∧Fr' (fun x=>E x∧x≠wb∧x≠mb) hp h
theorem LsJ.of {T2:Txt} {most:Int} {o:LOp} (S':LgS p q nb cells ps pv lb wb f count c z a sq L T E hp) (gm:hp.get mb=some [S T,.int .i64 most]) (go:hp.get bo=some (LOpC o)):LsJ p q nb cells ps pv lb wb f count mb bo c z sq L T T2 most o E hp false false hp :=
 ⟨⟨a,sq,L,S',fun _=>Int.le_refl _,by omega,OutL.refl _ _ _⟩,gm,go,Fr'.refl _ _⟩
theorem LsJ.log {T2:Txt} {most:Int} {o:LOp} {d7:Bool} {h h1:Heap} {sq1:Int} {L1 L2:List Txt} {a2:Arr} {sq2:Int} (J:LsJ p q nb cells ps pv lb wb f count mb bo c z sq L T T2 most o E hp false d7 h) (h1s:sq1≤sq) (O1:OutL L L1 f count) (S2:LgS p q nb cells ps pv lb wb f count c z a2 sq2 L2 T2 E h1) (F2:Fr' (fun x=>E x∧x≠wb) h h1) (O2:OutL L1 L2 f count) (hs2:sq2≤sq1+count) (em:E mb) (eo:E bo) (nm:mb≠wb) (no:bo≠wb):LsJ p q nb cells ps pv lb wb f count mb bo c z sq L T T2 most o E hp true d7 h1 :=
 ⟨⟨a2,sq2,L2,S2,(fun h=>by cases h),by omega,O1.trans O2⟩,(F2 mb ⟨em,nm⟩).trans J.2.1,(F2 bo ⟨eo,no⟩).trans J.2.2.1,J.2.2.2.trans (F2.less fun x hx=>⟨hx.1,hx.2.1⟩)⟩
theorem LsJ.model {T2:Txt} {most:Int} {o:LOp} {d3:Bool} {h h1:Heap} (J:LsJ p q nb cells ps pv lb wb f count mb bo c z sq L T T2 most o E hp d3 false h) (em:E mb) (ne:mb≠lb∧mb≠wb∧mb≠bo) (e:h1=h.put mb [S T2,.int .i64 most]):LsJ p q nb cells ps pv lb wb f count mb bo c z sq L T T2 most o E hp d3 true h1:=by
 obtain ⟨⟨a',sq',L',S',x1,x2,x3⟩,g,go,F⟩:=J
 subst e
 exact ⟨⟨a',sq',L',S'.put em ne.1 ne.2.1 _ g,x1,x2,x3⟩,Heap.get_put_same g,(Heap.get_put_other g (Ne.symm ne.2.2)).trans go,F.trans fun x hx=>Heap.get_put_other g hx.2.2⟩
theorem LsJ.same {T2:Txt} {most:Int} {o:LOp} {d3:Bool} {h:Heap} (J:LsJ p q nb cells ps pv lb wb f count mb bo c z sq L T T2 most o E hp d3 false h) (e:T2=T):LsJ p q nb cells ps pv lb wb f count mb bo c z sq L T T2 most o E hp d3 true h:=by
 subst e
 exact ⟨J.1,J.2.1,J.2.2⟩
def ls23V (lb mb bo:Nat) (x:AV) (e:Int):Nat→AV→Prop
 | 0,v=>v = .ptr lb 0
 | 1,v=>v = .ptr bo 2
 | 2,v=>v=x
 | 3,v=>v = .int .i64 e
 | 4,v=>v = .ptr mb 0
 | 5,v=>v = .ptr bo 2
 | 6,v=>v=x
 | 7,v=>v = .int .i64 e
 | 8,v=>v = .bool true
 | 9,v=>v = .bool true
 | _,v=>True
theorem ls23 {cd:Code} (hc:(Tryz.f3.body).bind (findR 23)=some cd) {r:Regs} {Q:Out→Regs→Heap→Prop} {o:LOp} {most:Int} (r9:rg r 9 = .ptr lb 0) (r11:rg r 11 = .ptr mb 0) (r13:rg r 13 = .ptr bo 0)
  (S':LgS p q nb cells ps pv lb wb f count c z a sq L T E hp) (gm:hp.get mb=some [S T,.int .i64 most]) (go:hp.get bo=some (LOpC o)) (hmost:most=((count * z:Nat):Int)) (hos:o.s.length < 2 ^ 63) (em:E mb) (eo:E bo) (ne:mb≠lb∧mb≠wb∧mb≠bo∧bo≠wb) (hs:sq+count < 990)
  (hQ:∀ r' h',(∀ d,d < 20→d≠14→rg r' d=rg r d)→rg r' 14 = .bool true→(∃ a' sq' L',LgS p q nb cells ps pv lb wb f count c z a' sq' L' (if o.s.length≤count * z - T.length then T ++ o.s else T) E h'∧sq'≤sq+count∧OutL L L' f count∧h'.get mb=some [S (if o.s.length≤count * z - T.length then T ++ o.s else T),.int .i64 most]∧Fr' (fun x=>E x∧x≠wb∧x≠mb) hp h')→Q .norm r' h'):wpc Tryz.prog cd Q r hp:=by
 simp [Tryz.f3,findR] at hc
 subst hc
 obtain ⟨hz0,hz13,hc6,hcz,_⟩:=S'.sizes
 have hle:=S'.le
 refine wpc_ordJ (fun D _ h=>LsJ p q nb cells ps pv lb wb f count mb bo c z sq L T (if o.s.length≤count * z - T.length then T ++ o.s else T) most o E hp (D 3) (D 7) h) (ls23V lb mb bo (S o.s) (if o.s.length≤count * z - T.length then 0 else 11)) (by kernel_rfl) (LsJ.of S' gm go) ?_ ?_
 ·intro D r2 h1 J cl hr
  have q9:rg r2 9 = .ptr lb 0:=(ordReg0 hr (by kernel_rfl)).trans r9
  have q11:rg r2 11 = .ptr mb 0:=(ordReg0 hr (by kernel_rfl)).trans r11
  have q13:rg r2 13 = .ptr bo 0:=(ordReg0 hr (by kernel_rfl)).trans r13
  have g1:h1.get bo=some [.int .i64 o.d,.int .i64 o.n,S o.s]:=J.2.2.1
  refine ⟨?_,?_,?_,?_,?_,?_,?_,?_,?_,?_,trivial⟩
  all_goals (intro hL hd;simp [DepL,VL,ls23V,Region.binds] at hd)
  ·simp [q9,ls23V];exact ⟨_,rfl,rfl,J⟩
  ·simp [q13,fieldAddrX,ls23V];exact ⟨_,rfl,rfl,J⟩
  ·simp [hd,g1,ls23V];exact ⟨_,rfl,rfl,J⟩
  ·have l3:D 3=false:=hL
   rw [l3] at J
   obtain ⟨⟨a',sq',L',S1,x1,x2,x3⟩,J2⟩:=id J
   have x1:=x1 rfl
   simp at S1
   simp [hd]
   refine (S1.append_if (s:=o.s) (by omega) hos).then ?_
   rintro _ h2 ⟨rfl,a2,sq2,L2,S2,F2,O2,k2⟩
   exact ⟨_,rfl,by simp [ls23V],by simpa using LsJ.log J x1 x3 S2 F2 O2 k2 em eo ne.2.1 ne.2.2.2⟩
  ·simp [q11,ls23V];exact ⟨_,rfl,rfl,J⟩
  ·simp [q13,fieldAddrX,ls23V];exact ⟨_,rfl,rfl,J⟩
  ·simp [hd,g1,ls23V];exact ⟨_,rfl,rfl,J⟩
  ·have l7:D 7=false:=hL
   rw [l7] at J
   have gm1:h1.get mb=some [S T,.int .i64 most]:=J.2.1
   simp [hd]
   refine (rlappend_sem (s:=o.s) gm1 (by omega) (by omega) hos).then ?_
   rintro _ h2 ⟨k1,k2⟩
   by_cases hf:o.s.length≤count * z - T.length
   ·obtain ⟨rfl,rfl⟩:=k2 (by omega)
    refine ⟨_,rfl,by simp [ls23V,hf],?_⟩
    simpa [hd] using LsJ.model J em ⟨ne.1,ne.2.1,ne.2.2.1⟩ (by rw [if_pos hf])
   ·obtain ⟨rfl,rfl⟩:=k1 (by omega)
    refine ⟨_,rfl,by simp [ls23V,hf],?_⟩
    simpa [hd] using LsJ.same J (if_neg hf)
  ·simp [hd,ls23V];exact ⟨_,rfl,rfl,by simpa [hd] using J⟩
  ·simp [hd,ls23V];exact ⟨_,rfl,rfl,by simpa [hd] using J⟩
 ·intro D r2 h1 hall J hr hA
  rw [hall 3 (by decide),hall 7 (by decide)] at J
  obtain ⟨⟨a',sq',L',S1,x1,x2,x3⟩,J2,_,F⟩:=J
  obtain ⟨_,_,_,_,_,_,_,_,_,h9,_⟩:=hA
  simp [VL,ls23V] at h9
  exact hQ r2 h1 (fun d hd hn=>hr d (by simp;omega)) h9 ⟨a',sq',L',by simpa using S1,x2,x3,by simpa using J2,F⟩
def ls25V (lb mb bo:Nat) (x:AV) (e:Int):Nat→AV→Prop
 | 0,v=>v = .ptr lb 0
 | 1,v=>v = .ptr bo 1
 | 2,v=>v=x
 | 3,v=>v = .int .i64 e
 | 4,v=>v = .ptr mb 0
 | 5,v=>v = .ptr bo 1
 | 6,v=>v=x
 | 7,v=>v = .int .i64 e
 | 8,v=>v = .bool true
 | 9,v=>v = .bool true
 | _,v=>True
theorem ls25 {cd:Code} (hc:(Tryz.f3.body).bind (findR 25)=some cd) {r:Regs} {Q:Out→Regs→Heap→Prop} {o:LOp} {most:Int} (r9:rg r 9 = .ptr lb 0) (r11:rg r 11 = .ptr mb 0) (r13:rg r 13 = .ptr bo 0)
  (S':LgS p q nb cells ps pv lb wb f count c z a sq L T E hp) (gm:hp.get mb=some [S T,.int .i64 most]) (go:hp.get bo=some (LOpC o)) (hmost:most=((count * z:Nat):Int)) (hos:o.s.length < 2 ^ 63) (em:E mb) (eo:E bo) (ne:mb≠lb∧mb≠wb∧mb≠bo∧bo≠wb) (hs:sq+count < 990)
  (hQ:∀ r' h',(∀ d,d < 20→d≠14→rg r' d=rg r d)→rg r' 14 = .bool true→(∃ a' sq' L',LgS p q nb cells ps pv lb wb f count c z a' sq' L' (if o.n < 0∨(T.length:Int) < o.n then T else T.take o.n.toNat) E h'∧sq'≤sq+count∧OutL L L' f count∧h'.get mb=some [S (if o.n < 0∨(T.length:Int) < o.n then T else T.take o.n.toNat),.int .i64 most]∧Fr' (fun x=>E x∧x≠wb∧x≠mb) hp h')→Q .norm r' h'):wpc Tryz.prog cd Q r hp:=by
 simp [Tryz.f3,findR] at hc
 subst hc
 obtain ⟨hz0,hz13,hc6,hcz,_⟩:=S'.sizes
 have hle:=S'.le
 refine wpc_ordJ (fun D _ h=>LsJ p q nb cells ps pv lb wb f count mb bo c z sq L T (if o.n < 0∨(T.length:Int) < o.n then T else T.take o.n.toNat) most o E hp (D 3) (D 7) h) (ls25V lb mb bo (.int .i64 o.n) (if o.n < 0∨(T.length:Int) < o.n then 1 else 0)) (by kernel_rfl) (LsJ.of S' gm go) ?_ ?_
 ·intro D r2 h1 J cl hr
  have q9:rg r2 9 = .ptr lb 0:=(ordReg0 hr (by kernel_rfl)).trans r9
  have q11:rg r2 11 = .ptr mb 0:=(ordReg0 hr (by kernel_rfl)).trans r11
  have q13:rg r2 13 = .ptr bo 0:=(ordReg0 hr (by kernel_rfl)).trans r13
  have g1:h1.get bo=some [.int .i64 o.d,.int .i64 o.n,S o.s]:=J.2.2.1
  refine ⟨?_,?_,?_,?_,?_,?_,?_,?_,?_,?_,trivial⟩
  all_goals (intro hL hd;simp [DepL,VL,ls25V,Region.binds] at hd)
  ·simp [q9,ls25V];exact ⟨_,rfl,rfl,J⟩
  ·simp [q13,fieldAddrX,ls25V];exact ⟨_,rfl,rfl,J⟩
  ·simp [hd,g1,ls25V];exact ⟨_,rfl,rfl,J⟩
  ·have l3:D 3=false:=hL
   rw [l3] at J
   obtain ⟨⟨a',sq',L',S1,x1,x2,x3⟩,J2⟩:=id J
   have x1:=x1 rfl
   simp at S1
   simp [hd]
   refine (S1.trunc_if (by omega) o.n).then ?_
   rintro _ h2 ⟨rfl,a2,sq2,L2,S2,F2,O2,k2⟩
   exact ⟨_,rfl,by simp [ls25V],by simpa using LsJ.log J x1 x3 S2 F2 O2 k2 em eo ne.2.1 ne.2.2.2⟩
  ·simp [q11,ls25V];exact ⟨_,rfl,rfl,J⟩
  ·simp [q13,fieldAddrX,ls25V];exact ⟨_,rfl,rfl,J⟩
  ·simp [hd,g1,ls25V];exact ⟨_,rfl,rfl,J⟩
  ·have l7:D 7=false:=hL
   rw [l7] at J
   have gm1:h1.get mb=some [S T,.int .i64 most]:=J.2.1
   simp [hd]
   refine (rltrunc_sem gm1 o.n).then ?_
   rintro _ h2 ⟨k1,k2⟩
   by_cases hf:o.n < 0∨(T.length:Int) < o.n
   ·obtain ⟨rfl,rfl⟩:=k1 hf
    refine ⟨_,rfl,by simp [ls25V,hf],?_⟩
    simpa [hd] using LsJ.same J (if_pos hf)
   ·obtain ⟨rfl,rfl⟩:=k2 hf
    refine ⟨_,rfl,by simp [ls25V,hf],?_⟩
    simpa [hd] using LsJ.model J em ⟨ne.1,ne.2.1,ne.2.2.1⟩ (by rw [if_neg hf])
  ·simp [hd,ls25V];exact ⟨_,rfl,rfl,by simpa [hd] using J⟩
  ·simp [hd,ls25V];exact ⟨_,rfl,rfl,by simpa [hd] using J⟩
 ·intro D r2 h1 hall J hr hA
  rw [hall 3 (by decide),hall 7 (by decide)] at J
  obtain ⟨⟨a',sq',L',S1,x1,x2,x3⟩,J2,_,F⟩:=J
  obtain ⟨_,_,_,_,_,_,_,_,_,h9,_⟩:=hA
  simp [VL,ls25V] at h9
  exact hQ r2 h1 (fun d hd hn=>hr d (by simp;omega)) h9 ⟨a',sq',L',by simpa using S1,x2,x3,by simpa using J2,F⟩
end
def alSV (c:Cfg) (u1:Int) (u2:Int) (u3:List LOp) (q:Nat):Nat→AV→Prop
 | 0,v=>v = .ptr 0 0
 | 1,v=>v=CfA c
 | 2,v=>v = .ptr 0 5
 | 3,v=>v=(.int .i64 u1)
 | 4,v=>v = .ptr 0 6
 | 5,v=>v=(.int .i64 u2)
 | 6,v=>v = .ptr 0 7
 | 7,v=>v=(TR LOpC u3)
 | 8,v=>v = .ptr q 0
 | 10,v=>v=(.int .i64 u1)
 | 11,v=>v=(.int .i64 u2)
 | 12,v=>v=(TR LOpC u3)
 | _,v=>True
theorem alS {cd:Code} (hc:(Tryz.f3.body).bind (findR 1)=some cd) {r:Regs} {H:Heap} {Q:Out→Regs→Heap→Prop} {c:Cfg} {u1:Int} {u2:Int} {u3:List LOp} (r1:rg r 1 = .ptr 0 0)
  (g0:H.get 0=some [.int .i64 c.k,.int .i64 c.m,.int .i64 c.sh,.int .i64 c.st,.int .i64 c.sl,(.int .i64 u1),(.int .i64 u2),(TR LOpC u3)])
  (hQ:∀ r':Regs,rg r' 3 = .ptr H.next 0→rg r' 4=(.int .i64 u1)→rg r' 5=(.int .i64 u2)→rg r' 6=(TR LOpC u3)→Q .norm r' ((H.alloc zC).put H.next (cC c))):wpc Tryz.prog cd Q r H:=by
 simp [Tryz.f3,findR] at hc
 subst hc
 have haggC:aggT Tryz.prog 23=some true:=by kernel_rfl
 have hzC:szT Tryz.prog 23=some 5:=by kernel_rfl
 have hzz:zeroAV Tryz.prog 23=some (.agg zC):=by kernel_rfl
 have hcl:(AV.agg zC).cells=zC:=rfl
 have hcc:(CfA c).cells=cC c:=rfl
 refine wpc_ordJ (fun L _ h=>h=Al1H H c (L 8) (L 9)) (alSV c u1 u2 u3 H.next) (by kernel_rfl) rfl ?_ ?_
 ·intro L r2 H1 hH cl hr
  have q1:rg r2 1 = .ptr 0 0:=(ordReg0 hr (by kernel_rfl)).trans r1
  have e1:Ext H (H.alloc zC):=(Ext.refl H).alloc _
  have e2:Ext H ((H.alloc zC).put H.next (cC c)):=e1.put (Nat.le_refl _) _
  have g1:H1.get 0=some [.int .i64 c.k,.int .i64 c.m,.int .i64 c.sh,.int .i64 c.st,.int .i64 c.sl,(.int .i64 u1),(.int .i64 u2),(TR LOpC u3)]:=by
   rw [hH]
   unfold Al1H
   split
   ·exact e2.got g0
   ·split
    ·exact e1.got g0
    ·exact g0
  refine ⟨?_,?_,?_,?_,?_,?_,?_,?_,?_,?_,?_,?_,?_,trivial⟩
  all_goals (intro hL hd;simp [DepL,VL,alSV,Region.binds] at hd)
  ·simp [q1,fieldAddrX,g1,alSV];exact ⟨_,rfl,rfl,hH⟩
  ·simp [hd,g1,loadX_agg haggC,hzC,takeN,alSV,CfA];exact ⟨_,rfl,rfl,hH⟩
  ·simp [q1,fieldAddrX,g1,alSV];exact ⟨_,rfl,rfl,hH⟩
  ·simp [hd,g1,alSV];exact ⟨_,rfl,rfl,hH⟩
  ·simp [q1,fieldAddrX,g1,alSV];exact ⟨_,rfl,rfl,hH⟩
  ·simp [hd,g1,alSV];exact ⟨_,rfl,rfl,hH⟩
  ·simp [q1,fieldAddrX,g1,alSV];exact ⟨_,rfl,rfl,hH⟩
  ·simp [hd,g1,alSV];exact ⟨_,rfl,rfl,hH⟩
  ·have h9:=cl 9 8 (by kernel_rfl) hL
   have e:H1=H:=by rw [hH];unfold Al1H;simp [h9,show L 8=false from hL]
   subst e
   simp [hzz,zC,AV.cells,alSV,Al1H,h9]
  ·have l9:L 9=false:=hL
   have l8:L 8=true:=by simp [hd]
   have e:H1=H.alloc zC:=by rw [hH];unfold Al1H;simp [l9,l8]
   subst e
   simp [hd,storeX_agg,hzC,putN,Heap.get_alloc_same,Al1H,CfA,cC,zC]
  ·simp [hd,alSV];exact ⟨_,rfl,rfl,by simpa [hd] using hH⟩
  ·simp [hd,alSV];exact ⟨_,rfl,rfl,by simpa [hd] using hH⟩
  ·simp [hd,alSV];exact ⟨_,rfl,rfl,by simpa [hd] using hH⟩
 ·intro L r2 H1 hall hH hr hA
  have e:H1=(H.alloc zC).put H.next (cC c):=by rw [hH];unfold Al1H;simp [hall 9 (by decide)]
  subst e
  obtain ⟨_,_,_,_,_,_,_,_,h8,_,h10,h11,h12,_⟩:=hA
  simp [VL,alSV] at h8 h10 h11 h12
  exact hQ r2 h8 h10 h11 h12
end Go.Proofs.YtmbndhciflilbaaGreatDoor.X
