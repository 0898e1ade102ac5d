/-
  LogCrash.
-/
import Derived.Test.YtmbndhciflilbaaGreatDoorW11
namespace Go.Proofs.YtmbndhciflilbaaGreatDoor.X
open Go.RowKit F
set_option maxRecDepth 100000
set_option linter.unusedSimpArgs false
set_option linter.unusedVariables false
section
variable {p q nb:Nat} {cells:List AV} {ps:List Nat} {pv lb wb f count mb bo bc k:Nat} {c:Cfg} {a:Arr} {sq:Int} {E:Nat→Prop} {hp h':Heap} {L:List Txt} {T:Txt} {z:Nat}
theorem CrQ.put {U1 U2:Txt} (Q:CrQ p q nb cells ps pv f count c z k a sq U1 U2 E hp) {b:Nat} (hb:E b) (cs:List AV) {zs:List AV} (hg:hp.get b=some zs):CrQ p q nb cells ps pv f count c z k a sq U1 U2 E (hp.put b cs) :=
 ⟨Q.H.put hb cs hg,Q.hk,Q.len,Q.al,Q.ex⟩
theorem CrQ.less {U1 U2:Txt} (Q:CrQ p q nb cells ps pv f count c z k a sq U1 U2 E hp) {E':Nat→Prop} (h:∀ x,E' x→E x):CrQ p q nb cells ps pv f count c z k a sq U1 U2 E' hp :=
 ⟨Q.H.less h,Q.hk,Q.len,Q.al,Q.ex⟩
def LcD (p q nb:Nat) (cells:List AV) (ps:List Nat) (pv lb wb count mb bc:Nat) (c:Cfg) (z:Nat) (sq1:Int) (old T:Txt) (hp:Heap):Prop :=
 T.length≤count * z∧(old <+: T∨T <+: old)∧((∃ a sq L,LgU p q nb cells ps pv lb wb 0 count c z a sq L T (fun x=>((x=bc∨x=mb)∨x=lb)∨x=wb) hp∧sq≤sq1)∨(∃ k a sq U1 U2,CrQ p q nb cells ps pv 0 count c z k a sq U1 U2 (fun x=>x=bc∨x=mb) hp∧a.down=true∧Btw old T U1∧Btw old T U2))
theorem LcD.of {T2:Txt} {h2 h3:Heap} {e:Int} {x:AV} {most:Int} (Q:LuQ p q nb cells ps pv lb wb 0 count c z sq T T2 e (fun x=>(((x=bc∨x=mb)∨x=lb)∨x=wb)∨x=bo) hp x h2) (gm:hp.get mb=some [S T,.int .i64 most]) (gc:hp.get bc=some (cC c)) (m1:mb≠lb) (m2:mb≠wb) (m3:bc≠wb) (m4:bc≠mb) (hl:T2.length≤count * z) (hpre:T <+: T2∨T2 <+: T) (hh:h3=h2.put mb [S T2,.int .i64 most]∨(T2=T∧h3=h2)) :
  LcD p q nb cells ps pv lb wb count mb bc c z (sq+count) T T2 h3∧h3.get mb=some [S T2,.int .i64 most]∧h3.get bc=some (cC c):=by
 have em:((((mb=bc∨mb=mb)∨mb=lb)∨mb=wb)∨mb=bo):= .inl (.inl (.inl (.inr rfl)))
 have ec:((((bc=bc∨bc=mb)∨bc=lb)∨bc=wb)∨bc=bo):= .inl (.inl (.inl (.inl rfl)))
 have fr:h2.get mb=some [S T,.int .i64 most]∧h2.get bc=some (cC c):=by
  rcases Q with ⟨_,_,F⟩|⟨_,_,_,_,_,_,_,_,_,_,F⟩
  ·exact ⟨(F mb ⟨em,m2⟩).trans gm,(F bc ⟨ec,m3⟩).trans gc⟩
  ·exact ⟨(F mb ⟨em,m2⟩).trans gm,(F bc ⟨ec,m3⟩).trans gc⟩
 obtain ⟨g2,c2⟩:=fr
 have g3:h3.get mb=some [S T2,.int .i64 most]∧h3.get bc=some (cC c):=by
  rcases hh with rfl|⟨rfl,rfl⟩
  ·exact ⟨Heap.Ak g2,(Heap.Aq g2 m4).trans c2⟩
  ·exact ⟨g2,c2⟩
 refine ⟨⟨hl,hpre,?_⟩,g3⟩
 rcases Q with ⟨_,⟨a2,sq2,L2,S2,k2⟩,F⟩|⟨_,k',a',sq',U1,U2,Cr,b1,b2,hd,F⟩
 ·refine .inl ⟨a2,sq2,L2,?_,k2⟩
  rcases hh with rfl|⟨rfl,rfl⟩
  ·exact (S2.put em m1 m2 _ g2).less (fun x hx=> .inl hx) (.inl (.inr rfl)) (.inr rfl)
  ·exact S2.less (fun x hx=> .inl hx) (.inl (.inr rfl)) (.inr rfl)
 ·refine .inr ⟨k',a',sq',U1,U2,?_,hd,b1,b2⟩
  rcases hh with rfl|⟨rfl,rfl⟩
  ·exact (Cr.put em _ g2).less fun x hx=> .inl (.inl (.inl hx))
  ·exact Cr.less fun x hx=> .inl (.inl (.inl hx))
theorem LuQ.val {T2:Txt} {h2:Heap} {e:Int} {x:AV} (Q:LuQ p q nb cells ps pv lb wb f count c z sq T T2 e E hp x h2):x = .int .i64 e∨x = .int .i64 9:=by
 rcases Q with ⟨h,_⟩|⟨h,_⟩
 ·exact .inl h
 ·exact .inr h
theorem lc18 {cd:Code} (hc:(Tryz.f8.body).bind (Df 18)=some cd) {r:Regs} {Q:Out→Regs→Heap→Prop} {o:LOp} (r9:rg r 9 = .ptr lb 0) (r11:rg r 11 = .ptr mb 0) (r14:rg r 14 = .ptr bo 0)
  (S1:LgU p q nb cells ps pv lb wb 0 count c z a sq L T (fun x=>(((x=bc∨x=mb)∨x=lb)∨x=wb)∨x=bo) hp) (hz0:0 < z) (hcz:count * z < 2 ^ 20) (gm:hp.get mb=some [S T,.int .i64 ((count * z:Nat):Int)]) (go:hp.get bo=some (LOpC o)) (gc:hp.get bc=some (cC c)) (hs:sq+count < 900) (hos:o.s.length < 2 ^ 63) (m1:mb≠lb) (m2:mb≠wb) (m3:bc≠wb) (m4:bc≠mb) (nbm:mb≠bo) (nbw:wb≠bo)
  (hQ:∀ r' h' T2,(∀ d,d < 14→d≠10→rg r' d=rg r d)→LcD p q nb cells ps pv lb wb count mb bc c z (sq+count) T T2 h'→h'.get mb=some [S T2,.int .i64 ((count * z:Nat):Int)]→h'.get bc=some (cC c)→Q .norm r' h'):wpc Tryz.prog cd Q r hp:=by
 simp [Tryz.f8,Df] at hc
 subst hc
 have hle:=S1.le
 have go':hp.get bo=some [.int .i64 o.d,.int .i64 o.n,S o.s]:=go
 have em:((((mb=bc∨mb=mb)∨mb=lb)∨mb=wb)∨mb=bo):= .inl (.inl (.inl (.inr rfl)))
 have eo:((((bo=bc∨bo=mb)∨bo=lb)∨bo=wb)∨bo=bo):= .inr rfl
 have fr:∀ {T2 e x h2},LuQ p q nb cells ps pv lb wb 0 count c z sq T T2 e (fun x=>(((x=bc∨x=mb)∨x=lb)∨x=wb)∨x=bo) hp x h2→h2.get mb=some [S T,.int .i64 ((count * z:Nat):Int)]∧h2.get bo=some [.int .i64 o.d,.int .i64 o.n,S o.s]:=fun Q=>by
  rcases Q with ⟨_,_,F⟩|⟨_,_,_,_,_,_,_,_,_,_,F⟩
  ·exact ⟨(F mb ⟨em,m2⟩).trans gm,(F bo ⟨eo,Ne.symm nbw⟩).trans go'⟩
  ·exact ⟨(F mb ⟨em,m2⟩).trans gm,(F bo ⟨eo,Ne.symm nbw⟩).trans go'⟩
 by_cases o0:o.d=0
 ·simp [r14,A8,go',o0,r9]
  refine (S1.append hz0 hs hos).then ?_
  rintro x h2 Q2
  obtain ⟨gm2,go2⟩:=fr Q2
  simp [r11,r14,A8,go2]
  refine (A26 (s:=o.s) gm2 ω ω hos).then ?_
  rintro y h3 ⟨k1,k2⟩
  have key:y = .int .i64 (if o.s.length≤count * z - T.length then 0 else 11)∧(h3=h2.put mb [S (if o.s.length≤count * z - T.length then T ++ o.s else T),.int .i64 ((count * z:Nat):Int)]∨((if o.s.length≤count * z - T.length then T ++ o.s else T)=T∧h3=h2)):=by
   by_cases hf:o.s.length≤count * z - T.length
   ·obtain ⟨rfl,rfl⟩:=k2 ω
    rw [if_pos hf,if_pos hf]
    exact ⟨rfl,.inl rfl⟩
   ·obtain ⟨rfl,rfl⟩:=k1 ω
    rw [if_neg hf,if_neg hf]
    exact ⟨rfl,.inr ⟨rfl,rfl⟩⟩
  obtain ⟨rfl,hh⟩:=key
  have hv:=Q2.val
  obtain ⟨D,gm3,gc3⟩:=LcD.of Q2 gm gc m1 m2 m3 m4 (by split;rw [List.length_append];omega;omega) (by split;exact .inl (List.prefix_append _ _);exact .inl (List.prefix_refl _)) hh
  generalize (if o.s.length≤count * z - T.length then T ++ o.s else T)=T2 at D gm3
  have he:(if o.s.length≤count * z - T.length then (0:Int) else 11)=0∨(if o.s.length≤count * z - T.length then (0:Int) else 11)=11:=by split<;>simp
  generalize (if o.s.length≤count * z - T.length then (0:Int) else 11)=e at hv he ⊢
  clear Q2 k1 k2 hh
  rcases hv with rfl|rfl
  ·simp
   refine hQ _ _ T2 (fun d hd h10=> ?_) D gm3 gc3
   simp
   repeat rw [if_neg ω]
  ·have he9:¬(9:Int)=e:=by omega
   simp [he9]
   refine hQ _ _ T2 (fun d hd h10=> ?_) D gm3 gc3
   simp
   repeat rw [if_neg ω]
 ·simp [r14,A8,go',o0,r9]
  refine (S1.A8x hz0 hs o.n).then ?_
  rintro x h2 Q2
  obtain ⟨gm2,go2⟩:=fr Q2
  simp [r11,r14,A8,go2]
  refine (A52 gm2 o.n).then ?_
  rintro y h3 ⟨k1,k2⟩
  have key:y = .int .i64 (if o.n < 0∨(T.length:Int) < o.n then 1 else 0)∧(h3=h2.put mb [S (if o.n < 0∨(T.length:Int) < o.n then T else T.take o.n.toNat),.int .i64 ((count * z:Nat):Int)]∨((if o.n < 0∨(T.length:Int) < o.n then T else T.take o.n.toNat)=T∧h3=h2)):=by
   by_cases hf:o.n < 0∨(T.length:Int) < o.n
   ·obtain ⟨rfl,rfl⟩:=k1 hf
    rw [if_pos hf,if_pos hf]
    exact ⟨rfl,.inr ⟨rfl,rfl⟩⟩
   ·obtain ⟨rfl,rfl⟩:=k2 hf
    rw [if_neg hf,if_neg hf]
    exact ⟨rfl,.inl rfl⟩
  obtain ⟨rfl,hh⟩:=key
  have hv:=Q2.val
  obtain ⟨D,gm3,gc3⟩:=LcD.of Q2 gm gc m1 m2 m3 m4 (by split;omega;rw [List.length_take];omega) (by split;exact .inl (List.prefix_refl _);exact .inr (List.take_prefix _ _)) hh
  generalize (if o.n < 0∨(T.length:Int) < o.n then T else T.take o.n.toNat)=T2 at D gm3
  have he:(if o.n < 0∨(T.length:Int) < o.n then (1:Int) else 0)=0∨(if o.n < 0∨(T.length:Int) < o.n then (1:Int) else 0)=1:=by split<;>simp
  generalize (if o.n < 0∨(T.length:Int) < o.n then (1:Int) else 0)=e at hv he ⊢
  clear Q2 k1 k2 hh
  rcases hv with rfl|rfl
  ·simp
   refine hQ _ _ T2 (fun d hd h10=> ?_) D gm3 gc3
   simp
   repeat rw [if_neg ω]
  ·have he9:¬(9:Int)=e:=by omega
   simp [he9]
   refine hQ _ _ T2 (fun d hd h10=> ?_) D gm3 gc3
   simp
   repeat rw [if_neg ω]
structure LcI (p q nb:Nat) (cells:List AV) (ps:List Nat) (pv lb wb count mb bc:Nat) (c:Cfg) (z:Nat) (os:List LOp) (r0:Regs) (i:Nat) (r:Regs) (hp:Heap):Prop where
 le:i≤os.length
 old:∀ d,d < 12→d≠10→rg r d=rg r0 d
 r13:rg r 13 = .int .i64 i
 gc:hp.get bc=some (cC c)
 ex:∃ o T,rg r 12=S o∧o.length≤count * z∧hp.get mb=some [S T,.int .i64 ((count * z:Nat):Int)]∧LcD p q nb cells ps pv lb wb count mb bc c z (100+6 * i) o T hp
def LcE (p q nb:Nat) (cells:List AV) (ps:List Nat) (pv count mb bc:Nat) (c:Cfg) (z:Nat) (r':Regs) (h':Heap):Prop :=
 ∃ old T k a sq U1 U2,rg r' 12=S old∧T.length≤count * z∧old.length≤count * z∧h'.get mb=some [S T,.int .i64 ((count * z:Nat):Int)]∧h'.get bc=some (cC c)∧CrQ p q nb cells ps pv 0 count c z k a sq U1 U2 (fun x=>x=bc∨x=mb) h'∧Btw old T U1∧Btw old T U2∧(a.down=false→U1=T∧U2=T)
theorem Afg {o T:Txt} (h:o <+: T∨T <+: o):Btw o T T:=by
 rcases h with h|h
 ·exact .inl ⟨h,List.prefix_refl _⟩
 ·exact .inr ⟨List.prefix_refl _,h⟩
theorem LcD.e {sq1:Int} {o:Txt} (D:LcD p q nb cells ps pv lb wb count mb bc c z sq1 o T hp) (hs:sq1 < 900) {r:Regs} (r12:rg r 12=S o) (ho:o.length≤count * z) (gm:hp.get mb=some [S T,.int .i64 ((count * z:Nat):Int)]) (gc:hp.get bc=some (cC c)):LcE p q nb cells ps pv count mb bc c z r hp:=by
 obtain ⟨hl,hpre,⟨a,sq,L,S1,k⟩|⟨k,a,sq,U1,U2,Cr,hd,b1,b2⟩⟩:=D
 ·exact ⟨o,T,0,a,sq,T,T,r12,hl,ho,gm,gc,(S1.cr ω).less fun x hx=> .inl (.inl hx),Afg hpre,Afg hpre,fun _=>⟨rfl,rfl⟩⟩
 ·exact ⟨o,T,k,a,sq,U1,U2,r12,hl,ho,gm,gc,Cr,b1,b2,fun h=>by rw [hd] at h;cases h⟩
theorem lc13 {cd:Code} (hc:(Tryz.f8.body).bind (Df 13)=some cd) {r0:Regs} {Q:Out→Regs→Heap→Prop} {os:List LOp} (r4:rg r0 4=TR LOpC os) (r7:rg r0 7 = .ptr p 0) (r9:rg r0 9 = .ptr lb 0) (r11:rg r0 11 = .ptr mb 0) (r12:rg r0 12=S [])
  (S1:LgU p q nb cells ps pv lb wb 0 count c z a sq L [] (fun x=>((x=bc∨x=mb)∨x=lb)∨x=wb) hp) (hz0:0 < z) (hcz:count * z < 2 ^ 20) (hc6:count≤6) (gm:hp.get mb=some [S [],.int .i64 ((count * z:Nat):Int)]) (gc:hp.get bc=some (cC c)) (hs:sq≤100) (hosl:os.length≤6) (hos:∀ x∈os,LOpW x) (m1:mb≠lb) (m2:mb≠wb) (m3:bc≠wb) (m4:bc≠mb)
  (hQ:∀ r' h',(∀ d,d < 12→d≠10→rg r' d=rg r0 d)→LcE p q nb cells ps pv count mb bc c z r' h'→Q .norm r' h'):wpc Tryz.prog cd Q r0 hp:=by
 simp [Tryz.f8,Df] at hc
 subst hc
 generalize hg18:Code.seq (Code.region 18 _ _) _=c18
 have hc18:(Tryz.f8.body).bind (Df 18)=some c18:=by rw [←hg18];rfl
 clear hg18
 have haggO:aggT Tryz.prog 40=some true:=by kernel_rfl
 have hzO:szT Tryz.prog 40=some 3:=by kernel_rfl
 have hzzO:B7 Tryz.prog 40=some (.agg [.int .i64 0,.int .i64 0,S []]):=by kernel_rfl
 have hel:(elT Tryz.prog 24).isSome=true:=by kernel_rfl
 have hez:(elT Tryz.prog 24).bind (szT Tryz.prog)=some 3:=by kernel_rfl
 simp
 refine Ar (LcI p q nb cells ps pv lb wb count mb bc c z os r0) (os.length - ·) ?_ 0 ?_
 rotate_left
 ·exact ⟨ω,fun d hd h10=>by simp;intro h;omega,μ,gc,[],[],by simpa using r12,Nat.zero_le _,gm,Nat.zero_le _,.inl (List.prefix_refl _),.inl ⟨a,sq,L,S1,ω⟩⟩
 clear S1 gm gc hs r12
 rintro i r hp ⟨le,old,r13,gc,o1,T,r12,ho1,gm,D⟩
 have q4:=(old 4 ν ν).trans r4
 have q7:=(old 7 ν ν).trans r7
 have q9:=(old 9 ν ν).trans r9
 have q11:=(old 11 ν ν).trans r11
 rcases Nat.lt_or_eq_of_le le with hlt|heq
 rotate_left
 ·subst heq
  simp [q4,r13,Ed hel]
  exact hQ _ _ (fun d hd h10=>by simp; (repeat rw [if_neg ω]);exact old d hd h10) (D.e ω (by simpa using r12) ho1 gm gc)
 have hlt':(i:Int) < os.length:=by omega
 have hw1:IntKind.i64.wrap ((i:Int)+1)=(i:Int)+1:=wrap64 ω ω
 have hD:=D
 obtain ⟨hTl,hpre,⟨a,sq,L,S1,hsq⟩|⟨k,a,sq,U1,U2,Cr,hd,b1,b2⟩⟩:=D
 rotate_left
 ·simp [q4,q7,r13,Ed hel,hlt']
  refine (Hj Cr.H.at_).use ?_
  simp [hd]
  exact hQ _ _ (fun d hd h10=>by simp; (repeat rw [if_neg ω]);exact old d hd h10) (hD.e ω (by simpa using r12) ho1 gm gc)
 have hLl:∀ o,(LOpC o).length=3:=fun _=>rfl
 have htk:takeN ((os.map LOpC).flatten.drop (i * 3)) 0 3=some (LOpC os[i]):=by
  have:=Hz (g:=LOpC) (z:=3) hLl (rest:=[]) hlt
  rwa [List.append_nil] at this
 have hoW:=hos os[i] (List.getElem_mem hlt)
 have ea:∀ zs,(hp.alloc zs).get hp.next=some zs:=fun zs=>Heap.A9 hp zs
 simp [q4,q7,r13,hlt,hlt',Ed hel]
 refine (Hj S1.H.at_).use ?_
 simp [S1.dn,q4,r13,hlt,hlt',Ed hel,Et hez,Hk haggO hzO,htk,hzzO,AV.cells,Aj,hzO,ea]
 generalize os[i]=o at htk hoW ⊢
 refine ⟨⟨hLl o,fun x hx=>List.all_eq_true.1 (show (LOpC o).all AV.atom=true from rfl) x hx⟩,?_⟩
 simp only [show putN [AV.int IntKind.i64 0,AV.int IntKind.i64 0,S []] 0 (LOpC o)=some (LOpC o) from rfl,Cy]
 obtain ⟨S2,go,F1,hnb⟩:=S1.box [AV.int IntKind.i64 0,AV.int IntKind.i64 0,S []] (LOpC o)
 have gm1:=(F1 mb (.inl (.inl (.inr rfl)))).trans gm
 have gc1:=(F1 bc (.inl (.inl (.inl rfl)))).trans gc
 have nbm:=hnb mb (.inl (.inl (.inr rfl)))
 have nbw:=hnb wb (.inr rfl)
 generalize (hp.alloc [AV.int IntKind.i64 0,AV.int IntKind.i64 0,S []]).put hp.next (LOpC o)=H1 at S2 go gm1 gc1 ⊢
 generalize hp.next=bo at S2 go nbm nbw ⊢
 clear htk ea F1 hnb S1 gm gc hD
 have hos63:o.s.length < 2 ^ 63:=hoW.2.2
 simp [q11,A8,gm1]
 refine lc18 hc18 (by simpa using q9) (by simpa using q11) μ S2 hz0 hcz gm1 go gc1 ω hos63 m1 m2 m3 m4 nbm nbw fun r' h' T2 hr D2 gm2 gc2=> ?_
 have q12:=(hr 12 ν ν).trans (by simp:_=S T)
 have q13:=(hr 13 ν ν).trans (by simpa using r13)
 simp [q13,hw1]
 refine ⟨i+1,ω,ω,fun d hd h10=> ?_,μ,gc2,T,T2,by simpa using q12,hTl,gm2,D2.1,D2.2.1,?_⟩
 ·simp
  repeat rw [if_neg ω]
  refine (hr d ω h10).trans ?_
  simp
  repeat rw [if_neg ω]
  exact old d hd h10
 ·rcases D2.2.2 with ⟨a2,sq2,L2,S3,k3⟩|h
  ·exact .inl ⟨a2,sq2,L2,S3,by push_cast;omega⟩
  ·exact .inr h
end
def alKV (c:Cfg) (u1:List LOp) (u2:Int) (u3:List Bool) (q:Nat):Nat→AV→Prop
 | 0,v=>v = .ptr 0 0
 | 1,v=>v=CfA c
 | 2,v=>v = .ptr 0 5
 | 3,v=>v=(TR LOpC u1)
 | 4,v=>v = .ptr 0 6
 | 5,v=>v=(.int .i64 u2)
 | 6,v=>v = .ptr 0 7
 | 7,v=>v=(OL u3)
 | 8,v=>v = .ptr q 0
 | 10,v=>v=(TR LOpC u1)
 | 11,v=>v=(.int .i64 u2)
 | 12,v=>v=(OL u3)
 | _,v=>True
theorem alK {cd:Code} (hc:(Tryz.f8.body).bind (Fy 1)=some cd) {r:Regs} {H:Heap} {Q:Out→Regs→Heap→Prop} {c:Cfg} {u1:List LOp} {u2:Int} {u3:List Bool} (r1:rg r 1 = .ptr 0 0)
  (g0:H.get 0=some [.int .i64 c.k,.int .i64 c.m,.int .i64 c.sh,.int .i64 c.st,.int .i64 c.sl,(TR LOpC u1),(.int .i64 u2),(OL u3)])
  (hQ:∀ r':Regs,rg r' 3 = .ptr H.next 0→rg r' 4=(TR LOpC u1)→rg r' 5=(.int .i64 u2)→rg r' 6=(OL u3)→Q .norm r' ((H.alloc zC).put H.next (cC c))):wpc Tryz.prog cd Q r H:=by
 simp [Tryz.f8,Fy] at hc
 subst hc
 have haggC:aggT Tryz.prog 23=some true:=by kernel_rfl
 have hzC:szT Tryz.prog 23=some 5:=by kernel_rfl
 have hzz:B7 Tryz.prog 23=some (.agg zC):=by kernel_rfl
 have hcl:(AV.agg zC).cells=zC:=rfl
 have hcc:(CfA c).cells=cC c:=rfl
 refine Hx (fun L _ h=>h=Al1H H c (L 8) (L 9)) (alKV c u1 u2 u3 H.next) κ rfl ?_ ?_
 ·intro L r2 H1 hH cl hr
  have q1:rg r2 1 = .ptr 0 0:=(Dr hr κ).trans r1
  have e1:Ext H (H.alloc zC):=(Ext.refl H).alloc _
  have e2:Ext H ((H.alloc zC).put H.next (cC c)):=e1.put (Nat.le_refl _) _
  have g1:H1.get 0=some [.int .i64 c.k,.int .i64 c.m,.int .i64 c.sh,.int .i64 c.st,.int .i64 c.sl,(TR LOpC u1),(.int .i64 u2),(OL u3)]:=by
   rw [hH]
   unfold Al1H
   split
   ·exact e2.got g0
   ·split
    ·exact e1.got g0
    ·exact g0
  refine ⟨?_,?_,?_,?_,?_,?_,?_,?_,?_,?_,?_,?_,?_,trivial⟩
  all_goals (intro hL hd;simp [DepL,VL,alKV,Region.binds] at hd)
  ·simp [q1,A8,g1,alKV];exact ⟨_,rfl,rfl,hH⟩
  ·simp [hd,g1,Ac haggC,hzC,takeN,alKV,CfA];exact ⟨_,rfl,rfl,hH⟩
  ·simp [q1,A8,g1,alKV];exact ⟨_,rfl,rfl,hH⟩
  ·simp [hd,g1,alKV];exact ⟨_,rfl,rfl,hH⟩
  ·simp [q1,A8,g1,alKV];exact ⟨_,rfl,rfl,hH⟩
  ·simp [hd,g1,alKV];exact ⟨_,rfl,rfl,hH⟩
  ·simp [q1,A8,g1,alKV];exact ⟨_,rfl,rfl,hH⟩
  ·simp [hd,g1,alKV];exact ⟨_,rfl,rfl,hH⟩
  ·have h9:=cl 9 8 κ hL
   have e:H1=H:=by rw [hH];unfold Al1H;simp [h9,show L 8=false from hL]
   subst e
   simp [hzz,zC,AV.cells,alKV,Al1H,h9]
  ·have l9:L 9=false:=hL
   have l8:L 8=true:=by simp [hd]
   have e:H1=H.alloc zC:=by rw [hH];unfold Al1H;simp [l9,l8]
   subst e
   simp [hd,Aj,hzC,putN,Heap.A9,Al1H,CfA,cC,zC]
  ·simp [hd,alKV];exact ⟨_,rfl,rfl,by simpa [hd] using hH⟩
  ·simp [hd,alKV];exact ⟨_,rfl,rfl,by simpa [hd] using hH⟩
  ·simp [hd,alKV];exact ⟨_,rfl,rfl,by simpa [hd] using hH⟩
 ·intro L r2 H1 hall hH hr hA
  have e:H1=(H.alloc zC).put H.next (cC c):=by rw [hH];unfold Al1H;simp [hall 9 ν]
  subst e
  obtain ⟨_,_,_,_,_,_,_,_,h8,_,h10,h11,h12,_⟩:=hA
  simp [VL,alKV] at h8 h10 h11 h12
  exact hQ r2 h8 h10 h11 h12
theorem Yc (c:Cfg) (os:List LOp) (fu:Int) (kp:List Bool) (_:CfW c) (hos:os.length < 2 ^ 48∧∀ x∈os,LOpW x) (hfw:(Lit.int .i64 fu).wf=true) (hkp:kp.length < 2 ^ 48) :
  As Tryz.prog 8 [.agg [.int .i64 c.k,.int .i64 c.m,.int .i64 c.sh,.int .i64 c.st,.int .i64 c.sl,TR LOpC os,.int .i64 fu,OL kp]] (.bool true):=by
 refine As.Ba (k:=1) ?_
 refine CSem.body hm Tryz.func8 rfl κ κ (by simp [Tryz.ntmps8]) ?_
 simp only [Tryz.f8]
 generalize hg13:Code.seq (Code.region 13 _ _) _=c13
 generalize hg25:Code.seq (Code.region 25 _ _) _=c25
 have hc13:(Tryz.f8.body).bind (Df 13)=some c13:=by rw [←hg13];rfl
 have hc25:(Tryz.f8.body).bind (Df 25)=some c25:=by rw [←hg25];rfl
 clear hg13 hg25
 have haggC:aggT Tryz.prog 23=some true:=by kernel_rfl
 have hzC:szT Tryz.prog 23=some 5:=by kernel_rfl
 have hel:(elT Tryz.prog 24).isSome=true:=by kernel_rfl
 have hout:∀ (h:Heap) (K:AV→Heap→Prop),K (.bool true) h→Call Tryz.prog 10 [] h K:=out22
 refine Nd (fun r h=>rg r 1 = .ptr 0 0∧h=Heap.empty.alloc [.int .i64 c.k,.int .i64 c.m,.int .i64 c.sh,.int .i64 c.st,.int .i64 c.sl,TR LOpC os,.int .i64 fu,OL kp]) ?_ (by simp [AV.cells];rfl)
 rintro r _ ⟨r1,rfl⟩
 have lp0:(Heap.empty.alloc [.int .i64 c.k,.int .i64 c.m,.int .i64 c.sh,.int .i64 c.st,.int .i64 c.sl,TR LOpC os,.int .i64 fu,OL kp]).lp=none:=rfl
 have g0:(Heap.empty.alloc [.int .i64 c.k,.int .i64 c.m,.int .i64 c.sh,.int .i64 c.st,.int .i64 c.sl,TR LOpC os,.int .i64 fu,OL kp]).get 0=some _:=Heap.A9 Heap.empty _
 generalize Heap.empty.alloc [.int .i64 c.k,.int .i64 c.m,.int .i64 c.sh,.int .i64 c.st,.int .i64 c.sl,TR LOpC os,.int .i64 fu,OL kp]=H0 at g0 lp0 ⊢
 rw [Eb]
 refine alK rfl r1 g0 fun r r3 r4 r5 r6=> ?_
 have g1:((H0.alloc zC).put H0.next (cC c)).get H0.next=some (cC c):=Heap.Ak (Heap.A9 _ _)
 have lp1:((H0.alloc zC).put H0.next (cC c)).lp=none:=lp0
 generalize (H0.alloc zC).put H0.next (cC c)=H1 at g1 lp1 ⊢
 generalize H0.next=bc at r3 g1
 clear g0 lp0 r1
 simp only [cC] at g1
 have hbl:=Heap.Ah g1
 simp [r3,g1,Ac haggC,hzC,takeN]
 refine (A7s c _).use ?_
 by_cases hT:SmL c
 rotate_left
 ·simp [hT]
  refine hout _ _ ?_
  simp
 by_cases hw6:(6:Int) < os.length
 ·simp [hT,r4,hw6,Ed hel]
  refine hout _ _ ?_
  simp
 by_cases hf0:fu < 0
 ·simp [hT,r4,r5,hw6,hf0,Ed hel]
  refine hout _ _ ?_
  simp
 by_cases hf1:1000 < fu
 ·simp [hT,r4,r5,hw6,hf0,hf1,Ed hel]
  refine hout _ _ ?_
  simp
 simp [hT,r3,r4,r5,hw6,hf0,hf1,Ed hel,g1,Ac haggC,hzC,takeN]
 obtain ⟨hC,t1,t2,t3,t4⟩:=hT
 have h0:=Bd hC
 have hst:1≤c.st:=hC.2.2.2.1.1
 have hcap:=Lc hC
 have hsz:8≤c.k * c.sh:=by
  have hkk:=hC.2.2.1
  have:1 * 8≤c.k * c.sh:=Int.mul_le_mul ω ω ω ω
  omega
 have hk4:=hC.2.2.2.2.2
 obtain ⟨z,hz⟩:=Int.eq_ofNat_of_zero_le (show 0≤Aw c by omega)
 have hz:(z:Int)=Aw c:=hz.symm
 obtain ⟨n1,hn1⟩:=Int.eq_ofNat_of_zero_le (show 0≤c.st by omega)
 have hn1:c.st=(n1:Int):=hn1
 refine (Wz hC ⟨t1,t3⟩ _ lp1).then ?_
 rintro _ H2 ⟨p,q,nb,cells,ps,pv,rfl,LH,F2⟩
 have LH:LawV p q nb cells ps pv c 0 (Gz c [] 0).1 (Gz c [] 0).2 (fun x=>x=bc) H2:=LH.less fun x hx=>by rw [hx];exact hbl
 have g2:=(F2 bc hbl).trans g1
 obtain ⟨W,s0,s1⟩:=Ut hC [] 0 ω
 generalize Gz c [] 0=aq at LH W s0 s1
 obtain ⟨a0,sq⟩:=aq
 simp only at LH W s0 s1
 have hM:A8u c [] 0=List.replicate c.st.toNat []:=rfl
 rw [hM] at W
 have hem:∀ i,i < c.st.toNat→(List.replicate c.st.toNat ([]:Txt))[i]? = some []:=fun i hi=>by rw [List.getElem?_replicate,if_pos hi]
 simp [r3,A8,g2]
 rw [hn1]
 refine (LgS.new (z:=z) (f:=0) (count:=n1) LH hC hz t3 W (by rw [List.length_replicate];omega) s0 ω ω (fun i hi=>hem _ ω)).then ?_
 rintro _ H3 ⟨lb,wb,rfl,S3,F3,hne3⟩
 have g3:=(F3 bc rfl).trans g2
 obtain ⟨n1',n2⟩:=hne3 bc rfl
 simp [r3,A8,g3,Ac haggC,hzC,takeN]
 refine (Abz (c:=c) (count:=c.st) ω ω ⟨ω,ω⟩ _).then ?_
 rintro _ H4 ⟨X4,mb,rfl,hmb,gm⟩
 have e1:=S3.H.lt S3.h1
 have e2:=S3.H.lt S3.h2
 have e3:=S3.H.lt (.inl (.inl rfl))
 have g4:=X4.got g3
 have hml:=Heap.Ah gm
 have hcm:c.st * Aw c=((n1 * z:Nat):Int):=by rw [hn1,←hz];push_cast;rfl
 rw [hcm] at gm
 obtain ⟨hz0,hz13,hc6,hcz,_⟩:=S3.A3v
 have S4:LgU p q nb cells ps pv lb wb 0 n1 c z a0 sq (List.replicate c.st.toNat []) [] (fun x=>((x=bc∨x=mb)∨x=lb)∨x=wb) H4:=by
  refine ⟨(S3.H.ext X4).less fun x hx=> ?_,S3.G,S3.A.keep (X4.get lb e1) (X4.get wb e2),S3.le,.inl (.inr rfl),.inr rfl,hC,hz,t3⟩
  rcases hx with ((rfl|rfl)|rfl)|rfl
  ·exact .inl (.inl (.inl rfl))
  ·exact .inr ⟨hmb,hml⟩
  ·exact .inl (.inl (.inr rfl))
  ·exact .inl (.inr rfl)
 simp [r5]
 refine (S4.fuse fu (Ahh hfw)).then ?_
 rintro _ H5 ⟨S5,F5⟩
 have g5:=(F5 bc (.inl (.inl (.inl rfl)))).trans g4
 have gm5:=(F5 mb (.inl (.inl (.inr rfl)))).trans gm
 simp
 refine lc13 hc13 (by simpa using r4) μ μ μ μ S5 hz0 hcz hc6 gm5 g5 ω ω hos.2 ω ω n2 ω fun r' h' hr E=> ?_
 obtain ⟨old,T,k,a,sq',U1,U2,q12,hTl,hol,gm',gc',Cr,b1,b2,hd⟩:=E
 refine lc25 hc25 ((hr 3 ν ν).trans (by simpa using r3)) ((hr 6 ν ν).trans (by simpa using r6)) ((hr 7 ν ν).trans μ) ((hr 11 ν ν).trans μ) q12 gc' gm' hTl hol hcz hn1.symm ω hC hz ω t3 ω Cr b1 b2 hd fun r2 h2 h22=> ?_
 simp [h22]
end Go.Proofs.YtmbndhciflilbaaGreatDoor.X
