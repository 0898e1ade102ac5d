/-
  law17.hurts.
-/
import Derived.Test.YtpabfpccpbakfaaGreatDoorV80
namespace Go.Proofs.YtpabfpccpbakfaaGreatDoor.X
open Go.RowKit F
set_option maxRecDepth 100000
set_option linter.unusedSimpArgs false
set_option linter.unusedVariables false
def HurQ (p q nb:Nat) (cells:List AV) (ps:List Nat) (pv:Nat) (c:Cfg) (D:Nat) (sq:Int) (L:List Txt) (E:Nat→Prop) (hp:Heap) (x:AV) (h':Heap):Prop :=
 (∃ n,x = .tup [.int .i64 n,.bool false])∨(∃ (a':Arr) (X:Nat→Nat→Bool) (bd:List Bool),x = .tup [.int .i64 (totX X D c.sl.toNat c.st.toNat:Nat),.bool true]∧LawV p q nb cells ps pv c 0 a' sq E h'∧Fr' E hp h'∧EX c a' sq L X∧(bd.length:Int)=c.k+c.m∧(∀ d p:Nat,X d p=true→bd[d]? = some true)∧(bads bd:Int)≤c.m∧a'.disks.length=D)
section
variable {p q nb:Nat} {cells:List AV} {ps:List Nat} {pv:Nat} {c:Cfg} {a:Arr} {sq:Int} {E:Nat→Prop} {hp:Heap} {L:List Txt}
structure HuI (p q nb:Nat) (cells:List AV) (ps:List Nat) (pv cb bb gb:Nat) (c:Cfg) (D Z:Nat) (sq:Int) (L:List Txt) (l:List HuD) (E:Nat→Prop) (h0:Heap) (i:Nat) (r:Regs) (hp:Heap):Prop where
 le:i≤l.length
 r1:rg r 1 = .ptr p 0
 r2:rg r 2=TR HuC l
 r3:rg r 3 = .ptr cb 0
 r8:rg r 8 = .sl bb 0 D D 1
 r9:rg r 9 = .sl gb 0 (D * Z) (D * Z) 1
 r10:rg r 10 = .int .i64 i
 gc:hp.get cb=some [.int .i64 c.k,.int .i64 c.m,.int .i64 c.sh,.int .i64 c.st,.int .i64 c.sl]
 ex:∃ (a:Arr) (X:Nat→Nat→Bool) (bd:List Bool),LawV p q nb cells ps pv c 0 a sq (fun x=>((E x∨x=cb)∨x=bb)∨x=gb) hp∧EX c a sq L X∧hp.get bb=some (bd.map AV.bool)∧hp.get gb=some ((Er X D Z).map AV.bool)∧bd.length=D∧(∀ d p:Nat,X d p=true→bd[d]? = some true)∧a.disks.length=D
 F:Fr' E h0 hp
theorem hu8 {cd:Code} (hc:(Tryz.f8.body).bind (Es 8)=some cd) {r:Regs} {h:Heap} {Q:Out→Regs→Heap→Prop} {cb bb ob D:Nat} {o:HuD} (hC:As c)
  (r3:rg r 3 = .ptr cb 0) (r8:rg r 8 = .sl bb 0 D D 1) (r11:rg r 11 = .ptr ob 0) (r13:rg r 13 = .int .i64 (C5 o.s).2)
  (gc:h.get cb=some [.int .i64 c.k,.int .i64 c.m,.int .i64 c.sh,.int .i64 c.st,.int .i64 c.sl]) (go:h.get ob=some [.int .i64 o.d,.int .i64 o.n,S o.s,.bool o.al])
  (hQ:∀ r',(∀ t,t < 14→rg r' t=rg r t)→rg r' 84 = .bool (decide (o.d < 0∨(D:Int)≤o.d∨o.n < 0∨1+c.sl+c.st≤o.n∨(C5 o.s).2=0∨c.k * c.sh+42 < (o.s.length:Int)))→Q .norm r' h):wpc Tryz.prog cd Q r h:=by
 simp [Tryz.f8,Es] at hc
 subst hc
 have haggC:aggT Tryz.prog 23=some true:=by kernel_rfl
 have hzC:szT Tryz.prog 23=some 5:=by kernel_rfl
 refine Fb (fun r' h'=>((∀ t,t < 14→rg r' t=rg r t)∧rg r' 84 = .bool (decide (o.d < 0∨(D:Int)≤o.d∨o.n < 0∨1+c.sl+c.st≤o.n∨(C5 o.s).2=0∨c.k * c.sh+42 < (o.s.length:Int))))∧h=h') ?_ (by rintro r' _ ⟨⟨k1,k2⟩,rfl⟩;exact hQ r' k1 k2)
 refine Bh 34 (by kernel_rfl) ?_
 have fin:∀ t,t < 14→∀ (r':Regs),True:=fun _ _ _=>trivial
 by_cases d0:o.d < 0
 ·simp [r3,r8,r11,r13,A8,go,d0]
  intro t ht
  repeat rw [if_neg (by omega)]
 by_cases d1:(D:Int)≤o.d
 ·simp [r3,r8,r11,r13,A8,go,d0,d1]
  intro t ht
  repeat rw [if_neg (by omega)]
 by_cases n0:o.n < 0
 ·simp [r3,r8,r11,r13,A8,go,d0,d1,n0]
  intro t ht
  repeat rw [if_neg (by omega)]
 by_cases n1:1+c.sl+c.st≤o.n
 ·simp [r3,r8,r11,r13,A8,go,d0,d1,n0,gc,Ab haggC,hzC,takeN]
  refine Cp.use (x:= .int .i64 (1+c.sl+c.st)) (Cz hC _) ?_
  simp [r3,r8,r11,r13,n1]
  intro t ht
  repeat rw [if_neg (by omega)]
 by_cases e0:(C5 o.s).2=0
 ·simp [r3,r8,r11,r13,A8,go,d0,d1,n0,gc,Ab haggC,hzC,takeN]
  refine Cp.use (x:= .int .i64 (1+c.sl+c.st)) (Cz hC _) ?_
  simp [r3,r8,r11,r13,n1,e0]
  intro t ht
  repeat rw [if_neg (by omega)]
 simp [r3,r8,r11,r13,A8,go,d0,d1,n0,gc,Ab haggC,hzC,takeN]
 refine Cp.use (x:= .int .i64 (1+c.sl+c.st)) (Cz hC _) ?_
 simp [r3,r8,r11,r13,n1,e0,A8,go,gc,Ab haggC,hzC,takeN]
 refine Cp.use (x:= .int .i64 (c.k * c.sh+42)) (A7q hC _) ?_
 simp
 intro t ht
 repeat rw [if_neg (by omega)]
structure HuJ (p q nb:Nat) (cells:List AV) (ps:List Nat) (pv cb bb gb:Nat) (c:Cfg) (D Z:Nat) (sq:Int) (L:List Txt) (E:Nat→Prop) (h0:Heap) (r0 r:Regs) (hp:Heap):Prop where
 old:∀ t,t < 11→rg r t=rg r0 t
 gc:hp.get cb=some [.int .i64 c.k,.int .i64 c.m,.int .i64 c.sh,.int .i64 c.st,.int .i64 c.sl]
 ex:∃ (a:Arr) (X:Nat→Nat→Bool) (bd:List Bool),LawV p q nb cells ps pv c 0 a sq (fun x=>((E x∨x=cb)∨x=bb)∨x=gb) hp∧EX c a sq L X∧hp.get bb=some (bd.map AV.bool)∧hp.get gb=some ((Er X D Z).map AV.bool)∧bd.length=D∧(∀ d p:Nat,X d p=true→bd[d]? = some true)∧a.disks.length=D
 F:Fr' E h0 hp
theorem Afg {cd:Code} (hc:(Tryz.f8.body).bind (Lj 1)=some cd) {cb bb gb D Z i:Nat} {l:List HuD} {h0:Heap} {r:Regs} {Q:Out→Regs→Heap→Prop} (hC:As c) (hw:∀ x∈l,HuW x) (hD:(D:Int)=c.k+c.m) (hZ:(Z:Int)=1+c.sl+c.st) (hZe:Z=1+c.sl.toNat+c.st.toNat) (hDZ:D * Z≤77) (hE:∀ x,E x→x < cb) (hbb:cb < bb) (hgb:bb < gb)
  (J:HuI p q nb cells ps pv cb bb gb c D Z sq L l E h0 i r hp) (hlt:i < l.length)
  (hQ:∀ r' h',HuJ p q nb cells ps pv cb bb gb c D Z sq L E h0 r r' h'→Q .norm r' h')
  (hR:∀ r' h',rg r' 6 = .int .i64 0→rg r' 7 = .bool false→Q .ret r' h'):wpc Tryz.prog cd Q r hp:=by
 simp [Tryz.f8,Lj] at hc
 subst hc
 have haggH:aggT Tryz.prog 72=some true:=by kernel_rfl
 have hzH:szT Tryz.prog 72=some 4:=by kernel_rfl
 have hzzH:Au Tryz.prog 72=some (.agg [.int .i64 0,.int .i64 0,S [],.bool false]):=by kernel_rfl
 have hez:(elT Tryz.prog 25).bind (szT Tryz.prog)=some 4:=by kernel_rfl
 have hz5:szT Tryz.prog 74=some 5:=by kernel_rfl
 have hagg:aggT Tryz.prog 74=some true:=by kernel_rfl
 have hzB:Au Tryz.prog 74=some (.agg [.int .i64 0,.int .i64 0,.int .i64 0,.int .i64 0,S []]):=by kernel_rfl
 have hk0:=Bk hC
 obtain ⟨le,r1,r2,r3,r8,r9,r10,gc,⟨a,X,bd,H,EXX,gb',gg,hbd,hX,haD⟩,F⟩:=J
 have hlt':(i:Int) < l.length:=by omega
 have htk:takeN ((l.map HuC).flatten.drop (i * 4)) 0 4=some (HuC l[i]):=by
  have:=J8 (g:=HuC) (z:=4) A9w (rest:=[]) hlt
  rwa [List.append_nil] at this
 have hwo:=hw l[i] (List.getElem_mem hlt)
 have ea:∀ zs,(hp.alloc zs).get hp.next=some zs:=fun zs=>Heap.A9 hp zs
 rw [Qn]
 refine Eg (fun r' h'=>(∀ t,t < 11→rg r' t=rg r t)∧rg r' 11 = .ptr hp.next 0∧h'=(hp.alloc [AV.int IntKind.i64 0,AV.int IntKind.i64 0,S [],AV.bool false]).put hp.next (HuC l[i])) ?_ ?_
 rotate_left
 ·simp [r2,r10,hlt,hlt',Ew hez,Hw haggH hzH,htk,hzzH,AV.cells,Ae,hzH,ea]
  generalize l[i]=o
  refine ⟨⟨A9w o,fun x hx=>List.all_eq_true.1 (show (HuC o).all AV.atom=true from rfl) x hx⟩,?_⟩
  simp only [show putN [AV.int IntKind.i64 0,AV.int IntKind.i64 0,S [],AV.bool false] 0 (HuC o)=some (HuC o) from rfl,D7]
  simp
  intro t ht
  repeat rw [if_neg (by omega)]
 generalize l[i]=o at hwo ⊢
 clear htk ea
 rintro r6 _ ⟨old6,q11,rfl⟩
 obtain ⟨H4,go,F4⟩:=H.box [AV.int IntKind.i64 0,AV.int IntKind.i64 0,S [],AV.bool false] (HuC o)
 have go:((hp.alloc [AV.int IntKind.i64 0,AV.int IntKind.i64 0,S [],AV.bool false]).put hp.next (HuC o)).get hp.next=some [.int .i64 o.d,.int .i64 o.n,S o.s,.bool o.al]:=go
 have hob:gb < hp.next:=Heap.Ah gg
 have gc4:=(F4 cb (.inl (.inl (.inr rfl)))).trans gc
 have gb4:=(F4 bb (.inl (.inr rfl))).trans gb'
 have gg4:=(F4 gb (.inr rfl)).trans gg
 have F:=F.trans (F4.less fun x hx=> .inl (.inl (.inl hx)))
 generalize (hp.alloc [AV.int IntKind.i64 0,AV.int IntKind.i64 0,S [],AV.bool false]).put hp.next (HuC o)=h4 at H4 go F gc4 gb4 gg4 ⊢
 generalize hp.next=ob at hob H4 go q11 ⊢
 clear F4 gc gb' gg H
 refine Eg (fun r' h'=>(∀ t,t < 12→rg r' t=rg r6 t)∧rg r' 13 = .int .i64 (C5 o.s).2∧h'=(h4.alloc [.int .i64 0,.int .i64 0,.int .i64 0,.int .i64 0,S []]).put h4.next [.int .i64 (C5 o.s).1.ar,.int .i64 (C5 o.s).1.dk,.int .i64 (C5 o.s).1.pl,.int .i64 (C5 o.s).1.ep,S (C5 o.s).1.tx]) ?_ ?_
 rotate_left
 ·simp [q11,A8,go]
  refine (A7j o.s hwo.2.2 h4).use ?_
  simp [Jh,BlkA,hzB,AV.cells,Ae,hz5,putN,Heap.A9]
  intro t ht
  repeat rw [if_neg (by omega)]
 rintro r7 _ ⟨old7,q13,rfl⟩
 obtain ⟨H5,_,F5⟩:=H4.box [.int .i64 0,.int .i64 0,.int .i64 0,.int .i64 0,S []] [.int .i64 (C5 o.s).1.ar,.int .i64 (C5 o.s).1.dk,.int .i64 (C5 o.s).1.pl,.int .i64 (C5 o.s).1.ep,S (C5 o.s).1.tx]
 have H5:=H5.less (E':=fun x=>(((E x∨x=cb)∨x=bb)∨x=gb)∨x=ob) fun x hx=> .inl hx
 have gc5:=(F5 cb (.inl (.inl (.inl (.inr rfl))))).trans gc4
 have gb5:=(F5 bb (.inl (.inl (.inr rfl)))).trans gb4
 have gg5:=(F5 gb (.inl (.inr rfl))).trans gg4
 have go5:=(F5 ob (.inr rfl)).trans go
 have F:=F.trans (F5.less fun x hx=> .inl (.inl (.inl (.inl hx))))
 generalize (h4.alloc [.int .i64 0,.int .i64 0,.int .i64 0,.int .i64 0,S []]).put h4.next [.int .i64 (C5 o.s).1.ar,.int .i64 (C5 o.s).1.dk,.int .i64 (C5 o.s).1.pl,.int .i64 (C5 o.s).1.ep,S (C5 o.s).1.tx]=h5 at H5 gc5 gb5 gg5 go5 F ⊢
 clear F5 H4 gc4 gb4 gg4 go
 have old:∀ t,t < 11→rg r7 t=rg r t:=fun t ht=>(old7 t (by omega)).trans (old6 t ht)
 have s3:=(old 3 (by decide)).trans r3
 have s8:=(old 8 (by decide)).trans r8
 have s11:=(old7 11 (by decide)).trans q11
 rw [C8,C8]
 refine hu8 rfl hC s3 s8 s11 q13 gc5 go5 fun r8' old8 k84=> ?_
 have o8:∀ t,t < 11→rg r8' t=rg r t:=fun t ht=>(old8 t (by omega)).trans (old t ht)
 by_cases hbad:o.d < 0∨(D:Int)≤o.d∨o.n < 0∨1+c.sl+c.st≤o.n∨(C5 o.s).2=0∨c.k * c.sh+42 < (o.s.length:Int)
 ·rw [decide_eq_true hbad] at k84
  simp [k84]
  exact hR _ _ (by simp) (by simp)
 rw [decide_eq_false hbad] at k84
 obtain ⟨d,hd⟩:=Int.eq_ofNat_of_zero_le (show 0≤o.d by omega)
 obtain ⟨n,hn⟩:=Int.eq_ofNat_of_zero_le (show 0≤o.n by omega)
 rw [hd,hn] at go5
 have hdD:d < D:=by omega
 have hs0:(C5 o.s).2≠0:=fun h=>hbad (.inr (.inr (.inr (.inr (.inl h)))))
 obtain ⟨EXH,hlenH⟩:=EXX.hur (d:=d) (n:=n) (by omega) (by omega) hs0 (by omega) o.al
 have p3:=(o8 3 (by decide)).trans r3
 have p8:=(o8 8 (by decide)).trans r8
 have p9:=(o8 9 (by decide)).trans r9
 have p1:=(o8 1 (by decide)).trans r1
 have p11:=(old8 11 (by decide)).trans s11
 have hia:Bx Tryz.prog 27 (.sl bb 0 D D 1) (.int .i64 (d:Int))=some (.ptr bb d):=by
  rw [E7 (z:=1) (by kernel_rfl) (by omega) (by omega),Int.toNat_natCast]
  simp
 have hbl:=Heap.Ah gb5
 have hdbd:d < (bd.map AV.bool).length:=by rw [List.length_map];omega
 have hdbd':d < bd.length:=by omega
 have H6:=H5.put (.inl (.inl (.inr rfl))) ((bd.map AV.bool).set d (.bool true)) gb5
 have gb6:(h5.put bb ((bd.map AV.bool).set d (.bool true))).get bb=some ((bd.set d true).map AV.bool):=by rw [Heap.Ac gb5,List.map_set]
 have hob':∀ x,x≠bb→(h5.put bb ((bd.map AV.bool).set d (.bool true))).get x=h5.get x:=fun x hx=>Heap.Ag gb5 hx
 have gc6:=(hob' cb (by omega)).trans gc5
 have gg6:=(hob' gb (by omega)).trans gg5
 have go6:=(hob' ob (by omega)).trans go5
 have F6:Fr' E h0 (h5.put bb ((bd.map AV.bool).set d (.bool true))):=fun x hx=>(hob' x (by have:=hE x hx;omega)).trans (F x hx)
 rw [De]
 refine Fb (fun r' h'=>r8'=r'∧h5=h') (by simp [k84]) ?_
 rintro _ _ ⟨rfl,rfl⟩
 rw [De]
 refine Eg (fun r' h'=>(∀ t,t < 14→rg r' t=rg r8' t)∧h'=h5.put bb ((bd.map AV.bool).set d (.bool true))) ?_ ?_
 rotate_left
 ·simp [p8,p11,A8,go5,hia,gb5,hbl,hdbd]
  refine ⟨hdbd',fun t ht=> ?_⟩
  repeat rw [if_neg (by omega)]
 rintro r10 _ ⟨old10,rfl⟩
 generalize h5.put bb ((bd.map AV.bool).set d (.bool true))=h6 at H6 gb6 gc6 gg6 go6 F6 ⊢
 rw [C8]
 refine Eg (fun r' h'=>(∀ t,t < 14→rg r' t=rg r8' t)∧rg r' 14 = .int .i64 0∧h'=h6) ?_ ?_
 rotate_left
 ·simp
  refine fun t ht=> ?_
  rw [if_neg (by omega)]
  exact old10 t ht
 rintro r11 _ ⟨old11,q14,rfl⟩
 have p3:=(old11 3 (by decide)).trans p3
 have p9:=(old11 9 (by decide)).trans p9
 have p11:=(old11 11 (by decide)).trans p11
 have o8:∀ t,t < 11→rg r11 t=rg r t:=fun t ht=>(old11 t (by omega)).trans (o8 t ht)
 have hOb:ob≠gb:=by omega
 have hCb:cb≠gb:=by omega
 refine Ajx rfl hC (gb:=gb) (cb:=cb) (ob:=ob) (Z:=Z) (D:=D) (d:=d) (n:=n) (c:=c) (X:=X) (s:=o.s) (al:=o.al) (by omega) hZ hdD p3 p9 p11 q14 hCb hOb gc6 go6 gg6 fun r9' h7 old9 gg7 K7=> ?_
 have H7:LawV p q nb cells ps pv c 0 a sq (fun x=>(((E x∨x=cb)∨x=bb)∨x=gb)∨x=ob) h7:=⟨K7.got (Ne.symm (H6.ne gb (.inl (.inr rfl)))) H6.gv,H6.at_.kept (ArrI.loc p q nb cells ps a) K7 (.inr (.inl (.inr rfl))),K7.lp.trans H6.lp,H6.q,H6.len,H6.ne⟩
 have gc7:=K7.got hCb gc6
 have gb7:=K7.got (show bb≠gb by omega) gb6
 have go7:=K7.got hOb go6
 have F7:Fr' E h0 h7:=fun x hx=>(K7.get x (by have:=hE x hx;omega)).trans (F6 x hx)
 have o9:∀ t,t < 11→rg r9' t=rg r t:=fun t ht=>by
  rw [old9 t (by omega),←o8 t ht]
 have w1:=(o9 1 (by decide)).trans r1
 have w11:rg r9' 11 = .ptr ob 0:=(old9 11 (by decide)).trans p11
 rw [Ajj (by omega) (by omega)] at gg7
 have hX':=hur_bd (X:=X) (n:=n) (al:=o.al) hdbd' hX
 clear H6 gc6 gg6 go6 F6 K7 H5 gc5 gb5 gg5 go5 F
 cases hal:o.al with
 | true =>
  rw [hal] at go7 gg7 hX'
  simp only [hal,hurA,if_true] at EXH hlenH
  simp [w1,w11,A8,go7]
  refine (H7.repl d).then ?_
  rintro _ h8 ⟨rfl,H8,F8⟩
  refine hQ _ _ ⟨fun t ht=> ?_,(F8 cb (.inl (.inl (.inl (.inr rfl))))).trans gc7,⟨_,_,_,H8.less fun x hx=> .inl hx,EXH,(F8 bb (.inl (.inl (.inr rfl)))).trans gb7,(F8 gb (.inl (.inr rfl))).trans gg7,by rw [List.length_set];exact hbd,hX',by omega⟩,F7.trans (F8.less fun x hx=> .inl (.inl (.inl (.inl hx))))⟩
  rw [←o9 t ht]
  simp
  repeat rw [if_neg (by omega)]
 | false =>
  rw [hal] at go7 gg7 hX'
  simp only [hal,hurA,Bool.false_eq_true,if_false] at EXH hlenH
  simp [w1,w11,A8,go7]
  refine (H7.corr (by decide) d n o.s).then ?_
  rintro _ h8 ⟨rfl,H8,F8⟩
  refine hQ _ _ ⟨fun t ht=> ?_,(F8 cb (.inl (.inl (.inl (.inr rfl))))).trans gc7,⟨_,_,_,H8.less fun x hx=> .inl hx,EXH,(F8 bb (.inl (.inl (.inr rfl)))).trans gb7,(F8 gb (.inl (.inr rfl))).trans gg7,by rw [List.length_set];exact hbd,hX',by omega⟩,F7.trans (F8.less fun x hx=> .inl (.inl (.inl (.inl hx))))⟩
  rw [←o9 t ht]
  simp
  repeat rw [if_neg (by omega)]
def HsV (cb:Nat) (T B m:Int):Nat→AV→Prop
 | 0,v=>v = .int .i64 T
 | 1,v=>v = .int .i64 B
 | 2,v=>v = .ptr cb 1
 | 3,v=>v = .int .i64 m
 | 4,v=>v = .bool (decide (B≤m))
 | 5,v=>v = .int .i64 T
 | 6,v=>v = .bool (decide (B≤m))
 | _,v=>True
theorem hs32 {cd:Code} (hc:(Tryz.f8.body).bind (Es 32)=some cd) {r:Regs} {h:Heap} {Q:Out→Regs→Heap→Prop} {cb:Nat} {T B:Int} {c:Cfg}
  (r3:rg r 3 = .ptr cb 0) (r15:rg r 15 = .int .i64 B) (r17:rg r 17 = .int .i64 T)
  (gc:h.get cb=some [.int .i64 c.k,.int .i64 c.m,.int .i64 c.sh,.int .i64 c.st,.int .i64 c.sl])
  (hQ:∀ r',rg r' 6 = .int .i64 T→rg r' 7 = .bool (decide (B≤c.m))→Q .norm r' h):wpc Tryz.prog cd Q r h:=by
 simp [Tryz.f8,Es] at hc
 subst hc
 refine Gf (fun _ _ h'=>h=h') (HsV cb T B c.m) (by kernel_rfl) rfl ?_ ?_
 ·rintro L r2 _ rfl cl hr
  have q3:rg r2 3 = .ptr cb 0:=(Db hr (by kernel_rfl)).trans r3
  have q15:rg r2 15 = .int .i64 B:=(Db hr (by kernel_rfl)).trans r15
  have q17:rg r2 17 = .int .i64 T:=(Db hr (by kernel_rfl)).trans r17
  refine ⟨?_,?_,?_,?_,?_,?_,?_,trivial⟩
  all_goals (intro hL hd;simp [DepL,VL,HsV,Region.binds] at hd)
  ·simp [q17,HsV]
  ·simp [q15,HsV]
  ·simp [q3,A8,HsV]
  ·simp [hd,gc,HsV]
  ·simp [hd,HsV]
  ·simp [hd,HsV]
  ·simp [hd,HsV]
 ·rintro L r2 _ hall rfl hr hA
  obtain ⟨_,_,_,_,_,h5,h6,_⟩:=hA
  simp [VL,HsV] at h5 h6
  exact hQ r2 h5 (by simpa using h6)
theorem Afh {P:Program} {cd:Code} {Q:Out→Regs→Heap→Prop} {r:Regs} {h:Heap} (n:Nat) (M:Regs→Heap→Prop) (h1:wpc P cd (fun o r' h'=>o = .exit n∧M r' h') r h) (h2:∀ r' h',M r' h'→Q (.exit n) r' h'):wpc P cd Q r h :=
 Pj cd _ _ (by rintro o r' h' ⟨rfl,k⟩;exact h2 _ _ k) r h h1
theorem Ac1 (H:LawV p q nb cells ps pv c 0 a sq E hp) (hC:As c) (hsm:c.k+c.m≤7∧c.st≤6∧c.sl≤4) (X0:EX c a sq L (fun _ _=>false)) {l:List HuD} (hl:l.length≤12) (hw:∀ x∈l,HuW x) :
  CSem Tryz.prog 8 [CfA c,.ptr p 0,TR HuC l] hp (HurQ p q nb cells ps pv c a.disks.length sq L E hp):=by
 refine CSem.body hm Tryz.func8 rfl (by kernel_rfl) (by kernel_rfl) (by simp [Tryz.ntmps8]) ?_
 have haggC:aggT Tryz.prog 23=some true:=by kernel_rfl
 have hzC:szT Tryz.prog 23=some 5:=by kernel_rfl
 have haggH:aggT Tryz.prog 72=some true:=by kernel_rfl
 have hzH:szT Tryz.prog 72=some 4:=by kernel_rfl
 have hzzH:Au Tryz.prog 72=some (.agg [.int .i64 0,.int .i64 0,S [],.bool false]):=by kernel_rfl
 have hel:(elT Tryz.prog 25).isSome=true:=by kernel_rfl
 have hez:(elT Tryz.prog 25).bind (szT Tryz.prog)=some 4:=by kernel_rfl
 have hagg:aggT Tryz.prog 74=some true:=by kernel_rfl
 have hz5:szT Tryz.prog 74=some 5:=by kernel_rfl
 have hzB:Au Tryz.prog 74=some (.agg [.int .i64 0,.int .i64 0,.int .i64 0,.int .i64 0,S []]):=by kernel_rfl
 have hcC:(CfA c).cells=[.int .i64 c.k,.int .i64 c.m,.int .i64 c.sh,.int .i64 c.st,.int .i64 c.sl]:=rfl
 have h0:=Bk hC
 have hD:=H.len
 generalize hDe:a.disks.length=D at hD ⊢
 obtain ⟨Z,hZe⟩:∃ Z:Nat,Z=1+c.sl.toNat+c.st.toNat:=⟨_,rfl⟩
 have hZ:(Z:Int)=1+c.sl+c.st:=by omega
 have hDZ:D * Z≤7 * 11:=Nat.mul_le_mul (by omega) (by omega)
 have hDZi:((D * Z:Nat):Int)=(D:Int) * Z:=by push_cast;rfl
 refine Eg (fun r h=>rg r 1 = .ptr p 0∧rg r 2=TR HuC l∧rg r 3 = .ptr hp.next 0∧h=hp.alloc [.int .i64 c.k,.int .i64 c.m,.int .i64 c.sh,.int .i64 c.st,.int .i64 c.sl]) ?_ (by simp [hcC])
 rintro r _ ⟨r1,r2,r3,rfl⟩
 have hE:∀ x,E x→x < hp.next:=fun x hx=>H.lt hx
 obtain ⟨H1,gc,F1⟩:=H.box1 [.int .i64 c.k,.int .i64 c.m,.int .i64 c.sh,.int .i64 c.st,.int .i64 c.sl]
 generalize hp.alloc [.int .i64 c.k,.int .i64 c.m,.int .i64 c.sh,.int .i64 c.st,.int .i64 c.sl]=h1 at H1 gc F1 ⊢
 generalize hp.next=cb at r3 H1 gc hE ⊢
 have hwD:IntKind.i64.wrap (c.k+c.m)=(D:Int):=by rw [wrap64 (by omega) (by omega)];omega
 refine Eg (fun r h=>rg r 1 = .ptr p 0∧rg r 2=TR HuC l∧rg r 3 = .ptr cb 0∧rg r 8 = .sl h1.next 0 D D 1∧h=h1.alloc (List.replicate D (.bool false))) ?_ (by simp [r1,r2,r3,A8,gc,hwD];omega)
 clear r1 r2 r3
 rintro r _ ⟨r1,r2,r3,r8,rfl⟩
 have hbb:=Heap.Ah gc
 obtain ⟨H2,gb,F2⟩:=H1.box1 (List.replicate D (.bool false))
 have gc:=(F2 cb (.inr rfl)).trans gc
 generalize h1.alloc (List.replicate D (.bool false))=h2 at H2 gb F2 gc ⊢
 generalize h1.next=bb at r8 H2 gb hbb ⊢
 have hgb:=Heap.Ah gb
 have hwM:IntKind.i64.wrap ((D:Int) * (1+c.sl+c.st))=((D * Z:Nat):Int):=by rw [←hZ,←hDZi,wrap64 (by omega) (by omega)]
 rw [C8]
 refine Fb (fun r h=>rg r 1 = .ptr p 0∧rg r 2=TR HuC l∧rg r 3 = .ptr cb 0∧rg r 8 = .sl bb 0 D D 1∧rg r 9 = .sl h2.next 0 (D * Z) (D * Z) 1∧h=h2.alloc (List.replicate (D * Z) (.bool false))) ?_ ?_
 ·refine Bh 8 (by kernel_rfl) ?_
  simp [r1,r2,r3,r8,A8,gc,hwD,Ab haggC,hzC,takeN]
  refine Cp.use (x:= .int .i64 (1+c.sl+c.st)) (Cz hC _) ?_
  simp [r1,r2,r3,r8,hwM]
  have hDZt:((D:Int) * Z).toNat=D * Z:=by rw [←hDZi,Int.toNat_natCast]
  rw [hDZt]
  exact ⟨⟨by omega,by omega⟩,rfl,rfl⟩
 clear r1 r2 r3 r8
 rintro r _ ⟨r1,r2,r3,r8,r9,rfl⟩
 obtain ⟨H3,gg,F3⟩:=H2.box1 (List.replicate (D * Z) (.bool false))
 have gc:=(F3 cb (.inl (.inr rfl))).trans gc
 have gb:=(F3 bb (.inr rfl)).trans gb
 generalize h2.alloc (List.replicate (D * Z) (.bool false))=h3 at H3 gg F3 gc gb ⊢
 generalize h2.next=gbk at r9 H3 gg hgb ⊢
 have F:=F1.trans ((F2.less fun x hx=> .inl hx).trans (F3.less fun x hx=> .inl (.inl hx)))
 clear F1 F2 F3 H1 H2
 have hgc:=Heap.Ah gc
 rw [De,C8]
 refine Eg (fun r' h'=>(∀ t,t < 10→rg r' t=rg r t)∧rg r' 10 = .int .i64 0∧h'=h3) ?_ ?_
 rotate_left
 ·simp
  intro t ht h
  omega
 rintro r' _ ⟨old,r10,rfl⟩
 have r1:=(old 1 (by decide)).trans r1
 have r2:=(old 2 (by decide)).trans r2
 have r3:=(old 3 (by decide)).trans r3
 have r8:=(old 8 (by decide)).trans r8
 have r9:=(old 9 (by decide)).trans r9
 rw [Qn]
 refine Am (HuI p q nb cells ps pv cb bb gbk c D Z sq L l E hp) (l.length - ·) ?_ 0 ?_
 rotate_left
 ·exact ⟨by omega,r1,r2,r3,r8,r9,by simpa using r10,gc,⟨a,fun _ _=>false,List.replicate D false,H3,X0,by rw [gb,List.map_replicate],by rw [gg,A7a,List.map_replicate],List.length_replicate,fun _ _ h=>(by cases h),hDe⟩,F⟩
 clear F H3 gg gc gb r1 r2 r3 r8 r9 r10 X0 H old
 rintro i r h3' J
 rcases Nat.lt_or_eq_of_le J.le with hlt|heq
 ·have hlt':(i:Int) < l.length:=by omega
  have hw1:IntKind.i64.wrap ((i:Int)+1)=(i:Int)+1:=wrap64 (by omega) (by omega)
  have r2:=J.r2
  have r10:=J.r10
  rw [C8]
  refine Fb (fun r' h'=>(∀ t,t < 11→rg r' t=rg r t)∧h3'=h') ?_ ?_
  ·simp [r2,r10,hlt',Ff hel]
   intro t ht
   repeat rw [if_neg (by omega)]
  rintro r' _ ⟨old,rfl⟩
  rw [De,C8]
  obtain ⟨le,r1,r2,r3,r8,r9,r10,gc,ex,F⟩:=J
  have J':HuI p q nb cells ps pv cb bb gbk c D Z sq L l E hp i r' h3':=⟨le,(old 1 (by decide)).trans r1,(old 2 (by decide)).trans r2,(old 3 (by decide)).trans r3,(old 8 (by decide)).trans r8,(old 9 (by decide)).trans r9,(old 10 (by decide)).trans r10,gc,ex,F⟩
  refine Afg rfl hC hw hD hZ hZe hDZ hE hbb hgb J' hlt (fun r'' h'' K=> ?_) fun r'' h'' k6 k7=> ?_
  ·have o2:∀ t,t < 11→rg r'' t=rg r t:=fun t ht=>(K.old t ht).trans (old t ht)
   have q10:=(o2 10 (by decide)).trans r10
   simp [q10,hw1]
   exact ⟨i+1,by omega,by omega,by simpa using (o2 1 (by decide)).trans r1,by simpa using (o2 2 (by decide)).trans r2,by simpa using (o2 3 (by decide)).trans r3,by simpa using (o2 8 (by decide)).trans r8,by simpa using (o2 9 (by decide)).trans r9,by simp,K.gc,K.ex,K.F⟩
  ·simp [k6,k7]
   exact .inl ⟨0,rfl⟩
 ·have r2:=J.r2
  have r10:=J.r10
  have hge:¬((i:Int) < l.length):=by omega
  rw [C8]
  refine Afh 0 (fun r' h'=>(∀ t,t < 11→rg r' t=rg r t)∧h3'=h') ?_ ?_
  ·simp [r2,r10,hge,Ff hel]
   intro t ht
   repeat rw [if_neg (by omega)]
  rintro r' _ ⟨old,rfl⟩
  obtain ⟨le,r1,r2,r3,r8,r9,r10,gc,⟨a',X,bd,H,EXX,gb',gg,hbd,hX,haD⟩,F⟩:=J
  simp only [Ac2,Rnd,Blk,if_true,De]
  refine Eg (fun r'' h''=>(∀ t,t < 11→rg r'' t=rg r t)∧rg r'' 15 = .int .i64 0∧h3'=h'') ?_ ?_
  rotate_left
  ·simp
   intro t ht
   repeat rw [if_neg (by omega)]
   exact old t ht
  clear old
  rintro r' _ ⟨old,q15,rfl⟩
  rw [C8]
  refine Eg (fun r'' h''=>(∀ t,t < 11→rg r'' t=rg r t)∧rg r'' 15 = .int .i64 0∧rg r'' 16 = .int .i64 0∧h3'=h'') ?_ ?_
  rotate_left
  ·simp [q15]
   intro t ht
   repeat rw [if_neg (by omega)]
   exact old t ht
  clear old
  rintro r' _ ⟨old,q15,q16,rfl⟩
  have q8:=(old 8 (by decide)).trans r8
  rw [←hbd] at q8
  refine Ajv rfl (bb:=bb) (bd:=bd) (by omega) q8 q15 q16 gb' fun r2' o2 k15=> ?_
  rw [De]
  refine Eg (fun r'' h''=>(∀ t,t < 11→rg r'' t=rg r t)∧rg r'' 15 = .int .i64 (bads bd:Nat)∧rg r'' 17 = .int .i64 0∧h3'=h'') ?_ ?_
  rotate_left
  ·simp [k15]
   intro t ht
   repeat rw [if_neg (by omega)]
   exact (o2 t (by omega)).trans (old t ht)
  clear o2 old q15 q16 q8 k15
  rintro r' _ ⟨old,q15,q17,rfl⟩
  rw [C8]
  refine Eg (fun r'' h''=>(∀ t,t < 11→rg r'' t=rg r t)∧rg r'' 15 = .int .i64 (bads bd:Nat)∧rg r'' 17 = .int .i64 0∧rg r'' 18 = .int .i64 0∧h3'=h'') ?_ ?_
  rotate_left
  ·simp [q15,q17]
   intro t ht
   repeat rw [if_neg (by omega)]
   exact old t ht
  clear old q15 q17
  rintro r' _ ⟨old,q15,q17,q18,rfl⟩
  have q9:=(old 9 (by decide)).trans r9
  have q3:=(old 3 (by decide)).trans r3
  rw [hZe] at q9 gg hDZ
  refine Ajw rfl hC (gb:=gbk) (cb:=cb) (D:=D) (by omega) q3 q9 q17 q18 gc gg fun r2' o2 k17=> ?_
  have k15:=(o2 15 (by decide)).trans q15
  have k3:=(o2 3 (by decide)).trans q3
  rw [De,C8]
  refine hs32 rfl (c:=c) k3 k15 k17 gc fun r' k6 k7=> ?_
  by_cases hm:((bads bd:Nat):Int)≤c.m
  ·rw [decide_eq_true hm] at k7
   simp [k6,k7]
   exact .inr ⟨a',X,bd,rfl,H.less fun x hx=> .inl (.inl (.inl hx)),F,EXX,by omega,hX,hm,haD⟩
  ·rw [decide_eq_false hm] at k7
   simp [k6,k7]
   exact .inl ⟨_,rfl⟩
end
end Go.Proofs.YtpabfpccpbakfaaGreatDoor.X
