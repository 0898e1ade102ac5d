/-
  law17.hurts: its loops.
-/
import Derived.Test.YtpabfpccpbakfaaGreatDoorV82
import Derived.Test.YtpabfpccpbakfaaGreatDoorV69
import Derived.Test.YtpabfpccpbakfaaGreatDoorP24
namespace Go.Proofs.YtpabfpccpbakfaaGreatDoor.X
open Go.RowKit F
set_option maxRecDepth 100000
set_option linter.unusedSimpArgs false
set_option linter.unusedVariables false
theorem A9w (x:HuD):(HuC x).length=4:=rfl
def Lj (n:Nat):Code→Option Code
 | .seq a b=>match Lj n a with
  | some c=>some c
  | none=>Lj n b
 | .cond _ a b=>match Lj n a with
  | some c=>some c
  | none=>Lj n b
 | .block m a=>if m=n then some (.block m a) else Lj n a
 | .loop a=>Lj n a
 | _=>none
theorem Cz {c:Cfg} (hC:As c) (h:Heap):CSem Tryz.prog 27 [CfA c] h fun x h'=>x = .int .i64 (1+c.sl+c.st)∧h'=h:=(Ly hC).call (k:=2) (by simp [CfA,snap,mapL])
theorem A7q {c:Cfg} (hC:As c) (h:Heap):CSem Tryz.prog 28 [CfA c] h fun x h'=>x = .int .i64 (c.k * c.sh+42)∧h'=h:=(Rk hC).call (k:=2) (by simp [CfA,snap,mapL])
structure HbI (bd:List Bool) (H0:Heap) (r0:Regs) (i:Nat) (r:Regs) (hp:Heap):Prop where
 le:i≤bd.length
 old:∀ t,t < 15→rg r t=rg r0 t
 r15:rg r 15 = .int .i64 (bads (bd.take i):Nat)
 r16:rg r 16 = .int .i64 i
 h:H0=hp
theorem Ajv {cd:Code} (hc:(Tryz.f8.body).bind (Lj 4)=some cd) {r0:Regs} {H:Heap} {Q:Out→Regs→Heap→Prop} {bb:Nat} {bd:List Bool} (hl:bd.length < 2 ^ 20) (r8:rg r0 8 = .sl bb 0 bd.length bd.length 1) (r15:rg r0 15 = .int .i64 0) (r16:rg r0 16 = .int .i64 0) (g:H.get bb=some (bd.map AV.bool))
  (hQ:∀ r,(∀ t,t < 15→rg r t=rg r0 t)→rg r 15 = .int .i64 (bads bd:Nat)→Q .norm r H):wpc Tryz.prog cd Q r0 H:=by
 simp [Tryz.f8,Lj] at hc
 subst hc
 refine Am (HbI bd H r0) (bd.length - ·) ?_ 0 ?_
 rotate_left
 ·exact ⟨by omega,fun _ _=>rfl,by simpa [bads] using r15,by simpa using r16,rfl⟩
 rintro i r h ⟨le,old,q15,q16,rfl⟩
 have q8:=(old 8 (by decide)).trans r8
 rcases Nat.lt_or_eq_of_le le with hlt|heq
 ·have hlt':(i:Int) < bd.length:=by omega
  have hw1:IntKind.i64.wrap ((i:Int)+1)=(i:Int)+1:=wrap64 (by omega) (by omega)
  have hbi:bads (bd.take i)≤i:=by
   have:=List.countP_le_length (p:=fun b:Bool=>b) (l:=bd.take i)
   rw [List.length_take] at this
   unfold bads
   omega
  have hw2:IntKind.i64.wrap ((bads (bd.take i):Int)+1)=(bads (bd.take i):Int)+1:=wrap64 (by omega) (by omega)
  have hs:=Abn hlt
  by_cases hb:bd[i]=true
  ·rw [if_pos hb] at hs
   simp [q8,q15,q16,g,hlt,hlt',hb,hw1,hw2]
   exact ⟨i+1,by omega,by omega,fun t ht=>by rw [←old t ht];simp;repeat rw [if_neg (by omega)],by simp [hs],by simp,rfl⟩
  ·rw [if_neg hb] at hs
   have hb':bd[i]=false:=by simpa using hb
   simp [q8,q15,q16,g,hlt,hlt',hb',hw1]
   exact ⟨i+1,by omega,by omega,fun t ht=>by rw [←old t ht];simp;repeat rw [if_neg (by omega)],by simp [hs,q15],by simp,rfl⟩
 ·subst heq
  simp [q8,q16]
  rw [List.take_length] at q15
  exact hQ _ (fun t ht=>by rw [←old t ht];simp;repeat rw [if_neg (by omega)]) (by simpa using q15)
structure HgI (X:Nat→Nat→Bool) (sl S M:Nat) (H0:Heap) (r0:Regs) (i:Nat) (r:Regs) (hp:Heap):Prop where
 le:i≤M
 old:∀ t,t < 16→rg r t=rg r0 t
 r17:rg r 17 = .int .i64 (cntG X sl S i:Nat)
 r18:rg r 18 = .int .i64 i
 h:H0=hp
theorem Ajw {cd:Code} (hc:(Tryz.f8.body).bind (Lj 6)=some cd) {r0:Regs} {H:Heap} {Q:Out→Regs→Heap→Prop} {gb cb D:Nat} {c:Cfg} {X:Nat→Nat→Bool} (hC:As c) (hl:D * (1+c.sl.toNat+c.st.toNat) < 2 ^ 40)
  (r3:rg r0 3 = .ptr cb 0) (r9:rg r0 9 = .sl gb 0 (D * (1+c.sl.toNat+c.st.toNat)) (D * (1+c.sl.toNat+c.st.toNat)) 1) (r17:rg r0 17 = .int .i64 0) (r18:rg r0 18 = .int .i64 0)
  (gc:H.get cb=some [.int .i64 c.k,.int .i64 c.m,.int .i64 c.sh,.int .i64 c.st,.int .i64 c.sl]) (g:H.get gb=some ((Er X D (1+c.sl.toNat+c.st.toNat)).map AV.bool))
  (hQ:∀ r,(∀ t,t < 16→rg r t=rg r0 t)→rg r 17 = .int .i64 (totX X D c.sl.toNat c.st.toNat:Nat)→Q .norm r H):wpc Tryz.prog cd Q r0 H:=by
 simp [Tryz.f8,Lj] at hc
 subst hc
 have haggC:aggT Tryz.prog 23=some true:=by kernel_rfl
 have hzC:szT Tryz.prog 23=some 5:=by kernel_rfl
 have h0:=Bk hC
 generalize hM:D * (1+c.sl.toNat+c.st.toNat)=M at *
 refine Am (HgI X c.sl.toNat (1+c.sl.toNat+c.st.toNat) M H r0) (M - ·) ?_ 0 ?_
 rotate_left
 ·exact ⟨by omega,fun _ _=>rfl,by simpa [cntG] using r17,by simpa using r18,rfl⟩
 rintro i r h ⟨le,old,q17,q18,rfl⟩
 have q3:=(old 3 (by decide)).trans r3
 have q9:=(old 9 (by decide)).trans r9
 have hS0:(1+c.sl+c.st:Int)=((1+c.sl.toNat+c.st.toNat:Nat):Int):=by omega
 rcases Nat.lt_or_eq_of_le le with hlt|heq
 ·have hlt':(i:Int) < M:=by omega
  have hw1:IntKind.i64.wrap ((i:Int)+1)=(i:Int)+1:=wrap64 (by omega) (by omega)
  have hci:=Ajk X c.sl.toNat (1+c.sl.toNat+c.st.toNat) i
  have hw2:IntKind.i64.wrap ((cntG X c.sl.toNat (1+c.sl.toNat+c.st.toNat) i:Int)+1)=(cntG X c.sl.toNat (1+c.sl.toNat+c.st.toNat) i:Int)+1:=wrap64 (by omega) (by omega)
  have hs:=Abm X c.sl.toNat (1+c.sl.toNat+c.st.toNat) i
  have hx:(Er X D (1+c.sl.toNat+c.st.toNat))[i]? = some (X (i / (1+c.sl.toNat+c.st.toNat)) (i % (1+c.sl.toNat+c.st.toNat))):=Wz (by omega)
  have hxl:(Er X D (1+c.sl.toNat+c.st.toNat)).length=M:=by rw [Md,hM]
  generalize Er X D (1+c.sl.toNat+c.st.toNat)=lx at g hx hxl
  have hx':lx[i]'(by omega)=X (i / (1+c.sl.toNat+c.st.toNat)) (i % (1+c.sl.toNat+c.st.toNat)):=by
   rw [List.getElem?_eq_getElem (by omega)] at hx
   exact Option.some.inj hx
  generalize hSg:1+c.sl.toNat+c.st.toNat=S at *
  have hSne:¬(S:Int)=0:=by omega
  have hrem:intX .rem .i64 (i:Int) (S:Int)=some (.int .i64 ((i:Int) % (S:Int))):=by
   rw [A3x (by omega),Int.tmod_eq_emod_of_nonneg (by omega)]
  have hms:((i % S:Nat):Int)=(i:Int) % (S:Int):=by push_cast;rfl
  simp [q3,q18,q9,hlt',gc,Ab haggC,hzC,takeN]
  refine (Cz hC _).use ?_
  rw [hS0]
  by_cases hb:X (i / S) (i % S)=true
  rotate_left
  ·have hb':X (i / S) (i % S)=false:=by simpa using hb
   rw [hb'] at hs hx'
   simp [hrem,q9,q18,q17,g,hlt,hxl,hx',hw1]
   exact ⟨i+1,by omega,by omega,fun t ht=>by rw [←old t ht];simp;repeat rw [if_neg (by omega)],by simp [hs,q17],by simp,rfl⟩
  rw [hb] at hs hx'
  by_cases h0':i % S=0
  ·have h0i:(i:Int) % (S:Int)=0:=by rw [←hms];omega
   rw [h0'] at hs
   simp [hrem,q9,q18,q17,g,hlt,hxl,hx',hw1,hw2,h0i]
   exact ⟨i+1,by omega,by omega,fun t ht=>by rw [←old t ht];simp;repeat rw [if_neg (by omega)],by simp [hs],by simp,rfl⟩
  have h0i:¬(i:Int) % (S:Int)=0:=by rw [←hms];omega
  by_cases h1:c.sl.toNat < i % S
  ·have h1i:c.sl < (i:Int) % (S:Int):=by rw [←hms];omega
   rw [if_pos (by simp [h1])] at hs
   simp [hrem,q3,q9,q18,q17,g,hlt,hxl,hx',hw1,hw2,h0i,h1i,A8,gc]
   exact ⟨i+1,by omega,by omega,fun t ht=>by rw [←old t ht];simp;repeat rw [if_neg (by omega)],by simp [hs],by simp,rfl⟩
  ·have h1i:¬c.sl < (i:Int) % (S:Int):=by rw [←hms];omega
   rw [if_neg (by simp [h1,h0'])] at hs
   simp [hrem,q3,q9,q18,q17,g,hlt,hxl,hx',hw1,h0i,h1i,A8,gc]
   exact ⟨i+1,by omega,by omega,fun t ht=>by rw [←old t ht];simp;repeat rw [if_neg (by omega)],by simp [hs,q17],by simp,rfl⟩
 ·subst heq
  rw [←hM,Aez] at q17
  simp [q9,q18]
  exact hQ _ (fun t ht=>by rw [←old t ht];simp;repeat rw [if_neg (by omega)]) (by simpa using q17)
structure HmI (gb:Nat) (X:Nat→Nat→Bool) (d n:Nat) (al:Bool) (Z D:Nat) (H0:Heap) (r0:Regs) (j:Nat) (r:Regs) (hp:Heap):Prop where
 le:j≤Z
 old:∀ t,t < 14→rg r t=rg r0 t
 r14:rg r 14 = .int .i64 j
 g:hp.get gb=some ((Er (mrkX X d al n j) D Z).map AV.bool)
 K:Keep (fun x=>x≠gb) H0 hp
theorem Ajx {cd:Code} (hc:(Tryz.f8.body).bind (Lj 2)=some cd) {r0:Regs} {H:Heap} {Q:Out→Regs→Heap→Prop} {gb cb ob Z D d n:Nat} {c:Cfg} {X:Nat→Nat→Bool} {s:Txt} {al:Bool} (hC:As c) (hl:D * Z < 2 ^ 40) (hS:(Z:Int)=1+c.sl+c.st) (hd:d < D)
  (r3:rg r0 3 = .ptr cb 0) (r9:rg r0 9 = .sl gb 0 (D * Z) (D * Z) 1) (r11:rg r0 11 = .ptr ob 0) (r14:rg r0 14 = .int .i64 0) (hn1:cb≠gb) (hn2:ob≠gb)
  (gc:H.get cb=some [.int .i64 c.k,.int .i64 c.m,.int .i64 c.sh,.int .i64 c.st,.int .i64 c.sl]) (go:H.get ob=some [.int .i64 d,.int .i64 n,S s,.bool al]) (g:H.get gb=some ((Er X D Z).map AV.bool))
  (hQ:∀ r hp,(∀ t,t < 14→rg r t=rg r0 t)→hp.get gb=some ((Er (mrkX X d al n Z) D Z).map AV.bool)→Keep (fun x=>x≠gb) H hp→Q .norm r hp):wpc Tryz.prog cd Q r0 H:=by
 simp [Tryz.f8,Lj] at hc
 subst hc
 have haggC:aggT Tryz.prog 23=some true:=by kernel_rfl
 have hzC:szT Tryz.prog 23=some 5:=by kernel_rfl
 have h0:=Bk hC
 refine Am (HmI gb X d n al Z D H r0) (Z - ·) ?_ 0 ?_
 rotate_left
 ·exact ⟨by omega,fun _ _=>rfl,by simpa using r14,g,Keep.refl _ _⟩
 rintro j r h ⟨le,old,q14,gg,K⟩
 have q3:=(old 3 (by decide)).trans r3
 have q9:=(old 9 (by decide)).trans r9
 have q11:=(old 11 (by decide)).trans r11
 have gc':=K.got hn1 gc
 have go':=K.got hn2 go
 rcases Nat.lt_or_eq_of_le le with hlt|heq
 ·have hlt':(j:Int) < 1+c.sl+c.st:=by omega
  have hw1:IntKind.i64.wrap ((j:Int)+1)=(j:Int)+1:=wrap64 (by omega) (by omega)
  simp [q3,q14,gc',Ab haggC,hzC,takeN]
  refine (Cz hC _).use ?_
  have hij:=ds_lt hd hlt
  have hdm:(d:Int) * (1+c.sl+c.st)=(d:Int) * Z:=by rw [hS]
  have hcz:((d * Z+j:Nat):Int)=(d:Int) * Z+j:=by push_cast;rfl
  have hcz2:((D * Z:Nat):Int)=(D:Int) * Z:=by push_cast;rfl
  have hcz3:((d * Z:Nat):Int)=(d:Int) * Z:=by push_cast;rfl
  have hw2:IntKind.i64.wrap ((d:Int) * Z)=(d:Int) * Z:=wrap64 (by omega) (by omega)
  have hw3:IntKind.i64.wrap ((d:Int) * Z+(j:Int))=(d:Int) * Z+j:=wrap64 (by omega) (by omega)
  have hia:Bx Tryz.prog 27 (.sl gb 0 (D * Z) (D * Z) 1) (.int .i64 ((d:Int) * Z+j))=some (.ptr gb (d * Z+j)):=by
   rw [E7 (z:=1) (by kernel_rfl) (by omega) (by rw [hcz2];omega),←hcz,Int.toNat_natCast]
   simp
  have hLl:((Er (mrkX X d al n j) D Z).map AV.bool).length=D * Z:=by rw [List.length_map,Md]
  have hgb:=Heap.Ah gg
  have st:∀ (hcond:al=true∨j=n),((Er (mrkX X d al n j) D Z).map AV.bool).set (d * Z+j) (.bool true)=(Er (mrkX X d al n (j+1)) D Z).map AV.bool:=fun hcond=>by
   rw [mrkX,if_pos hcond,←Abk hd hlt,List.map_set]
  by_cases hcond:al=true∨j=n
  ·by_cases ha:al=true
   ·subst ha
    simp [hlt',q11,A8,go']
    refine Bh 9 (by kernel_rfl) ?_
    simp [q9,q11,A8,go',q3,gc',Ab haggC,hzC,takeN]
    refine Cp.use (x:= .int .i64 (1+c.sl+c.st)) (Cz hC _) ?_
    simp [hdm,hw2,q14,hw3,hia,hij,gg,hgb,hLl,hw1]
    exact ⟨j+1,by omega,by omega,fun t ht=>by rw [←old t ht];simp;repeat rw [if_neg (by omega)],by simp,by rw [←st hcond];exact Heap.Ac gg,K.put _ (fun h=>h rfl)⟩
   ·have hjn:j=n:=hcond.resolve_left ha
    have ha':al=false:=by simpa using ha
    subst ha'
    subst hjn
    simp [hlt',q11,A8,go',q14]
    refine Bh 9 (by kernel_rfl) ?_
    simp [q9,q11,A8,go',q3,gc',Ab haggC,hzC,takeN]
    refine Cp.use (x:= .int .i64 (1+c.sl+c.st)) (Cz hC _) ?_
    simp [hdm,hw2,q14,hw3,hia,hij,gg,hgb,hLl,hw1]
    exact ⟨j+1,by omega,by omega,fun t ht=>by rw [←old t ht];simp;repeat rw [if_neg (by omega)],by simp,by rw [←st hcond];exact Heap.Ac gg,K.put _ (fun h=>h rfl)⟩
  ·have ha:al=false:=by cases al;rfl;exact (hcond (.inl rfl)).elim
   subst ha
   have hjn:¬j=n:=fun e=>hcond (.inr e)
   have hjn':¬(j:Int)=n:=by omega
   have e:mrkX X d false n (j+1)=mrkX X d false n j:=by rw [mrkX,if_neg hcond]
   simp [hlt',q11,A8,go',q14,hjn',hw1]
   exact ⟨j+1,by omega,by omega,fun t ht=>by rw [←old t ht];simp;repeat rw [if_neg (by omega)],by simp,by rw [e];exact gg,K⟩
 ·subst heq
  have hge:¬((j:Int) < 1+c.sl+c.st):=by omega
  simp [q3,q14,gc',Ab haggC,hzC,takeN]
  refine (Cz hC _).use ?_
  simp [hge]
  exact hQ _ _ (fun t ht=>by rw [←old t ht];simp;repeat rw [if_neg (by omega)]) gg K
end Go.Proofs.YtpabfpccpbakfaaGreatDoor.X
