/-
  Texts of a proof, as one: V41, V42, V43, V44, V45, V46, V47, V48.
-/
import Derived.Test.YtmbndhciflilbaaGreatDoorVC
namespace Go.Proofs.YtmbndhciflilbaaGreatDoor.X
open Go.RowKit F
set_option maxRecDepth 100000
set_option linter.unusedSimpArgs false
set_option linter.unusedVariables false
structure VolB (k:Nat) (a:Arr) (c:Cfg):Prop where
 cf:Ax c
 q:ArrQ k a
 few:k < 2 ^ 29
theorem VolB.arr {k:Nat} {a:Arr} {c:Cfg} (B:VolB k a c):ArrB k a:=B.q.b
theorem VolB.short {k:Nat} {a:Arr} {c:Cfg} (B:VolB k a c):ArrS a:=fun d p=>by have:=B.q.short d p;omega
theorem VolB.tx {k:Nat} {a:Arr} {c:Cfg} (B:VolB k a c) (id d p:Int):(Cn a id d p).1.tx.length≤2 ^ 20:=by have:=B.q.tx id d p;omega
section
variable {pa q n:Nat} {cells:List AV} {ps:List Nat} {a:Arr} {R:Nat→Prop} {h:Heap} {pv:Nat} {c:Cfg} {id sq:Int} {k:Nat}
theorem Ry (a:Arr) (id:Int) (c:Cfg) (n:Int):(stE a id c n).length=a.disks.length:=by simp [stE,Ux]
theorem Ahw (a:Arr) (id:Int) (c:Cfg) (n:Int):(stS a id c n).length=a.disks.length:=by simp [stS,Ux]
theorem Abc (B:VolB k a c) (hv:h.get pv=some (volC pa c id sq)) (A:At (ArrI pa q n cells ps a) R h) (hlp:h.lp=none) (nn:Int) :
  CSem Tryz.prog 37 [.ptr pv 0,.int .i64 nn] h fun x h'=>x=U5 (Cx a id c nn)∧h'=h:=by
 refine CSem.frz (k:=4) (Q:=fun x=>x=U5 (Cx a id c nn)) ?_
 refine CSem.body hm Tryz.func37 rfl κ κ (by simp [Tryz.ntmps37]) ?_
 have hfew:=B.arr.few
 have hzS:B7 Tryz.prog 76=some (.agg [.nilSl,.nilSl]):=by kernel_rfl
 have hz2:szT Tryz.prog 76=some 2:=by kernel_rfl
 have haggS:aggT Tryz.prog 76=some true:=by kernel_rfl
 simp [Tryz.f37,hzS,AV.cells]
 generalize hH:h.alloc [.nilSl,.nilSl]=H
 have E:Ext h H:=by rw [←hH];exact (Ext.refl h).alloc _
 have g0:H.get h.next=some [.nilSl,.nilSl]:=by rw [←hH];exact Heap.A9 _ _
 have hnl:=Heap.Ah g0
 have hvH:=E.got hv
 have AH:At (ArrI pa q n cells ps a) R H:=A.ext (ArrI.loc pa q n cells ps a) E
 clear hH
 have eput:∀ zs,Ext h (H.put h.next zs):=fun zs=>E.put (Nat.le_refl _) zs
 have gput:∀ zs,(H.put h.next zs).get h.next=some zs:=fun zs=>by rw [Heap.Ad _ _ _ _ hnl,if_pos rfl]
 by_cases h1:nn < 0
 ·have hl:Cx a id c nn=⟨[],[],0,[],1⟩:=by simp [Cx,h1]
  simp [h1,Ac haggS,hz2,takeN,g0,Aj,putN,hnl,gput,hl,U5,eput]
  exact ⟨⟨rfl,rfl⟩,rfl⟩
 by_cases h2:c.st≤nn
 ·have hl:Cx a id c nn=⟨[],[],0,[],1⟩:=by simp [Cx,h2]
  simp [h1,h2,A8,hvH,volC,Ac haggS,hz2,takeN,g0,Aj,putN,hnl,gput,hl,U5,eput]
  exact ⟨⟨rfl,rfl⟩,rfl⟩
 simp [h1,h2,A8,hvH,volC]
 refine (A7d hvH AH).use ?_
 by_cases h3:a.down=true
 ·have hl:Cx a id c nn=⟨[],[],0,[],9⟩:=by simp [Cx,h1,h2,h3]
  simp [h3,Ac haggS,hz2,takeN,g0,Aj,putN,hnl,gput,hl,U5,eput]
  exact ⟨⟨rfl,rfl⟩,rfl⟩
 simp [h3]
 refine (Qp B.cf hvH AH B.arr (by have:=B.few;omega) B.short (by rw [E.lp];exact hlp) nn).use ?_
 simp [Aj,hz2,putN,g0,hnl]
 generalize hH1:H.put h.next [SL (stS a id c nn),IL (stE a id c nn)]=H1
 have E1:Ext h H1:=by rw [←hH1];exact eput _
 have g1:H1.get h.next=some [SL (stS a id c nn),IL (stE a id c nn)]:=by rw [←hH1];exact gput _
 have hnl1:=Heap.Ah g1
 have hv1:=E1.got hv
 clear hH1
 have hel:=Ry a id c nn
 refine Br 8 κ ?_
 simp [Ac haggS,hz2,takeN,g1,A8,hv1,volC]
 refine D7.use (x:= .int .i64 (epoR c.k (stE a id c nn))) (A7g (stS a id c nn) (stE a id c nn) c.k ω μ μ) ?_
 simp
 have eput1:∀ zs,Ext h (H1.put h.next zs):=fun zs=>E1.put (Nat.le_refl _) zs
 have gput1:∀ zs,(H1.put h.next zs).get h.next=some zs:=fun zs=>by rw [Heap.Ad _ _ _ _ hnl1,if_pos rfl]
 by_cases h4:epoR c.k (stE a id c nn) < 0
 ·have hl:Cx a id c nn=⟨stS a id c nn,stE a id c nn,0,[],10⟩:=by simp [Cx,h1,h2,h3,h4]
  simp [h4,Ac haggS,hz2,takeN,g1,Aj,putN,hnl1,gput1,hl,U5,eput1]
  rfl
 have hl:Cx a id c nn=⟨stS a id c nn,stE a id c nn,epoR c.k (stE a id c nn),ofH (stE a id c nn) (epoR c.k (stE a id c nn)),0⟩:=by simp [Cx,h1,h2,h3,h4]
 simp [h4,Ac haggS,hz2,takeN,g1]
 refine (Xh (stS a id c nn) (stE a id c nn) (epoR c.k (stE a id c nn)) ω μ μ).use ?_
 simp [Ac haggS,hz2,takeN,g1,Aj,putN,hnl1,gput1,hl,U5,eput1]
theorem Ahx {N:Nat} : ∀ (l:Tab),(∀ x∈l,x.length≤N)→l.flatten.length≤N * l.length:=by
 intro l
 induction l with
 | nil=>simp
 | cons a t ih =>
  intro hx
  have h1:=ih (fun x hx'=>hx x (by simp [hx']))
  have h2:=hx a μ
  rw [List.flatten_cons,List.length_append,List.length_cons,Nat.mul_add];omega
theorem Abd {k:Int} {l:Tab} {hs:List Bool} {N:Nat} (h1:∀ x∈l,x.length≤N) (hN:N < 2 ^ 30):(decD k l hs).1.flatten.length < 2 ^ 46:=by
 by_cases hz:decE k l hs=0
 ·obtain ⟨d,hd⟩:=A18 hz
  rw [hd.ok]
  have hM:=hd.may
  have hM1:=hM.1
  have hM2:=hM.2.1
  have hM3:=hM.2.2.2
  have hr:∀ x∈d,x.length≤N:=fun x hx=>by
   rw [hd.row x hx]
   unfold row0
   cases hx0:(left l hs).take k.toNat with
   | nil=>simp
   | cons a t =>
    have ha:a∈left l hs:=List.mem_of_mem_take (by rw [hx0];simp)
    unfold left at ha
    obtain ⟨p,hp,rfl⟩:=List.mem_map.1 ha
    exact h1 _ (List.of_mem_zip (List.mem_filter.1 hp).1).1
  have h3:=Ahx d hr
  have h4:N * d.length≤N * 255:=Nat.mul_le_mul_left _ (by rw [hd.len];omega)
  show d.flatten.length < 2 ^ 46
  omega
 ·simp [decD,hz]
theorem A4c (c:Cfg) (l:Tab) (have_:List Bool) (h:Sm l) (hk:(Lit.int .i64 c.k).wf=true) (hh:have_.length < 2 ^ 48) (hfl:(decD c.k l have_).1.flatten.length < 2 ^ 46) {hp:Heap} {x y:AV} (hx:snap hp true 2 x=some (SL l)) (hy:snap hp true 2 y=some (OL have_)) :
  CSem Tryz.prog 62 [CfA c,x,y] hp fun x' h'=>x'=Mq c l have_∧h'=hp:=(A6d c l have_ h hk hh hfl).call (k:=2) (by simp [hx,hy,CfA])
theorem Abe (B:VolB k a c) (hv:h.get pv=some (volC pa c id sq)) (l:Tab) (es:List Int) (hs:List Bool) (hl:l.length < 2 ^ 40) (hl2:∀ x∈l,x.length≤2 ^ 20) (hh:hs.length < 2 ^ 48) :
  CSem Tryz.prog 38 [.ptr pv 0,.agg [SL l,IL es],OL hs] h fun x h'=>x = .tup [S (M8 c l hs).1,.int .i64 (M8 c l hs).2]∧h'=h:=by
 refine CSem.Me (Q:=fun x=>x = .tup [S (M8 c l hs).1,.int .i64 (M8 c l hs).2]) (fun x hx=>by subst hx;exact ⟨3,_,rfl⟩) ?_
 refine CSem.body hm Tryz.func38 rfl κ κ (by simp [Tryz.ntmps38]) ?_
 have hzC:szT Tryz.prog 23=some 5:=by kernel_rfl
 have haggC:aggT Tryz.prog 23=some true:=by kernel_rfl
 have hsm:Sm l:=⟨hl,fun x hx=>by have:=hl2 x hx;omega⟩
 have hkk:(Lit.int .i64 c.k).wf=true:=by
  have h1:=B.cf.1.1
  have h2:=B.cf.1.2.2.2
  have h3:=B.cf.1.2.1
  simp [Lit.wf,IntKind.min,IntKind.max,IntKind.signed,IntKind.bits]
  omega
 simp [Tryz.f38,AV.cells]
 generalize hH:h.alloc [SL l,IL es]=H
 have E:Ext h H:=by rw [←hH];exact (Ext.refl h).alloc _
 have g0:H.get h.next=some [SL l,IL es]:=by rw [←hH];exact Heap.A9 _ _
 have hvH:=E.got hv
 clear hH
 refine Br 13 κ ?_
 simp [A8,hvH,volC,Ac haggC,hzC,takeN,g0]
 refine D7.use (x:=Mq c l hs) (A4c c l hs hsm hkk hh (Abd hl2 ω) μ μ) ?_
 simp only [Mq,M8]
 generalize Jt c l hs=z
 obtain ⟨t,e⟩:=z
 by_cases he:e=0
 ·simp [he];exact E
 ·simp [he];exact E
theorem A4d {a:Arr} {id:Int} {c:Cfg} {nn:Int} (hS:∀ d p,(Cn a id d p).1.tx.length≤2 ^ 20):∀ x∈(Cx a id c nn).sh,x.length≤2 ^ 20:=by
 have h1:∀ x∈stS a id c nn,x.length≤2 ^ 20:=by
  intro x hx
  obtain ⟨p,hp,rfl⟩:=List.mem_map.1 hx
  obtain ⟨d,_,rfl⟩:=List.mem_map.1 hp
  unfold Cz
  split
  ·exact hS _ _
  ·simp
 unfold Cx
 split
 ·simp
 ·split
  ·simp
  ·split
   ·exact h1
   ·exact h1
theorem Abf (a:Arr) (id:Int) (c:Cfg) (nn:Int):(Cx a id c nn).sh.length≤a.disks.length∧(Cx a id c nn).es.length≤a.disks.length∧(Cx a id c nn).hv.length≤a.disks.length:=by
 have h1:=Ry a id c nn
 have h2:=Ahw a id c nn
 unfold Cx
 split
 ·simp
 ·split
  ·simp
  ·split
   ·exact ⟨by simp [h2],by simp [h1],μ⟩
   ·exact ⟨by simp [h2],by simp [h1],by simp [ofH,h1]⟩
theorem Aap (B:VolB k a c) (hv:h.get pv=some (volC pa c id sq)) (A:At (ArrI pa q n cells ps a) R h) (hlp:h.lp=none) (nn:Int) :
  CSem Tryz.prog 20 [.ptr pv 0,.int .i64 nn] h fun x h'=>x = .tup [S (Gc a id c nn).1,.int .i64 (Gc a id c nn).2]∧h'=h:=by
 refine CSem.Me (Q:=fun x=>x = .tup [S (Gc a id c nn).1,.int .i64 (Gc a id c nn).2]) (fun x hx=>by subst hx;exact ⟨3,_,rfl⟩) ?_
 refine CSem.body hm Tryz.func20 rfl κ κ (by simp [Tryz.ntmps20]) ?_
 have hfew:=B.arr.few
 have hzS:B7 Tryz.prog 76=some (.agg [.nilSl,.nilSl]):=by kernel_rfl
 have hz2:szT Tryz.prog 76=some 2:=by kernel_rfl
 have haggS:aggT Tryz.prog 76=some true:=by kernel_rfl
 simp [Tryz.f20]
 refine (Abc B hv A hlp nn).use ?_
 have hlen:=Abf a id c nn
 have hsh:=A4d (a:=a) (id:=id) (c:=c) (nn:=nn) (B.tx id)
 simp only [U5,Gc]
 generalize Cx a id c nn=L at hlen hsh
 obtain ⟨sh,es,ep,hs,er⟩:=L
 simp only at hlen hsh
 simp [hzS,AV.cells,Aj,hz2,putN,Heap.A9,Heap.Aa]
 generalize hH:Heap.put (Heap.alloc h _) _ _=H
 have E:Ext h H:=by rw [←hH];exact ((Ext.refl h).alloc _).put (Nat.le_refl _) _
 have g0:H.get h.next=some [SL sh,IL es]:=by rw [←hH,Heap.Ad _ _ _ _ μ,if_pos rfl]
 have hvH:=E.got hv
 clear hH
 by_cases he:er=0
 ·simp [he,Ac haggS,hz2,takeN,g0]
  refine (Abe B hvH sh es hs ω hsh ω).use ?_
  simp
  exact E
 ·simp [he]
  exact E
end
theorem CapA.atom {ws:AV} {l:List AV} {h:Heap} {F:Nat→Prop} (w:CapA ws l h F):ws.atom=true:=by
 rcases w with ⟨rfl,_⟩|⟨wb,c,cells,rfl,_⟩<;>rfl
theorem At.ext2 {A:Asn} (L:Loc A) {R:Nat→Prop} {h h':Heap} (a:At A R h) (E:Ext h h'):At A (fun b=>R b∨(h.next≤b∧b < h'.next)) h':=by
 obtain ⟨F,h1,h2⟩:=a
 refine ⟨F,L.keep _ _ _ h1 (fun b hb=>E.get b (L.live _ _ _ h1 hb)),fun b hb=> ?_⟩
 rcases hb with hb|hb
 ·exact ⟨(h2 b hb).1,Nat.lt_of_lt_of_le (h2 b hb).2 E.next⟩
 ·exact ⟨fun hF=>by have:=L.live _ _ _ h1 hF;omega,hb.2⟩
theorem Ext.keep {R:Nat→Prop} {h h':Heap} (E:Ext h h') (hR:∀ b,R b→b < h.next):Keep R h h':=⟨E.next,E.lp,E.gh,fun b hb=>E.get b (hR b hb)⟩
theorem A7h (s:Txt) (z:Int):(cutR s z).1 < 2 ^ 62:=by have:=(Rg s z).2;omega
theorem A4e (s:Txt):(Dy s).1.ep < 2 ^ 62:=by
 have h3:opVl s 3 < 2 ^ 62:=A7h _ _
 unfold Dy
 split
 ·decide
 ·split
  ·decide
  ·split
   ·decide
   ·split
    ·decide
    ·split
     ·decide
     ·exact h3
theorem A4f (a:Arr) (id d p:Int):(Cn a id d p).1.ep < 2 ^ 62:=by
 unfold Cn
 split
 ·unfold Cm
  dsimp only
  split
  ·exact A4e _
  ·show (0:Int) < 2 ^ 62;decide
 ·decide
theorem Abg (a:Arr) (id:Int) (c:Cfg) (n:Int):∀ e∈stE a id c n,e < 2 ^ 62:=by
 intro e he
 obtain ⟨p,hp,rfl⟩:=List.mem_map.1 he
 obtain ⟨d,_,rfl⟩:=List.mem_map.1 hp
 unfold Cz
 split
 ·exact A4f _ _ _ _
 ·decide
theorem Mj {a:Arr} {n:Nat} : ∀ d∈Ab a n,0≤d∧d < n∧a.alive d=true:=by
 intro d hd
 obtain ⟨k,hk,rfl⟩:=List.mem_map.1 hd
 obtain ⟨h1,h2⟩:=List.mem_filter.1 hk
 have:=List.mem_range.1 h1
 exact ⟨ω,ω,h2⟩
theorem Na {k:Nat} {a:Arr} (h:ArrQ k a) (b:BlkD):ArrQ (k+1) (vput a b):=by
 unfold vput
 split
 ·exact h.write _ _ _
 ·exact h.mono ω
@[simp] theorem vput_len (a:Arr) (b:BlkD):(vput a b).disks.length=a.disks.length:=by
 unfold vput
 split<;>simp
theorem Af1 {id pl ep:Int} {l:Tab} : ∀ (ds:List Int) {k:Nat} {a:Arr},ArrQ k a→ArrQ (k+ds.length) (vshL id pl ep l a ds).1
 | [],k,a,h=>h
 | d :: ds,k,a,h=>by
  rw [vshL]
  split
  ·exact (Af1 ds (Na h _)).mono (by simp;omega)
  ·exact (Na h _).mono μ
theorem M9 {k:Nat} {a:Arr} (h:ArrQ k a) (id:Int) (c:Cfg) (n ep:Int) (t:Txt) (ds:List Int):ArrQ (k+ds.length) (vshR a id c n ep t ds).1:=by
 unfold vshR
 split
 ·exact Af1 ds h
 ·exact h.mono ω
theorem A4g {id pl ep:Int} {l:Tab} : ∀ (ds:List Int) (a:Arr),(vshL id pl ep l a ds).1.disks.length=a.disks.length
 | [],a=>rfl
 | d :: ds,a=>by
  rw [vshL]
  split
  ·rw [A4g ds];simp
  ·simp
@[simp] theorem A4h (a:Arr) (id:Int) (c:Cfg) (n ep:Int) (t:Txt) (ds:List Int):(vshR a id c n ep t ds).1.disks.length=a.disks.length:=by
 unfold vshR
 split
 ·exact A4g ds a
 ·rfl
theorem VolB.A1m {k:Nat} {a:Arr} {c:Cfg} (B:VolB k a c) {ds:List Int} (hd:k+ds.length < 2 ^ 29) (id n ep:Int) (t:Txt):VolB (k+ds.length) (vshR a id c n ep t ds).1 c:=⟨B.cf,M9 B.q id c n ep t ds,hd⟩
section
variable {pa q n:Nat} {cells:List AV} {ps:List Nat} {a:Arr} {R:Nat→Prop} {h:Heap} {pv:Nat} {c:Cfg} {id sq:Int} {k:Nat}
end
@[simp] theorem Xj {id:Int} {c:Cfg} : ∀ (ds:List Int) (a:Arr) (m:Int),(Cg id c a m ds).1.disks.length=a.disks.length
 | [],a,m=>rfl
 | d :: ds,a,m=>by
  rw [Cg]
  split
  ·exact Xj ds a m
  ·split
   ·rw [Xj ds];simp
   ·simp
theorem Abh (c:Cfg):(Gx c).length < 2 ^ 46:=by
 have h1:∀ n:Int,(putR n 2).1.length≤2:=by
  intro n
  unfold putR
  split
  ·split
   ·simp
   ·simp [P0]
  ·simp
 have a1:=h1 c.k
 have a2:=h1 c.m
 have a3:=h1 c.sh
 have a4:=h1 c.st
 have a5:=h1 c.sl
 simp only [Gx,J5,List.map_cons,List.map_nil,List.flatten_cons,List.flatten_nil,List.length_append,List.length_cons,List.length_nil]
 omega
structure HdI (pv pa q n:Nat) (cells:List AV) (ps:List Nat) (c:Cfg) (id sq:Int) (k:Nat) (all:List Int) (a0:Arr) (R:Nat→Prop) (h:Heap) (i:Nat) (r:Regs) (hp:Heap):Prop where
 le:i≤all.length
 r0:rg r 0 = .ptr pv 0
 r5:rg r 5=S (Gx c)
 r33:rg r 33=IL all
 r34:rg r 34 = .int .i64 all.length
 r35:rg r 35 = .int .i64 i
 arr:∃ a m,rg r 7 = .int .i64 m∧0≤m∧m≤i∧Cg id c a0 0 all=Cg id c a m (all.drop i)∧At (ArrI pa q n cells ps a) R hp∧Keep R h hp∧ArrQ (k+i) a
section
variable {pa q n:Nat} {cells:List AV} {ps:List Nat} {a:Arr} {R:Nat→Prop} {h:Heap} {pv:Nat} {c:Cfg} {id sq:Int} {k:Nat}
end
theorem Xk {eb:Nat} {e:Int} {h:Heap} {g:FuncId} {xs ys:List AV} (he:h.get eb=some [.int .i64 e]) {Q:Heap→Prop}
  (hc:e=0→CSem Tryz.prog g (xs ++ ys) h fun x h'=> ∃ e' z,x = .int .i64 e'∧h'.get eb=some [z]∧Q (h'.put eb [.int .i64 e'])) (h0:e≠0→Q h):CSem Tryz.prog 83 [.fn g xs ys,.ptr eb 0] h fun x h'=>x = .tup []∧Q h':=by
 refine CSem.body hm Tryz.func83 rfl κ κ (by simp [Tryz.ntmps83]) ?_
 by_cases hz:e=0
 ·subst hz
  simp [Tryz.f83,he]
  refine (hc rfl).then ?_
  rintro _ h' ⟨e',z,rfl,hg,hq⟩
  have:=Heap.Ah hg
  simp [hg]
  exact hq
 ·simp [Tryz.f83,he,hz]
  exact h0 hz
section
variable {pa q n:Nat} {cells:List AV} {ps:List Nat} {a:Arr} {R:Nat→Prop} {h:Heap} {pv:Nat} {c:Cfg} {id sq:Int} {k:Nat}
theorem Ahy (B:VolB k a c) (hk:k < 2 ^ 28) (hid:id < 2 ^ 62) (hv:h.get pv=some (volC pa c id sq)) (A:At (ArrI pa q n cells ps a) R h) (hR:R pv) (hs0:0≤sq) (hs1:sq < 2 ^ 61) {vb db rb:Nat} {d:Int} {t:Txt}
  (g1:h.get vb=some [.ptr pv 0]) (g2:h.get db=some [.int .i64 d]) (g3:h.get rb=some [S t]) (hd:d < 2 ^ 62) (ht:t.length < 2 ^ 46) :
  CSem Tryz.prog 85 [.ptr vb 0,.ptr db 0,.ptr rb 0] h fun x h'=>x = .int .i64 (F0 a (jrB id c sq t d))∧At (ArrI pa q n cells ps (vput a (jrB id c sq t d))) R h'∧Keep R h h':=by
 refine CSem.body hm Tryz.func85 rfl κ κ (by simp [Tryz.ntmps85]) ?_
 have haggC:aggT Tryz.prog 23=some true:=by kernel_rfl
 have hzC:szT Tryz.prog 23=some 5:=by kernel_rfl
 refine A1y (v:= .int .i64 0) rfl ?_
 refine X6 ?_
 refine Br 16 κ ?_
 simp [g1,g2,g3,A8,hv,volC,Ac haggC,hzC,takeN]
 refine D7.use (x:= .int .i64 (1+sq % c.sl)) (Tk B.cf sq hs0 h) ?_
 simp [g1,g2,g3,A8,hv,volC]
 have hsl:=B.cf.2.2.2.2.1
 have hp:1+sq % c.sl < 2 ^ 62:=by have:=Int.emod_lt_of_pos sq (show 0 < c.sl by omega);omega
 refine (Rx (b:=jrB id c sq t d) hv A hR B.arr ω ⟨hid,hd,hp,by show sq < 2 ^ 62;omega,ht⟩ rfl).then ?_
 rintro _ h' ⟨rfl,A2,K2⟩
 simp
 exact ⟨A2,K2⟩
theorem Ahz (B:VolB k a c) (hk:k < 2 ^ 28) (hid:id < 2 ^ 62) (hv:h.get pv=some (volC pa c id sq)) (A:At (ArrI pa q n cells ps a) R h) (hR:R pv) (hs0:0≤sq) (hs1:sq < 2 ^ 61) {vb nb sb ab:Nat} {nn:Int} {t:Txt} {all:List Int}
  (g1:h.get vb=some [.ptr pv 0]) (g2:h.get nb=some [.int .i64 nn]) (g3:h.get sb=some [S t]) (g4:h.get ab=some [IL all]) (hal:all.length < 2 ^ 20) (hd:∀ d∈all,0≤d∧d < c.k+c.m) (ht:t.length < 2 ^ 46) :
  CSem Tryz.prog 87 [.ptr vb 0,.ptr nb 0,.ptr sb 0,.ptr ab 0] h fun x h'=>x = .int .i64 (vshR a id c nn (sq+1) t all).2∧At (ArrI pa q n cells ps (vshR a id c nn (sq+1) t all).1) R h'∧Keep R h h':=by
 refine CSem.body hm Tryz.func87 rfl κ κ (by simp [Tryz.ntmps87]) ?_
 refine A1y (v:= .int .i64 0) rfl ?_
 refine X6 ?_
 refine Br 9 κ ?_
 have hw:IntKind.i64.wrap (sq+1)=sq+1:=wrap64 ω ω
 simp [g1,g2,g3,g4,A8,hv,volC,hw]
 refine (Mg B.cf hv A hR B.arr nn (sq+1) t ω hid ω ht hd).then ?_
 rintro _ h' ⟨rfl,A2,K2⟩
 simp
 exact ⟨A2,K2⟩
end
theorem Af2 {id:Int} {c:Cfg} {sq:Int} {r:Txt} {d:Int} {ds:List Int} {p:Arr×Int} : jrL id c sq r (d :: ds) p=jrL id c sq r ds (tryR p fun a=>Wk a (jrB id c sq r d)):=rfl
theorem A4j (i:IntD):(Bk i).1.length < 2 ^ 46:=by
 unfold Bk
 split
 ·have a1:=Gu i.sq 7
  have a2:=Gu i.st 2
  have a3:(E8 i.tx).1.length≤65538:=by
   unfold E8
   split<;>simp<;>omega
  simp only [Ez,List.map_cons,List.map_nil,List.flatten_cons,List.flatten_nil,List.length_append,List.length_nil,show imag.length=3 from rfl]
  omega
 ·simp
def Wr7H (H:Heap) (all:List Int) (b15 b16:Bool):Heap:=if b16=true then (H.alloc [.nilSl]).put H.next [IL all] else if b15=true then H.alloc [.nilSl] else H
theorem Wr7H.ext (H:Heap) (all:List Int) (b15 b16:Bool):Ext H (Wr7H H all b15 b16):=by
 unfold Wr7H
 split
 ·exact ((Ext.refl H).alloc _).put (Nat.le_refl _) _
 ·split
  ·exact (Ext.refl H).alloc _
  ·exact Ext.refl H
def Wr7V (pv pa n7:Nat) (nd m:Int) (all jn:List Int):Nat→AV→Prop
 | 3,v=>v = .ptr pv 0
 | 4,v=>v = .ptr pa 0
 | 5,v=>v = .int .i64 nd
 | 6,v=>v=IL all
 | 10,v=>v = .ptr pv 1
 | 11,v=>v = .ptr pv 2
 | 12,v=>v = .int .i64 m
 | 13,v=>v = .int .i64 (m+1)
 | 14,v=>v=IL jn
 | 15,v=>v = .ptr n7 0
 | 17,v=>v=IL jn
 | _,v=>v = .ptr pv 0
def Rz (H:Heap) (eb:Nat) (rt:Txt) (e:Int) (b11 b12 b13:Bool):Heap:=if b13=true then ((H.alloc [S []]).put H.next [S rt]).put eb [.int .i64 e] else if b12=true then (H.alloc [S []]).put H.next [S rt] else if b11=true then H.alloc [S []] else H
def Ke (pv n11:Nat) (nn sq:Int) (t rt:Txt) (e:Int):Nat→AV→Prop
 | 0,v=>v = .ptr pv 0
 | 1,v=>v = .ptr pv 0
 | 2,v=>v = .ptr pv 7
 | 3,v=>v = .int .i64 sq
 | 4,v=>v = .int .i64 nn
 | 5,v=>v=S t
 | 6,v=>v = .agg [.int .i64 sq,.int .i64 nn,S t]
 | 7,v=>v = .tup [S rt,.int .i64 e]
 | 8,v=>v = .tup [S rt,.int .i64 e]
 | 9,v=>v=S rt
 | 10,v=>v = .int .i64 e
 | _,v=>v = .ptr n11 0
section
variable {pa q n:Nat} {cells:List AV} {ps:List Nat} {a:Arr} {R:Nat→Prop} {h:Heap} {pv:Nat} {c:Cfg} {id sq:Int} {k:Nat}
theorem S0 (hv:h.get pv=some (volC pa c id sq)) (A:At (ArrI pa q n cells ps a) R h) (N:Int) (h0:0≤N) (hN:N < 2 ^ 30):CSem Tryz.prog 42 [.ptr pv 0,.int .i64 N] h fun x h'=>x=IL (Ab a N.toNat)∧h'=h:=by
 have:=Hy hv A N.toNat ω
 rwa [Int.toNat_of_nonneg h0] at this
theorem wr7 {cd:Code} (hc:(Tryz.f59.body).bind (Fy 7)=some cd) {r:Regs} {H:Heap} {Q:Out→Regs→Heap→Prop} (B:VolB k a c) {vb:Nat} (r3:rg r 3 = .ptr vb 0) (g1:H.get vb=some [.ptr pv 0])
  (hv:H.get pv=some (volC pa c id sq)) (A:At (ArrI pa q n cells ps a) R H)
  (hQ:∀ r':Regs,(∀ d,((d < 45∧d≠7∧d≠8)∨59 < d)→rg r' d=rg r d)→rg r' 7 = .ptr H.next 0→rg r' 8=IL (Ab a (c.m+1).toNat)→Q .norm r' ((H.alloc [.nilSl]).put H.next [IL (Ab a a.disks.length)])):wpc Tryz.prog cd Q r H:=by
 simp [Tryz.f59,Fy] at hc
 subst hc
 have hfew:=B.arr.few
 have hm0:=B.cf.1.1
 have hm1:=B.cf.1.2.1
 have hm2:=B.cf.1.2.2
 have hw1:IntKind.i64.wrap (c.m+1)=c.m+1:=wrap64 ω ω
 have hcm:((c.m+1).toNat:Int)=c.m+1:=by omega
 refine Hx (fun L _ h=>h=Wr7H H (Ab a a.disks.length) (L 15) (L 16)) (Wr7V pv pa H.next a.disks.length c.m (Ab a a.disks.length) (Ab a (c.m+1).toNat)) κ rfl ?_ ?_
 ·intro L r1 H1 hH cl hr
  have q3:rg r1 3 = .ptr vb 0:=(Dr hr κ).trans r3
  have E1:Ext H H1:=by rw [hH];exact Wr7H.ext H _ _ _
  have g1':=E1.got g1
  have hv':=E1.got hv
  have A1:=A.ext (ArrI.loc pa q n cells ps a) E1
  refine ⟨?_,?_,?_,?_,?_,?_,?_,?_,?_,?_,?_,?_,?_,?_,?_,?_,?_,?_,trivial⟩
  all_goals (intro hL hd;simp [DepL,VL,Wr7V,Region.binds] at hd)
  ·simp [q3,g1',Wr7V];exact ⟨_,rfl,rfl,hH⟩
  ·simp [q3,g1',Wr7V];exact ⟨_,rfl,rfl,hH⟩
  ·simp [hd,Wr7V];exact ⟨_,rfl,rfl,hH⟩
  ·simp [hd,A8,hv',volC,Wr7V];exact ⟨_,rfl,rfl,hH⟩
  ·simp [hd,A8,hv',volC,Wr7V];exact ⟨_,rfl,rfl,hH⟩
  ·simp [hd]
   refine (Fb A1).use ?_
   simp [Wr7V];exact ⟨_,rfl,rfl,hH⟩
  ·simp [hd]
   refine (Hy hv' A1 a.disks.length ω).use ?_
   simp [Wr7V];exact ⟨_,rfl,rfl,hH⟩
  ·simp [q3,g1',Wr7V];exact ⟨_,rfl,rfl,hH⟩
  ·simp [q3,g1',Wr7V];exact ⟨_,rfl,rfl,hH⟩
  ·simp [hd,Wr7V];exact ⟨_,rfl,rfl,hH⟩
  ·simp [hd,A8,hv',volC,Wr7V];exact ⟨_,rfl,rfl,hH⟩
  ·simp [hd,A8,hv',volC,Wr7V];exact ⟨_,rfl,rfl,hH⟩
  ·simp [hd,A8,hv',volC,Wr7V];exact ⟨_,rfl,rfl,hH⟩
  ·simp [hd,hw1,Wr7V];exact ⟨_,rfl,rfl,hH⟩
  ·simp [hd]
   refine (S0 hv' A1 (c.m+1) ω ω).use ?_
   simp [Wr7V];exact ⟨_,rfl,rfl,hH⟩
  ·have h16:=cl 16 15 κ hL
   have e:H1=H:=by rw [hH];unfold Wr7H;simp [h16,show L 15=false from hL]
   subst e
   simp [Wr7V,Wr7H,h16]
  ·have l16:L 16=false:=hL
   have l15:L 15=true:=by simp [hd]
   have e:H1=H.alloc [.nilSl]:=by rw [hH];unfold Wr7H;simp [l16,l15]
   subst e
   simp [hd,Heap.A9,Wr7H]
  ·rw [show L 15=true from by simp [hd],show L 16=true from by simp [hd]] at hH
   simp [hd,Wr7V];exact ⟨_,rfl,rfl,hH⟩
 ·intro L r1 H1 hall hH hr hA
  have e:H1=(H.alloc [.nilSl]).put H.next [IL (Ab a a.disks.length)]:=by rw [hH];unfold Wr7H;simp [hall 16 ν]
  subst e
  obtain ⟨_,_,_,_,_,_,_,_,_,_,_,_,_,_,_,h15,_,h17,_⟩:=hA
  simp [VL,Wr7V] at h15 h17
  exact hQ r1 (fun d hd=>hr d (by simp;omega)) h15 h17
theorem wr12 {cd:Code} (hc:(Tryz.f59.body).bind (Fy 12)=some cd) {r:Regs} {H:Heap} {Q:Out→Regs→Heap→Prop} {vb nb sb eb:Nat} {nn:Int} {t:Txt} {z:AV} (r3:rg r 3 = .ptr vb 0) (r4:rg r 4 = .ptr nb 0) (r5:rg r 5 = .ptr sb 0) (r9:rg r 9 = .ptr eb 0)
  (g1:H.get vb=some [.ptr pv 0]) (g2:H.get nb=some [.int .i64 nn]) (g3:H.get sb=some [S t]) (ge:H.get eb=some [z]) (hv:H.get pv=some (volC pa c id sq)) (hne:eb≠vb∧eb≠nb∧eb≠sb∧eb≠pv) (hi:IntB ⟨sq,nn,t⟩)
  (hQ:∀ r':Regs,(∀ d,((d < 74∧d≠11)∨84 < d)→rg r' d=rg r d)→rg r' 11 = .ptr H.next 0→Q .norm r' (((H.alloc [S []]).put H.next [S (Bk ⟨sq,nn,t⟩).1]).put eb [.int .i64 (Bk ⟨sq,nn,t⟩).2])):wpc Tryz.prog cd Q r H:=by
 simp [Tryz.f59,Fy] at hc
 subst hc
 have hz9:B7 Tryz.prog 9=some (S []):=by kernel_rfl
 have hbd:∀ (x y:Int) (t:Txt),Ct Tryz.prog 93 [(0,.int .i64 x),(1,.int .i64 y),(2,S t)]=some (.agg [.int .i64 x,.int .i64 y,S t]):=fun x y t=>by kernel_rfl
 have hel:=Heap.Ah ge
 obtain ⟨ne1,ne2,ne3,ne4⟩:=hne
 have hcall:=fun (H1:Heap)=>A48 ⟨sq,nn,t⟩ hi H1
 simp only [IntA,Rw] at hcall
 generalize Bk ⟨sq,nn,t⟩=w at hcall hQ
 obtain ⟨rt,e⟩:=w
 simp only at hcall hQ
 refine Hx (fun L _ h=>h=Rz H eb rt e (L 11) (L 12) (L 13)) (Ke pv H.next nn sq t rt e) κ rfl ?_ ?_
 ·intro L r1 H1 hH cl hr
  have q3:rg r1 3 = .ptr vb 0:=(Dr hr κ).trans r3
  have q4:rg r1 4 = .ptr nb 0:=(Dr hr κ).trans r4
  have q5:rg r1 5 = .ptr sb 0:=(Dr hr κ).trans r5
  have q9:rg r1 9 = .ptr eb 0:=(Dr hr κ).trans r9
  have got:∀ b cs,b≠eb→H.get b=some cs→H1.get b=some cs:=by
   intro b cs hb hg
   have hbl:=Heap.Ah hg
   have e1:Ext H (H.alloc [S []]):=(Ext.refl H).alloc _
   have e2:Ext H ((H.alloc [S []]).put H.next [S rt]):=e1.put (Nat.le_refl _) _
   rw [hH]
   unfold Rz
   split
   ·rw [Heap.Ad _ _ _ _ (by simp;omega),if_neg hb];exact e2.got hg
   ·split
    ·exact e2.got hg
    ·split
     ·exact e1.got hg
     ·exact hg
  have g1':=got vb _ (Ne.symm ne1) g1
  have g2':=got nb _ (Ne.symm ne2) g2
  have g3':=got sb _ (Ne.symm ne3) g3
  have hv':=got pv _ (Ne.symm ne4) hv
  refine ⟨?_,?_,?_,?_,?_,?_,?_,?_,?_,?_,?_,?_,?_,?_,trivial⟩
  all_goals (intro hL hd;simp [DepL,VL,Ke,Region.binds] at hd)
  ·simp [q3,g1',Ke];exact ⟨_,rfl,rfl,hH⟩
  ·simp [hd,Ke];exact ⟨_,rfl,rfl,hH⟩
  ·simp [hd,A8,hv',volC,Ke];exact ⟨_,rfl,rfl,hH⟩
  ·simp [hd,A8,hv',volC,Ke];exact ⟨_,rfl,rfl,hH⟩
  ·simp [q4,g2',Ke];exact ⟨_,rfl,rfl,hH⟩
  ·simp [q5,g3',Ke];exact ⟨_,rfl,rfl,hH⟩
  ·simp [hd,hbd,Ke];exact ⟨_,rfl,rfl,hH⟩
  ·simp [hd]
   refine (hcall H1).use ?_
   simp [Ke];exact ⟨_,rfl,rfl,hH⟩
  ·simp [hd,Ke];exact ⟨_,rfl,rfl,hH⟩
  ·simp [hd,Ke];exact ⟨_,rfl,rfl,hH⟩
  ·simp [hd,Ke];exact ⟨_,rfl,rfl,hH⟩
  ·have h12:=cl 12 11 κ hL
   have h13:=cl 13 12 κ h12
   have e:H1=H:=by rw [hH];unfold Rz;simp [h12,h13,show L 11=false from hL]
   subst e
   simp [hz9,show (S []).cells=[S []] from rfl,Ke,Rz,h12,h13]
  ·have l12:L 12=false:=hL
   have h13:=cl 13 12 κ hL
   have l11:L 11=true:=by simp [hd]
   have e:H1=H.alloc [S []]:=by rw [hH];unfold Rz;simp [l12,l11,h13]
   subst e
   simp [hd,Heap.A9,Rz,h13]
  ·have l13:L 13=false:=hL
   have l12:L 12=true:=by simp [hd]
   have e:H1=(H.alloc [S []]).put H.next [S rt]:=by rw [hH];unfold Rz;simp [l12,l13]
   subst e
   have ge1:((H.alloc [S []]).put H.next [S rt]).get eb=some [z]:=(((Ext.refl H).alloc _).put (Nat.le_refl _) _).got ge
   have gel:=Heap.Ah ge1
   simp [hd,q9,ge1,gel,Rz]
 ·intro L r1 H1 hall hH hr hA
  have e:H1=((H.alloc [S []]).put H.next [S rt]).put eb [.int .i64 e]:=by rw [hH];unfold Rz;simp [hall 13 ν]
  subst e
  obtain ⟨_,_,_,_,_,_,_,_,_,_,_,h11,_⟩:=hA
  simp [VL,Ke] at h11
  exact hQ r1 (fun d hd=>hr d (by simp;omega)) h11
end
structure WrI (pv pa q n:Nat) (cells:List AV) (ps:List Nat) (c:Cfg) (id sq:Int) (k:Nat) (jn:List Int) (rt:Txt) (p0:Arr×Int) (R R1:Nat→Prop) (vb nb sb ab eb rb:Nat) (hL:Heap) (i:Nat) (r:Regs) (hp:Heap):Prop where
 le:i≤jn.length
 r3:rg r 3 = .ptr vb 0
 r4:rg r 4 = .ptr nb 0
 r5:rg r 5 = .ptr sb 0
 r7:rg r 7 = .ptr ab 0
 r9:rg r 9 = .ptr eb 0
 r10:rg r 10 = .fn 83 [] [.ptr eb 0]
 r11:rg r 11 = .ptr rb 0
 r85:rg r 85=IL jn
 r86:rg r 86 = .int .i64 jn.length
 r87:rg r 87 = .int .i64 i
 arr:∃ p,jrL id c sq rt jn p0=jrL id c sq rt (jn.drop i) p∧At (ArrI pa q n cells ps p.1) (fun b=>R1 b∨b=eb) hp∧Keep R1 hL hp∧hp.get eb=some [.int .i64 p.2]∧ArrQ (k+i) p.1
section
variable {pa q n:Nat} {cells:List AV} {ps:List Nat} {a:Arr} {R:Nat→Prop} {h:Heap} {pv:Nat} {c:Cfg} {id sq:Int} {k:Nat}
theorem Wy (B:VolB k a c) (hd:(a.disks.length:Int)=c.k+c.m) (hk:k < 2 ^ 27) (hid:id < 2 ^ 62) (hv:h.get pv=some (volC pa c id sq)) (A:At (ArrI pa q n cells ps a) R h) (hR:R pv) (hs0:0≤sq) (hs1:sq < 2 ^ 61) (hlp:h.lp=none) (nn:Int) (t:Txt) :
  CSem Tryz.prog 59 [.ptr pv 0,.int .i64 nn,S t] h fun x h'=>x = .int .i64 (Am a id c sq nn t).2.2∧At (ArrI pa q n cells ps (Am a id c sq nn t).1) R h'∧Keep (fun b=>R b∧b≠pv) h h'∧h'.get pv=some (volC pa c id (Am a id c sq nn t).2.1):=by
 refine CSem.body hm Tryz.func59 rfl κ κ (by simp [Tryz.ntmps59]) ?_
 have hfew:=B.arr.few
 have haggC:aggT Tryz.prog 23=some true:=by kernel_rfl
 have hzC:szT Tryz.prog 23=some 5:=by kernel_rfl
 have hRl:∀ b,R b→b < h.next:=fun b hb=>A.lt hb
 simp [Tryz.f59,show (AV.ptr pv 0).cells=[.ptr pv 0] from rfl,show (S t).cells=[S t] from rfl,show (AV.int .i64 nn).cells=[.int .i64 nn] from rfl,show (AV.ptr pv 0).atom=true from rfl]
 generalize hH:((h.alloc [.ptr pv 0]).alloc [.int .i64 nn]).alloc [S t]=H
 have E:Ext h H:=by rw [←hH];exact (((Ext.refl h).alloc _).alloc _).alloc _
 have g1:H.get h.next=some [.ptr pv 0]:=by rw [←hH];exact Heap.Ag (Heap.Ag (Heap.A9 _ _))
 have g2:H.get (h.next+1)=some [.int .i64 nn]:=by rw [←hH];exact Heap.Ag (Heap.A9 (h.alloc [.ptr pv 0]) _)
 have g3:H.get (h.next+2)=some [S t]:=by rw [←hH];exact Heap.A9 ((h.alloc [.ptr pv 0]).alloc [.int .i64 nn]) _
 have hHn:H.next=h.next+3:=by rw [←hH];rfl
 clear hH
 have hvH:=E.got hv
 have AH:=A.ext (ArrI.loc pa q n cells ps a) E
 have done:∀ {H':Heap},Ext h H'→At (ArrI pa q n cells ps a) R H'∧Keep (fun b=>R b∧b≠pv) h H'∧H'.get pv=some (volC pa c id sq):=fun {H'} E' =>
  ⟨A.ext (ArrI.loc pa q n cells ps a) E',(E'.keep hRl).mono fun b hb=>hb.1,E'.got hv⟩
 refine Br 16 κ ?_
 by_cases h1:nn < 0
 ·have hr:Am a id c sq nn t=(a,sq,1):=by simp [Am,h1]
  simp [g1,g2,h1,hr]
  first|exact done E|exact ⟨(done E).1,(done E).2.1⟩
 by_cases h2:c.st≤nn
 ·have hr:Am a id c sq nn t=(a,sq,1):=by simp [Am,h2]
  simp [g1,g2,h1,A8,hvH,volC,h2,hr]
  first|exact done E|exact ⟨(done E).1,(done E).2.1⟩
 simp [g1,g2,h1,A8,hvH,volC,h2]
 refine Br 9 κ ?_
 simp [g3,g1,A8,hvH,volC,Ac haggC,hzC,takeN]
 refine D7.use (x:= .int .i64 (Aw c)) (M5 c H) ?_
 by_cases h3:Aw c < t.length
 ·have hr:Am a id c sq nn t=(a,sq,12):=by simp [Am,h1,h2,h3]
  simp [h3,hr]
  first|exact done E|exact ⟨(done E).1,(done E).2.1⟩
 simp [h3,g1,A8,hvH,volC]
 refine (Hj AH).use ?_
 by_cases h4:a.down=true
 ·have hr:Am a id c sq nn t=(a,sq,9):=by simp [Am,h1,h2,h3,h4]
  simp [h4,hr]
  first|exact done E|exact ⟨(done E).1,(done E).2.1⟩
 have hm0:=B.cf.1.1
 have hm1:=B.cf.1.2.1
 have hm2:=B.cf.1.2.2
 have hw1:IntKind.i64.wrap (c.m+1)=c.m+1:=wrap64 ω ω
 have hcm:((c.m+1).toNat:Int)=c.m+1:=by omega
 simp [h4]
 refine wr7 κ B (vb:=h.next) μ g1 hvH AH ?_
 intro r7 rr7 r77 r78
 have q3:rg r7 3 = .ptr h.next 0:=(rr7 3 ω).trans μ
 have q4:rg r7 4 = .ptr (h.next+1) 0:=(rr7 4 ω).trans μ
 have q5:rg r7 5 = .ptr (h.next+2) 0:=(rr7 5 ω).trans μ
 clear rr7
 have hall:=D5 a a.disks.length
 have hjnl:=D5 a (c.m+1).toNat
 have hmem:∀ d∈Ab a a.disks.length,0≤d∧d < c.k+c.m:=fun d hd=>by have:=Mj d hd;omega
 have hmemj:∀ d∈Ab a (c.m+1).toNat,d < 2 ^ 62:=fun d hd=>by have:=Mj d hd;omega
 have hr:Am a id c sq nn t=if ((Ab a a.disks.length).length:Int) < c.k∨(Ab a (c.m+1).toNat).length=0 then (a,sq,10) else
   ((tryR (tryR (tryR (jrL id c sq (Bk ⟨sq,nn,t⟩).1 (Ab a (c.m+1).toNat) (a,(Bk ⟨sq,nn,t⟩).2)) Bv) fun a1=>vshR a1 id c nn (sq+1) t (Ab a a.disks.length)) Bv).1,
    if (tryR (tryR (tryR (jrL id c sq (Bk ⟨sq,nn,t⟩).1 (Ab a (c.m+1).toNat) (a,(Bk ⟨sq,nn,t⟩).2)) Bv) fun a1=>vshR a1 id c nn (sq+1) t (Ab a a.disks.length)) Bv).2=0 then sq+1 else sq,
    (tryR (tryR (tryR (jrL id c sq (Bk ⟨sq,nn,t⟩).1 (Ab a (c.m+1).toNat) (a,(Bk ⟨sq,nn,t⟩).2)) Bv) fun a1=>vshR a1 id c nn (sq+1) t (Ab a a.disks.length)) Bv).2):=by
  rw [Am,if_neg ω,if_neg h3,if_neg h4]
 rw [hr]
 clear hr
 generalize Ab a a.disks.length=all at hall hmem r77 ⊢
 generalize Ab a (c.m+1).toNat=jn at hjnl hmemj r78 ⊢
 have hHl:H.next < (H.alloc [.nilSl]).next:=by simp
 have ga:((H.alloc [.nilSl]).put H.next [IL all]).get H.next=some [IL all]:=by rw [Heap.Ad _ _ _ _ hHl,if_pos rfl]
 have E1:Ext H ((H.alloc [.nilSl]).put H.next [IL all]):=((Ext.refl H).alloc _).put (Nat.le_refl _) _
 have hn1:((H.alloc [.nilSl]).put H.next [IL all]).next=H.next+1:=rfl
 generalize (H.alloc [.nilSl]).put H.next [IL all]=H1 at ga E1 hn1 ⊢
 have Eh1:=E.trans E1
 have g11:=E1.got g1
 have hv1:=E1.got hvH
 have c1:((all.length:Int) < c.k)=(((all.length:Int)) < c.k):=rfl
 simp
 refine Br 13 κ ?_
 by_cases h5:(all.length:Int) < c.k
 ·simp [r77,ga,q3,g11,A8,hv1,volC,h5]
  first|exact done Eh1|exact ⟨(done Eh1).1,(done Eh1).2.1⟩
 by_cases h6:jn.length=0
 ·have h6':jn=[]:=List.eq_nil_of_length_eq_zero h6
  simp [r77,r78,ga,q3,g11,A8,hv1,volC,h5,h6,h6']
  first|exact done Eh1|exact ⟨(done Eh1).1,(done Eh1).2.1⟩
 have h6':jn≠[]:=fun e=>h6 (by rw [e];rfl)
 have h6i:¬(jn.length:Int)=0:=by omega
 simp [r77,r78,ga,q3,g11,A8,hv1,volC,h5,h6,h6']
 have ea:(H1.alloc [AV.int .i64 0]).get H1.next=some [.int .i64 0]:=Heap.A9 _ _
 simp [ea]
 have hel0:H1.next < (H1.alloc [AV.int .i64 0]).next:=by simp
 have E2:Ext H1 ((H1.alloc [AV.int .i64 0]).put H1.next [.int .i64 0]):=((Ext.refl H1).alloc _).put (Nat.le_refl _) _
 have ge:((H1.alloc [AV.int .i64 0]).put H1.next [.int .i64 0]).get H1.next=some [.int .i64 0]:=Heap.Ak ea
 have hn2:((H1.alloc [AV.int .i64 0]).put H1.next [.int .i64 0]).next=H1.next+1:=rfl
 generalize (H1.alloc [AV.int .i64 0]).put H1.next [.int .i64 0]=H2 at E2 ge hn2 ⊢
 have hpvl:=Heap.Ah hv
 have htl:(t.length:Int)≤Aw c:=by omega
 have hcap:Aw c≤4000:=by unfold Aw;have:=B.cf.2.2.2.2.2;split<;>omega
 have hst:=B.cf.2.2.2.1
 have hib:IntB ⟨sq,nn,t⟩:=⟨by show sq < 2 ^ 62;omega,by show nn < 2 ^ 62;omega,by show t.length < 2 ^ 46;omega⟩
 refine wr12 (pv:=pv) (c:=c) (id:=id) (sq:=sq) (vb:=h.next) (nb:=h.next+1) (sb:=h.next+2) (eb:=H1.next) (nn:=nn) (t:=t) κ (by simp [q3]) (by simp [q4]) (by simp [q5]) μ (E2.got g11) (E2.got (E1.got g2)) (E2.got (E1.got g3)) ge (E2.got hv1)
  ω hib ?_
 intro r12 rr12 r1211
 have hrt:=A4j ⟨sq,nn,t⟩
 generalize Bk ⟨sq,nn,t⟩=w at hrt ⊢
 obtain ⟨rt,e0⟩:=w
 simp only at hrt ⊢
 have p3:rg r12 3 = .ptr h.next 0:=(rr12 3 ω).trans (by simp [q3])
 have p4:rg r12 4 = .ptr (h.next+1) 0:=(rr12 4 ω).trans (by simp [q4])
 have p5:rg r12 5 = .ptr (h.next+2) 0:=(rr12 5 ω).trans (by simp [q5])
 have p7:rg r12 7 = .ptr H.next 0:=(rr12 7 ω).trans (by simp [r77])
 have p8:rg r12 8=IL jn:=(rr12 8 ω).trans (by simp [r78])
 have p9:rg r12 9 = .ptr H1.next 0:=(rr12 9 ω).trans μ
 have p10:rg r12 10 = .fn 83 [] [.ptr H1.next 0]:=(rr12 10 ω).trans μ
 clear rr12
 have E3a:Ext H2 ((H2.alloc [S []]).put H2.next [S rt]):=((Ext.refl H2).alloc _).put (Nat.le_refl _) _
 have gr:((H2.alloc [S []]).put H2.next [S rt]).get H2.next=some [S rt]:=Heap.Ak (Heap.A9 _ _)
 have E3:Ext H1 (((H2.alloc [S []]).put H2.next [S rt]).put H1.next [.int .i64 e0]):=(E2.trans E3a).put (Nat.le_refl _) _
 have ge3:(((H2.alloc [S []]).put H2.next [S rt]).put H1.next [.int .i64 e0]).get H1.next=some [.int .i64 e0]:=Heap.Ak (E3a.got ge)
 have gr3:(((H2.alloc [S []]).put H2.next [S rt]).put H1.next [.int .i64 e0]).get H2.next=some [S rt]:=by rw [Heap.Aq (E3a.got ge) ω];exact gr
 have hn3:(((H2.alloc [S []]).put H2.next [S rt]).put H1.next [.int .i64 e0]).next=H2.next+1:=rfl
 generalize ((H2.alloc [S []]).put H2.next [S rt]).put H1.next [.int .i64 e0]=H3 at E3 ge3 gr3 hn3 ⊢
 clear E3a gr
 have E30:=Eh1.trans E3
 have A3:At (ArrI pa q n cells ps a) (fun b=>(R b∨(h.next≤b∧b < H3.next∧b≠H1.next))∨b=H1.next) H3:=(A.ext2 (ArrI.loc pa q n cells ps a) E30).mono fun b hb=>by
  rcases hb with (hb|hb)|hb
  ·exact .inl hb
  ·exact .inr ⟨hb.1,hb.2.1⟩
  ·exact .inr ⟨ω,ω⟩
 simp [p8]
 have kput:∀ (h5:Heap) (z:List AV),Keep (fun b=>R b∨(h.next≤b∧b < H3.next∧b≠H1.next)) H3 h5→Keep (fun b=>R b∨(h.next≤b∧b < H3.next∧b≠H1.next)) H3 (h5.put H1.next z):=fun h5 z K=>Keep.put K _ (fun hk=>by
  rcases hk with hk|hk
  ·have:=hRl _ hk;have:=E.next;omega
  ·omega)
 have tflush:∀ (kk:Nat) (p:Arr×Int) (hz:Heap),kk < 2 ^ 29→At (ArrI pa q n cells ps p.1) (fun b=>(R b∨(h.next≤b∧b < H3.next∧b≠H1.next))∨b=H1.next) hz→Keep (fun b=>R b∨(h.next≤b∧b < H3.next∧b≠H1.next)) H3 hz→hz.get H1.next=some [.int .i64 p.2]→ArrQ kk p.1 →
   CSem Tryz.prog 83 [.fn 50 [.ptr pa 0] [],.ptr H1.next 0] hz fun x h'=>x = .tup []∧∃ p',tryR p Bv=p'∧At (ArrI pa q n cells ps p'.1) (fun b=>(R b∨(h.next≤b∧b < H3.next∧b≠H1.next))∨b=H1.next) h'∧Keep (fun b=>R b∨(h.next≤b∧b < H3.next∧b≠H1.next)) H3 h'∧h'.get H1.next=some [.int .i64 p'.2]∧ArrQ kk p'.1:=by
  rintro kk ⟨a5,e5⟩ hz hkk A5 K5 ge5 Q5
  simp only at A5 ge5 Q5
  refine Xk ge5 ?_ ?_
  ·intro he5
   subst he5
   refine (Qk A5 Q5.b ω).mono ?_
   rintro _ h6 ⟨rfl,A6,K6⟩
   have hge6:=K6.got (.inr rfl) ge5
   refine ⟨_,_,rfl,hge6,Bv a5,by simp [tryR],A6.put (ArrI.loc pa q n cells ps _) _ (.inr rfl),kput _ _ (K5.trans (K6.mono fun b hb=> .inl hb)),?_,Q5.flush⟩
   rw [Heap.Ak hge6];rfl
  ·intro he5
   exact ⟨(a5,e5),by simp [tryR,he5],A5,K5,ge5,Q5⟩
 refine Ar (WrI pv pa q n cells ps c id sq k jn rt (a,e0) R (fun b=>R b∨(h.next≤b∧b < H3.next∧b≠H1.next)) h.next (h.next+1) (h.next+2) H.next H1.next H2.next H3) (jn.length - ·) ?_ 0 ?_
 ·rintro i r hp ⟨le,r3,r4,r5,r7,r9,r10,r11,r85,r86,r87,p,e1,A4,K4,ge4,Q4⟩
  obtain ⟨a4,e4⟩:=p
  simp only at e1 A4 ge4 Q4
  have hv4:hp.get pv=some (volC pa c id sq):=K4.got (.inl hR) (E30.got hv)
  have gv4:hp.get h.next=some [.ptr pv 0]:=K4.got (.inr ω) (E3.got g11)
  have gn4:hp.get (h.next+1)=some [.int .i64 nn]:=K4.got (.inr ω) (E3.got (E1.got g2))
  have gs4:hp.get (h.next+2)=some [S t]:=K4.got (.inr ω) (E3.got (E1.got g3))
  have ga4:hp.get H.next=some [IL all]:=K4.got (.inr ω) (E3.got ga)
  have gr4:hp.get H2.next=some [S rt]:=K4.got (.inr ω) gr3
  have hpn:=K4.next
  have hlp4:hp.lp=none:=by rw [K4.lp,E30.lp,hlp]
  rcases Nat.lt_or_eq_of_le le with hlt|heq
  ·have hlt':(i:Int) < jn.length:=by omega
   have hw2:IntKind.i64.wrap ((i:Int)+1)=(i:Int)+1:=wrap64 ω ω
   have hdr:jn.drop i=jn[i] :: jn.drop (i+1):=List.drop_eq_getElem_cons hlt
   have hdm:=hmemj jn[i] (List.getElem_mem hlt)
   have ead:∀ d,(hp.alloc [AV.int .i64 d]).get hp.next=some [.int .i64 d]:=fun d=>Heap.A9 _ _
   simp [r3,r7,r9,r10,r11,r85,r86,r87,hlt',hlt,List.getElem?_eq_getElem hlt,show I64 jn[i]=AV.int .i64 jn[i] from rfl,Heap.A9]
   generalize jn[i]=d at hdr hdm ⊢
   rw [hdr,Af2] at e1
   have E5:Ext hp ((hp.alloc [AV.int .i64 0]).put hp.next [.int .i64 d]):=((Ext.refl hp).alloc _).put (Nat.le_refl _) _
   have gd5:((hp.alloc [AV.int .i64 0]).put hp.next [.int .i64 d]).get hp.next=some [.int .i64 d]:=Heap.Ak (ead 0)
   generalize (hp.alloc [AV.int .i64 0]).put hp.next [.int .i64 d]=H5 at E5 gd5 ⊢
   have A5:=A4.ext2 (ArrI.loc pa q n cells ps a4) E5
   have hdl:=Heap.Ah gd5
   refine (Xk (Q:=fun hz=> ∃ p,tryR (a4,e4) (fun a=>Wk a (jrB id c sq rt d))=p∧At (ArrI pa q n cells ps p.1) (fun b=>(R b∨(h.next≤b∧b < H3.next∧b≠H1.next))∨b=H1.next) hz∧Keep (fun b=>R b∨(h.next≤b∧b < H3.next∧b≠H1.next)) hp hz∧hz.get H1.next=some [.int .i64 p.2]∧ArrQ (k+(i+1)) p.1) (E5.got ge4) ?_ ?_).then ?_
   ·intro he4
    subst he4
    have B5:VolB (k+i) a4 c:=⟨B.cf,Q4,ω⟩
    have hR5:(R pv∨(h.next≤pv∧pv < H3.next∧pv≠H1.next))∨pv=H1.next:= .inl (.inl hR)
    refine (Ahy B5 ω hid (E5.got hv4) A5 (.inl hR5) hs0 hs1 (E5.got gv4) gd5 (E5.got gr4) hdm hrt).mono ?_
    rintro _ h6 ⟨rfl,A6,K6⟩
    have hge6:h6.get H1.next=some [.int .i64 0]:=K6.got (.inl (.inr rfl)) (E5.got ge4)
    refine ⟨_,_,rfl,hge6,(Wk a4 (jrB id c sq rt d)),by simp [tryR],?_,?_,Heap.Ak hge6,(Na Q4 _).mono ω⟩
    ·exact (A6.put (ArrI.loc pa q n cells ps _) _ (.inl (.inr rfl))).mono fun b hb=> .inl hb
    ·refine Keep.put ?_ _ (fun hk=>by
      rcases hk with hk|hk
      ·have:=hRl _ hk;have:=E.next;omega
      ·omega)
     exact (E5.keep (R:=fun b=>R b∨(h.next≤b∧b < H3.next∧b≠H1.next)) fun b hb=>by
      rcases hb with hb|hb
      ·have:=hRl _ hb;have:=E30.next;omega
      ·omega).trans (K6.mono fun b hb=> .inl (.inl hb))
   ·intro he4
    refine ⟨(a4,e4),by simp [tryR,he4],A5.mono fun b hb=> .inl hb,E5.keep fun b hb=>by
      rcases hb with hb|hb
      ·have:=hRl _ hb;have:=E30.next;omega
      ·omega,E5.got ge4,Q4.mono ω⟩
   ·rintro _ h6 ⟨rfl,p6,ep6,A6,K6,ge6,Q6⟩
    rw [ep6] at e1
    simp [r3,r7,r9,r10,r11,r85,r86,r87,hw2]
    exact ⟨i+1,ω,ω,by simpa using r3,by simpa using r4,by simpa using r5,by simpa using r7,by simpa using r9,by simpa using r10,by simpa using r11,by simpa using r85,by simpa using r86,μ,p6,e1,A6,K4.trans K6,ge6,Q6⟩
  ·subst heq
   rw [List.drop_length] at e1
   have e1':jrL id c sq rt jn (a,e0)=(a4,e4):=e1
   rw [e1']
   have B4:VolB (k+jn.length) a4 c:=⟨B.cf,Q4,ω⟩
   simp [r3,r7,r9,r10,r11,r85,r86,r87,gv4,A8,hv4,volC]
   refine (tflush (k+jn.length) (a4,e4) hp ω A4 K4 ge4 Q4).then ?_
   rintro _ h5 ⟨rfl,p5,ep5,A5,K5,ge5,Q5⟩
   rw [ep5]
   clear ep5 e1 e1' A4 K4 ge4 Q4 gv4 gn4 gs4 ga4 gr4 hv4 hpn hlp4 B4 a4 e4
   obtain ⟨a5,e5⟩:=p5
   simp only at A5 ge5 Q5
   have hv5:h5.get pv=some (volC pa c id sq):=K5.got (.inl hR) (E30.got hv)
   have gv5:h5.get h.next=some [.ptr pv 0]:=K5.got (.inr ω) (E3.got g11)
   have gn5:h5.get (h.next+1)=some [.int .i64 nn]:=K5.got (.inr ω) (E3.got (E1.got g2))
   have gs5:h5.get (h.next+2)=some [S t]:=K5.got (.inr ω) (E3.got (E1.got g3))
   have ga5:h5.get H.next=some [IL all]:=K5.got (.inr ω) (E3.got ga)
   simp [r3,r4,r5,r7,r10]
   refine (Xk (Q:=fun hz=> ∃ p,tryR (a5,e5) (fun a1=>vshR a1 id c nn (sq+1) t all)=p∧At (ArrI pa q n cells ps p.1) (fun b=>(R b∨(h.next≤b∧b < H3.next∧b≠H1.next))∨b=H1.next) hz∧Keep (fun b=>R b∨(h.next≤b∧b < H3.next∧b≠H1.next)) H3 hz∧hz.get H1.next=some [.int .i64 p.2]∧ArrQ (k+jn.length+all.length) p.1) ge5 ?_ ?_).then ?_
   ·intro he5
    subst he5
    have B5:VolB (k+jn.length) a5 c:=⟨B.cf,Q5,ω⟩
    refine (Ahz B5 ω hid hv5 A5 (.inl (.inl hR)) hs0 hs1 gv5 gn5 gs5 ga5 ω hmem ω).mono ?_
    rintro _ h6 ⟨rfl,A6,K6⟩
    have hge6:=K6.got (.inr rfl) ge5
    refine ⟨_,_,rfl,hge6,vshR a5 id c nn (sq+1) t all,by simp [tryR],A6.put (ArrI.loc pa q n cells ps _) _ (.inr rfl),kput _ _ (K5.trans (K6.mono fun b hb=> .inl hb)),Heap.Ak hge6,M9 Q5 id c nn (sq+1) t all⟩
   ·intro he5
    exact ⟨(a5,e5),by simp [tryR,he5],A5,K5,ge5,Q5.mono ω⟩
   rintro _ h6 ⟨rfl,p6,ep6,A6,K6,ge6,Q6⟩
   rw [ep6]
   have hv6:h6.get pv=some (volC pa c id sq):=K6.got (.inl hR) (E30.got hv)
   have gv6:h6.get h.next=some [.ptr pv 0]:=K6.got (.inr ω) (E3.got g11)
   simp [r3,r10,gv6,A8,hv6,volC]
   refine (tflush (k+jn.length+all.length) p6 h6 ω A6 K6 ge6 Q6).then ?_
   rintro _ h7 ⟨rfl,p7',ep7,A7,K7,ge7,Q7⟩
   rw [ep7]
   obtain ⟨a7,e7⟩:=p7'
   simp only at A7 ge7 Q7
   have hv7:h7.get pv=some (volC pa c id sq):=K7.got (.inl hR) (E30.got hv)
   have gv7:h7.get h.next=some [.ptr pv 0]:=K7.got (.inr ω) (E3.got g11)
   have K70:Keep R h h7:=(E30.keep hRl).trans (K7.mono fun b hb=> .inl hb)
   have hpl:=Heap.Ah hv7
   have hnep:H1.next≠pv:=by have:=hRl _ hR;have:=E.next;omega
   by_cases he7:e7=0
   ·have hws:IntKind.i64.wrap (sq+1)=sq+1:=wrap64 ω ω
    simp [r9,ge7,he7,r3,gv7,A8,hv7,volC,hws,hpl,Heap.Ad,hnep]
    exact ⟨(A7.put (ArrI.loc pa q n cells ps _) _ (.inl (.inl hR))).mono fun b hb=> .inl (.inl hb),Keep.put (K70.mono fun b hb=>hb.1) _ (fun hk=>hk.2 rfl)⟩
   ·simp [r9,ge7,he7]
    exact ⟨A7.mono fun b hb=> .inl (.inl hb),K70.mono fun b hb=>hb.1,hv7⟩
 ·exact ⟨ω,by simp [p3],by simp [p4],by simp [p5],by simp [p7],by simp [p9],by simp [p10],by simp [r1211],μ,μ,μ,(a,e0),rfl,A3,Keep.refl _ _,ge3,B.q⟩
end
structure HeadI (pv pa:Nat) (c0:Cfg) (id sq:Int) (all:List Int) (a:Arr) (h:Heap) (i:Nat) (r:Regs) (hp:Heap):Prop where
 le:i≤all.length
 r0:rg r 0 = .ptr pv 0
 r15:rg r 15=IL all
 r16:rg r 16 = .int .i64 all.length
 r17:rg r 17 = .int .i64 i
 E:Ext h hp
 l:N9 a id all=N9 a id (all.drop i)
section
variable {pa q n:Nat} {cells:List AV} {ps:List Nat} {a:Arr} {R:Nat→Prop} {h:Heap} {pv:Nat} {c:Cfg} {id sq:Int} {k:Nat}
theorem Tf (hv:h.get pv=some (volC pa c id sq)):CSem Tryz.prog 32 [.ptr pv 0] h fun x h'=>x=CfA c∧h'=h:=by
 have haggC:aggT Tryz.prog 23=some true:=by kernel_rfl
 have hzC:szT Tryz.prog 23=some 5:=by kernel_rfl
 refine CSem.Me (Q:=fun x=>x=CfA c) (fun x hx=>by subst hx;exact ⟨3,_,rfl⟩) ?_
 refine CSem.body hm Tryz.func32 rfl κ κ (by simp [Tryz.ntmps32]) ?_
 have hzz:B7 Tryz.prog 23=some (.agg [.int .i64 0,.int .i64 0,.int .i64 0,.int .i64 0,.int .i64 0]):=by kernel_rfl
 simp [Tryz.f32,hzz,AV.cells]
 generalize hH:h.alloc _=H
 have E:Ext h H:=by rw [←hH];exact (Ext.refl h).alloc _
 have g0:H.get h.next=some [.int .i64 0,.int .i64 0,.int .i64 0,.int .i64 0,.int .i64 0]:=by rw [←hH];exact Heap.A9 _ _
 have hnl:=Heap.Ah g0
 have hvH:=E.got hv
 clear hH
 simp [A8,hvH,volC,Ac haggC,hzC,takeN,Aj,putN,g0,hnl,Heap.Ad,CfA]
 exact E.put (Nat.le_refl _) _
theorem Abj {k:Nat} (Q:ArrQ k a) (hk:k < 2 ^ 28) (hv:h.get pv=some (volC pa c id sq)) (A:At (ArrI pa q n cells ps a) R h) (hR:R pv) (hlp:h.lp=none) :
  CSem Tryz.prog 41 [.ptr pv 0] h fun x h'=>x = .bool (Kw a id).isSome∧At (ArrI pa q n cells ps a) R h'∧Keep (fun b=>R b∧b≠pv) h h'∧h'.get pv=some (volC pa ((Kw a id).getD c) id sq):=by
 refine CSem.body hm Tryz.func41 rfl κ κ (by simp [Tryz.ntmps41]) ?_
 have hfew:=Q.b.few
 have hW:∀ d∈a.disks,d.waits.length < 2 ^ 40:=fun d hd=>by have:=(Q.b.disks d hd).few;omega
 have haggC:aggT Tryz.prog 23=some true:=by kernel_rfl
 have hzC:szT Tryz.prog 23=some 5:=by kernel_rfl
 have hzz:B7 Tryz.prog 23=some (.agg [.int .i64 0,.int .i64 0,.int .i64 0,.int .i64 0,.int .i64 0]):=by kernel_rfl
 have hzB:B7 Tryz.prog 113=some (.agg [.int .i64 0,.int .i64 0,.int .i64 0,.int .i64 0,S []]):=by kernel_rfl
 have hz5:szT Tryz.prog 113=some 5:=by kernel_rfl
 have hRl:∀ b,R b→b < h.next:=fun b hb=>A.lt hb
 simp [Tryz.f41,A8,hv,volC]
 refine (Fb A).use ?_
 simp
 refine (Hy hv A a.disks.length ω).use ?_
 simp
 have hall:=D5 a a.disks.length
 have hR0:Kw a id=N9 a id (Ab a a.disks.length):=rfl
 rw [hR0]
 generalize Ab a a.disks.length=all at hall
 refine Ar (HeadI pv pa c id sq all a h) (all.length - ·) ?_ 0 ?_
 ·rintro i r hp ⟨le,r0,r15,r16,r17,E,l⟩
  have hvp:=E.got hv
  have Ap:=A.ext (ArrI.loc pa q n cells ps a) E
  rcases Nat.lt_or_eq_of_le le with hlt|heq
  ·have hlt':(i:Int) < all.length:=by omega
   have hw1:IntKind.i64.wrap ((i:Int)+1)=(i:Int)+1:=wrap64 ω ω
   have hdr:all.drop i=all[i] :: all.drop (i+1):=List.drop_eq_getElem_cons hlt
   simp [r0,r15,r16,r17,hlt',hlt,List.getElem?_eq_getElem hlt,show I64 all[i]=AV.int .i64 all[i] from rfl]
   generalize all[i]=d at hdr
   refine (A4a hvp Ap hW (by rw [E.lp];exact hlp) d 0 (by have:=Q.short d 0;omega)).use ?_
   rw [hdr,N9] at l
   have htx:=Q.tx id d 0
   simp only [A49]
   generalize Cn a id d 0=g at l htx
   obtain ⟨b,is⟩:=g
   simp only at l htx
   simp [BlkA,hzB,AV.cells,Aj,hz5,putN,Heap.Aa,Heap.Ad]
   generalize hH1:Heap.put (Heap.alloc hp _) _ _=H1
   have E1:Ext hp H1:=by rw [←hH1];exact ((Ext.refl hp).alloc _).put (Nat.le_refl _) _
   have m1:H1.get hp.next=some [.int .i64 b.ar,.int .i64 b.dk,.int .i64 b.pl,.int .i64 b.ep,S b.tx]:=by rw [←hH1,Heap.Ad _ _ _ _ μ,if_pos rfl]
   clear hH1
   cases is with
   | false =>
    rw [if_neg μ] at l
    simp [r0,r15,r16,r17,hw1]
    exact ⟨i+1,ω,ω,by simpa using r0,by simpa using r15,by simpa using r16,μ,E.trans E1,l⟩
   | true =>
    simp [m1,A8]
    refine (Yg b.tx ω H1).use ?_
    simp only [Pr]
    generalize Ga b.tx=g at l
    obtain ⟨c1,e1⟩:=g
    simp only at l
    simp [CfA,hzz,AV.cells,Aj,hzC,putN,Heap.Aa,Heap.Ad]
    generalize hH2:Heap.put (Heap.alloc H1 _) _ _=H2
    have E2:Ext H1 H2:=by rw [←hH2];exact ((Ext.refl H1).alloc _).put (Nat.le_refl _) _
    have m2:H2.get H1.next=some [.int .i64 c1.k,.int .i64 c1.m,.int .i64 c1.sh,.int .i64 c1.st,.int .i64 c1.sl]:=by rw [←hH2,Heap.Ad _ _ _ _ μ,if_pos rfl]
    clear hH2
    have E02:=(E.trans E1).trans E2
    have hv2:=E02.got hv
    have A2:=A.ext (ArrI.loc pa q n cells ps a) E02
    have hpl:=Heap.Ah hv2
    refine Br 10 κ ?_
    by_cases he:e1=0
    rotate_left
    ·rw [if_neg (fun h=>he h.2.1)] at l
     simp [he,r0,r15,r16,r17,hw1]
     exact ⟨i+1,ω,ω,by simpa using r0,by simpa using r15,by simpa using r16,μ,E02,l⟩
    subst he
    simp [Ac haggC,hzC,takeN,m2]
    refine D7.use (x:= .int .i64 (C7 c1)) (Jp c1 H2) ?_
    simp [r0,A8,hv2,volC]
    refine D7.use (x:= .int .i64 a.disks.length) (Fb A2) ?_
    by_cases hcd:C7 c1=a.disks.length
    ·rw [if_pos ⟨trivial,rfl,hcd⟩] at l
     simp [hcd,r0,r15,r16,r17,A8,hv2,volC,Ac haggC,hzC,takeN,m2,Aj,putN,hpl,l]
     first
      | exact ⟨A2.put (ArrI.loc pa q n cells ps a) _ hR,Keep.put ((E02.keep hRl).mono fun b hb=>hb.1) _ (fun hk=>hk.2 rfl),by rw [Heap.Ad _ _ _ _ hpl,if_pos rfl]⟩
      | exact ⟨A2.put (ArrI.loc pa q n cells ps a) _ hR,Keep.put ((E02.keep hRl).mono fun b hb=>hb.1) _ (fun hk=>hk.2 rfl)⟩
    ·rw [if_neg (fun h=>hcd h.2.2)] at l
     simp [hcd,r0,r15,r16,r17,hw1]
     exact ⟨i+1,ω,ω,by simpa using r0,by simpa using r15,by simpa using r16,μ,E02,l⟩
  ·subst heq
   rw [List.drop_length,N9] at l
   simp [r0,r15,r16,r17,l]
   exact ⟨Ap,(E.keep hRl).mono fun b hb=>hb.1,hvp⟩
 ·exact ⟨ω,μ,μ,μ,μ,Ext.refl h,rfl⟩
end
end Go.Proofs.YtmbndhciflilbaaGreatDoor.X
