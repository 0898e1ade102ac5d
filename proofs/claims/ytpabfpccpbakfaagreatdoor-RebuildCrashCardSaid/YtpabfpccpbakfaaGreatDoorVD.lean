/-
  Texts of a proof, as one: V41, V42, V43, V44, V45, V46, V47, V48.
-/
import Derived.Test.YtpabfpccpbakfaaGreatDoorVC
namespace Go.Proofs.YtpabfpccpbakfaaGreatDoor.X
open Go.RowKit F
set_option maxRecDepth 100000
set_option linter.unusedSimpArgs false
set_option linter.unusedVariables false
structure VolB (k:Nat) (a:Arr) (c:Cfg):Prop where
 cf:As c
 q:ArrQ k a
 few:k < 2 ^ 29
theorem VolB.arr {k:Nat} {a:Arr} {c:Cfg} (B:VolB k a c):ArrB k a:=B.q.b
theorem VolB.short {k:Nat} {a:Arr} {c:Cfg} (B:VolB k a c):ArrS a:=fun d p=>by have:=B.q.short d p;omega
theorem VolB.tx {k:Nat} {a:Arr} {c:Cfg} (B:VolB k a c) (id d p:Int):(Cq a id d p).1.tx.length≤2 ^ 20:=by have:=B.q.tx id d p;omega
section
variable {pa q n:Nat} {cells:List AV} {ps:List Nat} {a:Arr} {R:Nat→Prop} {h:Heap} {pv:Nat} {c:Cfg} {id sq:Int} {k:Nat}
theorem Qs (a:Arr) (id:Int) (c:Cfg) (n:Int):(stE a id c n).length=a.disks.length:=by simp [stE,Vs]
theorem Ak7 (a:Arr) (id:Int) (c:Cfg) (n:Int):(stS a id c n).length=a.disks.length:=by simp [stS,Vs]
theorem A0m (B:VolB k a c) (hv:h.get pv=some (volC pa c id sq)) (A:At (ArrI pa q n cells ps a) R h) (hlp:h.lp=none) (nn:Int) :
  CSem Tryz.prog 75 [.ptr pv 0,.int .i64 nn] h fun x h'=>x=T0 (Cf a id c nn)∧h'=h:=by
 refine CSem.frz (k:=4) (Q:=fun x=>x=T0 (Cf a id c nn)) ?_
 refine CSem.body hm Tryz.func75 rfl (by kernel_rfl) (by kernel_rfl) (by simp [Tryz.ntmps75]) ?_
 have hfew:=B.arr.few
 have hzS:Au Tryz.prog 95=some (.agg [.nilSl,.nilSl]):=by kernel_rfl
 have hz2:szT Tryz.prog 95=some 2:=by kernel_rfl
 have haggS:aggT Tryz.prog 95=some true:=by kernel_rfl
 simp [Tryz.f75,hzS,AV.cells]
 generalize hH:h.alloc [.nilSl,.nilSl]=H
 have E:Ext h H:=by rw [←hH];exact (Ext.refl h).alloc _
 have g0:H.get h.next=some [.nilSl,.nilSl]:=by rw [←hH];exact Heap.A9 _ _
 have hnl:=Heap.Ah g0
 have hvH:=E.got hv
 have AH:At (ArrI pa q n cells ps a) R H:=A.ext (ArrI.loc pa q n cells ps a) E
 clear hH
 have eput:∀ zs,Ext h (H.put h.next zs):=fun zs=>E.put (Nat.le_refl _) zs
 have gput:∀ zs,(H.put h.next zs).get h.next=some zs:=fun zs=>by rw [Heap.Ad _ _ _ _ hnl,if_pos rfl]
 by_cases h1:nn < 0
 ·have hl:Cf a id c nn=⟨[],[],0,[],1⟩:=by simp [Cf,h1]
  simp [h1,Ab haggS,hz2,takeN,g0,Ae,putN,hnl,gput,hl,T0,eput]
  exact ⟨⟨rfl,rfl⟩,rfl⟩
 by_cases h2:c.st≤nn
 ·have hl:Cf a id c nn=⟨[],[],0,[],1⟩:=by simp [Cf,h2]
  simp [h1,h2,A8,hvH,volC,Ab haggS,hz2,takeN,g0,Ae,putN,hnl,gput,hl,T0,eput]
  exact ⟨⟨rfl,rfl⟩,rfl⟩
 simp [h1,h2,A8,hvH,volC]
 refine (Xt hvH AH).use ?_
 by_cases h3:a.down=true
 ·have hl:Cf a id c nn=⟨[],[],0,[],9⟩:=by simp [Cf,h1,h2,h3]
  simp [h3,Ab haggS,hz2,takeN,g0,Ae,putN,hnl,gput,hl,T0,eput]
  exact ⟨⟨rfl,rfl⟩,rfl⟩
 simp [h3]
 refine (Rr B.cf hvH AH B.arr (by have:=B.few;omega) B.short (by rw [E.lp];exact hlp) nn).use ?_
 simp [Ae,hz2,putN,g0,hnl]
 generalize hH1:H.put h.next [SL (stS a id c nn),IL (stE a id c nn)]=H1
 have E1:Ext h H1:=by rw [←hH1];exact eput _
 have g1:H1.get h.next=some [SL (stS a id c nn),IL (stE a id c nn)]:=by rw [←hH1];exact gput _
 have hnl1:=Heap.Ah g1
 have hv1:=E1.got hv
 clear hH1
 have hel:=Qs a id c nn
 refine Bh 8 (by kernel_rfl) ?_
 simp [Ab haggS,hz2,takeN,g1,A8,hv1,volC]
 refine Cp.use (x:= .int .i64 (epoR c.k (stE a id c nn))) (A8k (stS a id c nn) (stE a id c nn) c.k (by omega) (by simp) (by simp)) ?_
 simp
 have eput1:∀ zs,Ext h (H1.put h.next zs):=fun zs=>E1.put (Nat.le_refl _) zs
 have gput1:∀ zs,(H1.put h.next zs).get h.next=some zs:=fun zs=>by rw [Heap.Ad _ _ _ _ hnl1,if_pos rfl]
 by_cases h4:epoR c.k (stE a id c nn) < 0
 ·have hl:Cf a id c nn=⟨stS a id c nn,stE a id c nn,0,[],10⟩:=by simp [Cf,h1,h2,h3,h4]
  simp [h4,Ab haggS,hz2,takeN,g1,Ae,putN,hnl1,gput1,hl,T0,eput1]
  rfl
 have hl:Cf a id c nn=⟨stS a id c nn,stE a id c nn,epoR c.k (stE a id c nn),ofH (stE a id c nn) (epoR c.k (stE a id c nn)),0⟩:=by simp [Cf,h1,h2,h3,h4]
 simp [h4,Ab haggS,hz2,takeN,g1]
 refine (T1 (stS a id c nn) (stE a id c nn) (epoR c.k (stE a id c nn)) (by omega) (by simp) (by simp)).use ?_
 simp [Ab haggS,hz2,takeN,g1,Ae,putN,hnl1,gput1,hl,T0,eput1]
theorem Ak8 {N:Nat} : ∀ (l:Tab),(∀ x∈l,x.length≤N)→l.flatten.length≤N * l.length:=by
 intro l
 induction l with
 | nil=>simp
 | cons a t ih =>
  intro hx
  have h1:=ih (fun x hx'=>hx x (by simp [hx']))
  have h2:=hx a (by simp)
  rw [List.flatten_cons,List.length_append,List.length_cons,Nat.mul_add];omega
theorem A0n {k:Int} {l:Tab} {hs:List Bool} {N:Nat} (h1:∀ x∈l,x.length≤N) (hN:N < 2 ^ 30):(decD k l hs).1.flatten.length < 2 ^ 46:=by
 by_cases hz:decE k l hs=0
 ·obtain ⟨d,hd⟩:=A1u hz
  rw [hd.ok]
  have hM:=hd.may
  have hM1:=hM.1
  have hM2:=hM.2.1
  have hM3:=hM.2.2.2
  have hr:∀ x∈d,x.length≤N:=fun x hx=>by
   rw [hd.row x hx]
   unfold row0
   cases hx0:(left l hs).take k.toNat with
   | nil=>simp
   | cons a t =>
    have ha:a∈left l hs:=List.mem_of_mem_take (by rw [hx0];simp)
    unfold left at ha
    obtain ⟨p,hp,rfl⟩:=List.mem_map.1 ha
    exact h1 _ (List.of_mem_zip (List.mem_filter.1 hp).1).1
  have h3:=Ak8 d hr
  have h4:N * d.length≤N * 255:=Nat.mul_le_mul_left _ (by rw [hd.len];omega)
  show d.flatten.length < 2 ^ 46
  omega
 ·simp [decD,hz]
theorem A56 (c:Cfg) (l:Tab) (have_:List Bool) (h:Sm l) (hk:(Lit.int .i64 c.k).wf=true) (hh:have_.length < 2 ^ 48) (hfl:(decD c.k l have_).1.flatten.length < 2 ^ 46) {hp:Heap} {x y:AV} (hx:snap hp true 2 x=some (SL l)) (hy:snap hp true 2 y=some (OL have_)) :
  CSem Tryz.prog 111 [CfA c,x,y] hp fun x' h'=>x'=Nd c l have_∧h'=hp:=(A73 c l have_ h hk hh hfl).call (k:=2) (by simp [hx,hy,CfA])
theorem Acp (B:VolB k a c) (hv:h.get pv=some (volC pa c id sq)) (l:Tab) (es:List Int) (hs:List Bool) (hl:l.length < 2 ^ 40) (hl2:∀ x∈l,x.length≤2 ^ 20) (hh:hs.length < 2 ^ 48) :
  CSem Tryz.prog 76 [.ptr pv 0,.agg [SL l,IL es],OL hs] h fun x h'=>x = .tup [S (Hu c l hs).1,.int .i64 (Hu c l hs).2]∧h'=h:=by
 refine CSem.Lz (Q:=fun x=>x = .tup [S (Hu c l hs).1,.int .i64 (Hu c l hs).2]) (fun x hx=>by subst hx;exact ⟨3,_,rfl⟩) ?_
 refine CSem.body hm Tryz.func76 rfl (by kernel_rfl) (by kernel_rfl) (by simp [Tryz.ntmps76]) ?_
 have hzC:szT Tryz.prog 23=some 5:=by kernel_rfl
 have haggC:aggT Tryz.prog 23=some true:=by kernel_rfl
 have hsm:Sm l:=⟨hl,fun x hx=>by have:=hl2 x hx;omega⟩
 have hkk:(Lit.int .i64 c.k).wf=true:=by
  have h1:=B.cf.1.1
  have h2:=B.cf.1.2.2.2
  have h3:=B.cf.1.2.1
  simp [Lit.wf,IntKind.min,IntKind.max,IntKind.signed,IntKind.bits]
  omega
 simp [Tryz.f76,AV.cells]
 generalize hH:h.alloc [SL l,IL es]=H
 have E:Ext h H:=by rw [←hH];exact (Ext.refl h).alloc _
 have g0:H.get h.next=some [SL l,IL es]:=by rw [←hH];exact Heap.A9 _ _
 have hvH:=E.got hv
 clear hH
 refine Bh 13 (by kernel_rfl) ?_
 simp [A8,hvH,volC,Ab haggC,hzC,takeN,g0]
 refine Cp.use (x:=Nd c l hs) (A56 c l hs hsm hkk hh (A0n hl2 (by omega)) (by simp) (by simp)) ?_
 simp only [Nd,Hu]
 generalize Je c l hs=z
 obtain ⟨t,e⟩:=z
 by_cases he:e=0
 ·simp [he];exact E
 ·simp [he];exact E
theorem A57 {a:Arr} {id:Int} {c:Cfg} {nn:Int} (hS:∀ d p,(Cq a id d p).1.tx.length≤2 ^ 20):∀ x∈(Cf a id c nn).sh,x.length≤2 ^ 20:=by
 have h1:∀ x∈stS a id c nn,x.length≤2 ^ 20:=by
  intro x hx
  obtain ⟨p,hp,rfl⟩:=List.mem_map.1 hx
  obtain ⟨d,_,rfl⟩:=List.mem_map.1 hp
  unfold Dk
  split
  ·exact hS _ _
  ·simp
 unfold Cf
 split
 ·simp
 ·split
  ·simp
  ·split
   ·exact h1
   ·exact h1
theorem A0p (a:Arr) (id:Int) (c:Cfg) (nn:Int):(Cf a id c nn).sh.length≤a.disks.length∧(Cf a id c nn).es.length≤a.disks.length∧(Cf a id c nn).hv.length≤a.disks.length:=by
 have h1:=Qs a id c nn
 have h2:=Ak7 a id c nn
 unfold Cf
 split
 ·simp
 ·split
  ·simp
  ·split
   ·exact ⟨by simp [h2],by simp [h1],by simp⟩
   ·exact ⟨by simp [h2],by simp [h1],by simp [ofH,h1]⟩
theorem A4j (B:VolB k a c) (hv:h.get pv=some (volC pa c id sq)) (A:At (ArrI pa q n cells ps a) R h) (hlp:h.lp=none) (nn:Int) :
  CSem Tryz.prog 50 [.ptr pv 0,.int .i64 nn] h fun x h'=>x = .tup [.int .i64 (Cu a id c nn).1,.int .i64 (Cu a id c nn).2]∧h'=h:=by
 refine CSem.Lz (Q:=fun x=>x = .tup [.int .i64 (Cu a id c nn).1,.int .i64 (Cu a id c nn).2]) (fun x hx=>by subst hx;exact ⟨3,_,rfl⟩) ?_
 refine CSem.body hm Tryz.func50 rfl (by kernel_rfl) (by kernel_rfl) (by simp [Tryz.ntmps50]) ?_
 have hfew:=B.arr.few
 have hzS:Au Tryz.prog 95=some (.agg [.nilSl,.nilSl]):=by kernel_rfl
 have hz2:szT Tryz.prog 95=some 2:=by kernel_rfl
 have haggS:aggT Tryz.prog 95=some true:=by kernel_rfl
 simp [Tryz.f50]
 refine (A0m B hv A hlp nn).use ?_
 have hlen:=A0p a id c nn
 simp only [T0,Cu]
 generalize Cf a id c nn=L at hlen
 obtain ⟨sh,es,ep,hs,er⟩:=L
 simp only at hlen
 simp [hzS,AV.cells,Ae,hz2,putN,Heap.A9,Heap.Aa]
 generalize hH:Heap.put (Heap.alloc h _) _ _=H
 have E:Ext h H:=by rw [←hH];exact ((Ext.refl h).alloc _).put (Nat.le_refl _) _
 have g0:H.get h.next=some [SL sh,IL es]:=by rw [←hH,Heap.Ad _ _ _ _ (by simp),if_pos rfl]
 clear hH
 by_cases he:er=0
 ·simp [he,Ab haggS,hz2,takeN,g0]
  refine (T1 sh es ep (by omega) (by simp) (by simp)).use ?_
  simp
  exact E
 ·simp [he]
  exact E
end
def hasD (n:List Bool) (d:Int):Bool:=n[d.toNat]?.getD false
theorem CapA.atom {ws:AV} {l:List AV} {h:Heap} {F:Nat→Prop} (w:CapA ws l h F):ws.atom=true:=by
 rcases w with ⟨rfl,_⟩|⟨wb,c,cells,rfl,_⟩<;>rfl
theorem Aa5 {q:Nat} {n:List Bool} {h:Heap} (k:h.get q=some [OL n]) {d:Int} (hd:0≤d∧d < n.length):CSem Tryz.prog 78 [.int .i64 d,.ptr q 0] h fun x h'=>x = .bool (hasD n d)∧h'=h:=by
 refine CSem.body hm Tryz.func78 rfl (by kernel_rfl) (by kernel_rfl) (by simp [Tryz.ntmps78]) ?_
 have hi:d.toNat < n.length:=by omega
 have he:n[d.toNat]? = some (hasD n d):=by simp [hasD,hi]
 have he2:n[d.toNat]=hasD n d:=by simp [hasD,hi]
 simp [Tryz.f78,k,hd.1,hd.2,hi,he2]
def IdxH (n:List Bool) (l:List Int) (x:Int):Prop:=(x = -1∧∀ w∈l,hasD n w=false)∨∃ i:Nat,x=i∧∃ hi:i < l.length,hasD n l[i]=true∧∀ w∈l.take i,hasD n w=false
theorem Ag9 {q:Nat} {n:List Bool} {h:Heap} {ws:AV} {l:List Int} {G:Nat→Prop} (k:h.get q=some [OL n]) (hin:∀ w∈l,0≤w∧w < n.length) (w:CapA ws (l.map I64) h G) (hl:l.length < 2 ^ 40) :
  CSem Tryz.prog 112 [ws,.fn 78 [] [.ptr q 0]] h fun x h'=>(∃ i,x = .int .i64 i∧IdxH n l i)∧h'=h:=by
 refine CSem.body hm Tryz.func112 rfl (by kernel_rfl) (by kernel_rfl) (by simp [Tryz.ntmps112]) ?_
 have hlen:=w.len (P:=Tryz.prog) (t:=26) (by simp)
 rw [List.length_map] at hlen
 simp [Tryz.f112,hlen]
 refine Am (fun (i:Nat) r hp=>i≤l.length∧rg r 0=ws∧rg r 1 = .fn 78 [] [.ptr q 0]∧rg r 7 = .int .i64 l.length∧rg r 8 = .int .i64 i∧hp=h∧∀ w∈l.take i,hasD n w=false) (l.length - ·) ?_ 0 ?_
 ·rintro i r hp ⟨hi,g0,g1,g7,g8,rfl,hno⟩
  rcases Nat.lt_or_eq_of_le hi with hlt|heq
  ·obtain ⟨wb,c,cells,rfl,e2,e3⟩:=w.at (i:=i) (by simpa using hlt)
   rw [List.length_map] at g0
   simp only [List.getElem_map] at e3
   have hci:i < cells.length:=(List.getElem?_eq_some_iff.1 e3).1
   have hcg:cells[i]=I64 l[i]:=by
    have:=e3
    rw [List.getElem?_eq_getElem hci] at this
    exact Option.some.inj this
   have hnext:IntKind.i64.wrap ((i:Int)+1)=(i:Int)+1:=wrap64 (by omega) (by omega)
   simp [g0,g1,g7,g8,hlt,e2,hci,hcg]
   refine (Aa5 k (hin l[i] (List.getElem_mem hlt))).use ?_
   by_cases hw:hasD n l[i]=true
   ·simp [g0,g1,g7,g8,hw]
    exact .inr ⟨i,rfl,hlt,hw,hno⟩
   ·simp [g0,g1,g7,g8,hw,hnext]
    refine ⟨i+1,by omega,by omega,by push_cast;rfl,fun a hw2=> ?_⟩
    rw [List.take_succ_eq_append_getElem hlt,List.mem_append,List.mem_singleton] at hw2
    rcases hw2 with hw2|hw2
    ·exact hno a hw2
    ·rw [←hw2] at hw;simpa using hw
  ·subst heq
   simp [g0,g1,g7,g8]
   exact .inl ⟨rfl,by simpa using hno⟩
 ·exact ⟨by omega,by simp,by simp,by simp,by simp,rfl,by simp⟩
def Hf (n:List Bool) (l:List Int):List Int:=l.filter fun w => !hasD n w
theorem A0q {n:List Bool} {l:List Int} (h:∀ w∈l,hasD n w=false):Hf n l=l:=by
 rw [Hf,List.filter_eq_self]
 intro w hw
 simpa using h w hw
theorem Rs {n:List Bool} {l:List Int} {w:Int} : Hf n (l ++ [w])=Hf n l ++ (if hasD n w=true then [] else [w]):=by
 rw [Hf,List.filter_append]
 cases h:hasD n w<;>simp [Hf,h]
theorem A0r {n:List Bool} {l:List Int} : (Hf n l).length≤l.length:=List.length_filter_le _ _
theorem Aga {q:Nat} {n:List Bool} {h:Heap} {ws:AV} {l:List Int} {G:Nat→Prop} (k:h.get q=some [OL n]) (hin:∀ w∈l,0≤w∧w < n.length) (hqG:¬G q) (w:CapA ws (l.map I64) h G) (hl:l.length < 2 ^ 40) :
  CSem Tryz.prog 77 [ws,.fn 78 [] [.ptr q 0]] h fun x h'=>CapA x ((Hf n l).map I64) h' G∧x.atom=true∧(∀ b,¬G b→h'.get b=h.get b)∧h'.next=h.next∧h'.lp=h.lp∧h'.gh=h.gh:=by
 refine CSem.body hm Tryz.func77 rfl (by kernel_rfl) (by kernel_rfl) (by simp [Tryz.ntmps77]) ?_
 simp [Tryz.f77]
 refine (Ag9 k hin w hl).then ?_
 rintro _ h' ⟨⟨i0,rfl,hI⟩,hh⟩
 rw [hh]
 clear hh h'
 rcases hI with ⟨rfl,hno⟩|⟨i,rfl,hi,hwi,hno⟩
 ·simp
  rw [A0q hno]
  exact ⟨w,w.atom⟩
 have hne:¬((i:Int) = -1):=by omega
 have hw1:IntKind.i64.wrap ((i:Int)+1)=((i+1:Nat):Int):=by rw [wrap64 (by omega) (by omega)];push_cast;rfl
 rcases w with ⟨rfl,hl0,_⟩|⟨wb,c,cells,rfl,hg,hcl,hle,htk,hG⟩
 ·have:l=[]:=by simpa using hl0
  subst this
  simp at hi
 rw [List.length_map] at hle htk ⊢
 have hqb:q≠wb:=fun e=>hqG ((hG q).2 e)
 have hwbl:=Heap.Ah hg
 have hcell:∀ j (hj:j < l.length),cells[j]? = some (I64 l[j]):=fun j hj=>by
  have:=congrArg (·[j]?) htk
  simp only [List.getElem?_take,if_pos hj,List.getElem?_map,List.getElem?_eq_getElem hj,Option.map_some] at this
  exact this
 simp [hne,hw1]
 refine Am (fun (j:Nat) r hp=>j≤l.length∧rg r 0 = .sl wb 0 l.length c 1∧rg r 1 = .fn 78 [] [.ptr q 0]∧rg r 5 = .int .i64 (Hf n (l.take j)).length∧rg r 6 = .int .i64 j∧(Hf n (l.take j)).length < j ∧
  (∀ b,b≠wb→hp.get b=h.get b)∧hp.next=h.next∧hp.lp=h.lp∧hp.gh=h.gh∧∃ cs,hp.get wb=some cs∧cs.length=c∧cs.take (Hf n (l.take j)).length=(Hf n (l.take j)).map I64∧∀ m (hm:m < l.length),j≤m→cs[m]? = some (I64 l[m])) (l.length - ·) ?_ (i+1) ?_
 ·rintro j r hp ⟨hj,g0,g1,g5,g6,hlt2,ho,hnx,hlp,hgh,cs,c1,c2,c3,c4⟩
  rcases Nat.lt_or_eq_of_le hj with hlt|heq
  ·have hcj:=c4 j hlt (Nat.le_refl _)
   have hcjl:j < cs.length:=(List.getElem?_eq_some_iff.1 hcj).1
   have hcg:cs[j]=I64 l[j]:=by
    have:=hcj
    rw [List.getElem?_eq_getElem hcjl] at this
    exact Option.some.inj this
   have hnext:IntKind.i64.wrap ((j:Int)+1)=(j:Int)+1:=wrap64 (by omega) (by omega)
   have htj:l.take (j+1)=l.take j ++ [l[j]]:=List.take_succ_eq_append_getElem hlt
   have hkl:=A0r (n:=n) (l:=l.take j)
   simp only [List.length_take] at hkl
   obtain ⟨K,hK⟩:∃ K,K=Hf n (l.take j):=⟨_,rfl⟩
   rw [←hK] at hlt2 g5 c3 hkl
   have hnext2:IntKind.i64.wrap ((K.length:Int)+1)=(K.length:Int)+1:=wrap64 (by omega) (by omega)
   have hkc:K.length < cs.length:=by omega
   simp [g0,g1,g5,g6,hlt,c1,hcjl,hcg]
   refine (Aa5 ((ho q hqb).trans k) (hin l[j] (List.getElem_mem hlt))).use ?_
   by_cases hw:hasD n l[j]=true
   ·have hk2:Hf n (l.take (j+1))=K:=by rw [htj,Rs,if_pos hw,hK,List.append_nil]
    simp [g0,g1,g5,g6,hw,hnext]
    exact ⟨j+1,by omega,by omega,by rw [hk2],by push_cast;rfl,by rw [hk2];omega,ho,hnx,hlp,hgh,cs,c1,c2,by rw [hk2];exact c3,fun m hm hmj=>c4 m hm (by omega)⟩
   ·have hk2:Hf n (l.take (j+1))=K ++ [l[j]]:=by rw [htj,Rs,if_neg hw,hK]
    have hKl:K.length < l.length:=by omega
    have hput:(hp.put wb (cs.set K.length (I64 l[j]))).get wb=some (cs.set K.length (I64 l[j])):=Heap.Ac c1
    simp [g0,g1,g5,g6,hw,hnext,hnext2,hKl,c1,hkc]
    refine ⟨j+1,by omega,by omega,by rw [hk2];simp,by push_cast;rfl,by rw [hk2];simp;omega,fun b hb=> ?_,hnx,hlp,hgh,_,hput,by simp [c2],?_,fun m hm hmj=> ?_⟩
    ·rw [Heap.Ag c1 hb];exact ho b hb
    ·rw [hk2]
     simp only [List.length_append,List.length_cons,List.length_nil,Nat.zero_add,List.map_append,List.map_cons,List.map_nil]
     rw [←c3]
     apply List.ext_getElem?
     intro m
     rw [List.getElem?_take,List.getElem?_append,List.length_take,Nat.min_eq_left (by omega)]
     by_cases h1:m < K.length
     ·rw [if_pos (by omega),if_pos h1,List.getElem?_set_ne (by omega),List.getElem?_take,if_pos h1]
     ·by_cases h2:m=K.length
      ·subst h2
       rw [if_pos (by omega),if_neg h1,List.getElem?_set_self hkc,Nat.sub_self];rfl
      ·rw [if_neg (by omega),if_neg h1]
       rw [List.getElem?_eq_none (by simp;omega)]
    ·rw [List.getElem?_set_ne (by omega)];exact c4 m hm (by omega)
  ·subst heq
   rw [List.take_length] at g5 hlt2 c3
   have hkl:(Hf n l).length≤l.length:=A0r
   obtain ⟨K,hK⟩:∃ K,K=Hf n l:=⟨_,rfl⟩
   rw [←hK] at g5 hlt2 c3 hkl ⊢
   have hpn:putN cs K.length (List.replicate (l.length - K.length) (.int .i64 0))=some (cs.take K.length ++ (List.replicate (l.length - K.length) (.int .i64 0) ++ cs.drop l.length)):=by
    rw [putN,if_pos (by simp;omega),List.append_assoc]
    congr 4
    simp;omega
   obtain ⟨y,hy⟩:=Xk (P:=Tryz.prog) (h:=hp) (t:=26) (b:=wb) (off:=K.length) (n:=l.length - K.length) (c:=c - K.length) (by simp) (z:=(.int .i64 0)) (by simp) rfl c1 hpn
   have hd0:¬l.length - K.length=0:=by omega
   rw [if_neg hd0] at hy
   have hgp:=Heap.Ac (cs:=cs.take K.length ++ (List.replicate (l.length - K.length) (.int .i64 0) ++ cs.drop l.length)) c1
   have hKl:(K.length:Int)≤l.length:=by omega
   have hKc:K.length≤c:=by omega
   simp [g0,g1,g5,g6,M7,hy,hkl,hKc]
   refine ⟨.inr ⟨wb,c,_,by rw [List.length_map],hgp,by simp;omega,by simpa using hKc,?_,hG⟩,fun b hb=> ?_,hnx,hlp,hgh⟩
   ·rw [List.length_map,List.take_append_of_le_length (by simp;omega),List.take_take,Nat.min_self];exact c3
   ·rw [Heap.Ag c1 (fun e=>hb ((hG b).2 e))]
    exact ho b (fun e=>hb ((hG b).2 e))
 ·have hk0:Hf n (l.take (i+1))=l.take i:=by
   rw [List.take_succ_eq_append_getElem hi,Rs,if_pos hwi,List.append_nil,A0q hno]
  refine ⟨by omega,by simp,by simp,by rw [hk0];simp;omega,by simp,by rw [hk0];simp;omega,fun _ _=>rfl,rfl,rfl,rfl,cells,hg,hcl,?_,fun m hm _=>hcell m hm⟩
  rw [hk0,List.length_take,Nat.min_eq_left (by omega),List.map_take,←htk,List.take_take,Nat.min_eq_left (by omega)]
theorem At.ext2 {A:Asn} (L:Loc A) {R:Nat→Prop} {h h':Heap} (a:At A R h) (E:Ext h h'):At A (fun b=>R b∨(h.next≤b∧b < h'.next)) h':=by
 obtain ⟨F,h1,h2⟩:=a
 refine ⟨F,L.keep _ _ _ h1 (fun b hb=>E.get b (L.live _ _ _ h1 hb)),fun b hb=> ?_⟩
 rcases hb with hb|hb
 ·exact ⟨(h2 b hb).1,Nat.lt_of_lt_of_le (h2 b hb).2 E.next⟩
 ·exact ⟨fun hF=>by have:=L.live _ _ _ h1 hF;omega,hb.2⟩
theorem Ext.keep {R:Nat→Prop} {h h':Heap} (E:Ext h h') (hR:∀ b,R b→b < h.next):Keep R h h':=⟨E.next,E.lp,E.gh,fun b hb=>E.get b (hR b hb)⟩
theorem A8m (s:Txt) (z:Int):(cutR s z).1 < 2 ^ 62:=by have:=(Sf s z).2;omega
theorem A58 (s:Txt):(C5 s).1.ep < 2 ^ 62:=by
 have h3:opVl s 3 < 2 ^ 62:=A8m _ _
 unfold C5
 split
 ·decide
 ·split
  ·decide
  ·split
   ·decide
   ·split
    ·decide
    ·split
     ·decide
     ·exact h3
theorem A59 (a:Arr) (id d p:Int):(Cq a id d p).1.ep < 2 ^ 62:=by
 unfold Cq
 split
 ·unfold Cr
  dsimp only
  split
  ·exact A58 _
  ·show (0:Int) < 2 ^ 62;decide
 ·decide
theorem A0s (a:Arr) (id:Int) (c:Cfg) (n:Int):∀ e∈stE a id c n,e < 2 ^ 62:=by
 intro e he
 obtain ⟨p,hp,rfl⟩:=List.mem_map.1 he
 obtain ⟨d,_,rfl⟩:=List.mem_map.1 hp
 unfold Dk
 split
 ·exact A59 _ _ _ _
 ·decide
theorem A5a (es:List Int) (k:Int):∀ (l:List Int) (b:Int),epoF es k l b=b∨epoF es k l b∈l
 | [],b=> .inl rfl
 | e :: l,b=>by
  rw [epoF]
  rcases A5a es k l (if b < e∧k≤ofN es e then e else b) with h|h
  ·rw [h]
   split
   ·exact .inr (List.mem_cons_self ..)
   ·exact .inl rfl
  ·exact .inr (List.mem_cons_of_mem _ h)
theorem Agb (a:Arr) (id:Int) (c:Cfg) (n:Int):(Cf a id c n).ep < 2 ^ 62:=by
 unfold Cf
 split
 ·decide
 ·split
  ·decide
  ·split
   ·show (0:Int) < 2 ^ 62;decide
   ·show epoR c.k (stE a id c n) < 2 ^ 62
    rcases A5a (stE a id c n) c.k (stE a id c n) (-1) with h|h
    ·rw [epoR,h];decide
    ·exact A0s a id c n _ h
theorem A8n {c:Cfg} {l:Tab} {hs:List Bool} (h1:∀ x∈l,x.length≤2 ^ 20):(Hu c l hs).1.length < 2 ^ 46:=by
 have h2:=A0n (k:=c.k) (hs:=hs) h1 (by omega)
 have h3:=Hc (decD c.k l hs).1.flatten 4
 unfold Hu
 split
 ·unfold Je
  split
  ·decide
  ·split
   ·decide
   ·split
    ·decide
    ·split
     ·decide
     ·split
      ·simp
      ·unfold txtD
       split
       ·decide
       ·split
        ·simp;omega
        ·decide
 ·decide
theorem Hz {a:Arr} {n:Nat} : ∀ d∈Ak a n,0≤d∧d < n∧a.alive d=true:=by
 intro d hd
 obtain ⟨k,hk,rfl⟩:=List.mem_map.1 hd
 obtain ⟨h1,h2⟩:=List.mem_filter.1 hk
 have:=List.mem_range.1 h1
 exact ⟨by omega,by omega,h2⟩
theorem Ja {k:Nat} {a:Arr} (h:ArrQ k a) (b:BlkD):ArrQ (k+1) (vput a b):=by
 unfold vput
 split
 ·exact h.write _ _ _
 ·exact h.mono (by omega)
@[simp] theorem vput_len (a:Arr) (b:BlkD):(vput a b).disks.length=a.disks.length:=by
 unfold vput
 split<;>simp
theorem Agc {id pl ep:Int} {l:Tab} : ∀ (ds:List Int) {k:Nat} {a:Arr},ArrQ k a→ArrQ (k+ds.length) (vshL id pl ep l a ds).1
 | [],k,a,h=>h
 | d :: ds,k,a,h=>by
  rw [vshL]
  split
  ·exact (Agc ds (Ja h _)).mono (by simp;omega)
  ·exact (Ja h _).mono (by simp)
theorem Lx {k:Nat} {a:Arr} (h:ArrQ k a) (id:Int) (c:Cfg) (n ep:Int) (t:Txt) (ds:List Int):ArrQ (k+ds.length) (vshR a id c n ep t ds).1:=by
 unfold vshR
 split
 ·exact Agc ds h
 ·exact h.mono (by omega)
theorem A5b {id pl ep:Int} {l:Tab} : ∀ (ds:List Int) (a:Arr),(vshL id pl ep l a ds).1.disks.length=a.disks.length
 | [],a=>rfl
 | d :: ds,a=>by
  rw [vshL]
  split
  ·rw [A5b ds];simp
  ·simp
@[simp] theorem A5c (a:Arr) (id:Int) (c:Cfg) (n ep:Int) (t:Txt) (ds:List Int):(vshR a id c n ep t ds).1.disks.length=a.disks.length:=by
 unfold vshR
 split
 ·exact A5b ds a
 ·rfl
section
variable {pa q n:Nat} {cells:List AV} {ps:List Nat} {a:Arr} {R:Nat→Prop} {h:Heap} {pv:Nat} {c:Cfg} {id sq:Int} {k:Nat}
theorem Abx (B:VolB k a c) (hd:(a.disks.length:Int)=c.k+c.m) (hk:k < 2 ^ 28) (hid:id < 2 ^ 62) (hv:h.get pv=some (volC pa c id sq)) (A:At (ArrI pa q n cells ps a) R h) (hR:R pv) (hlp:h.lp=none) (nn:Int) :
  CSem Tryz.prog 36 [.ptr pv 0,.int .i64 nn] h fun x h'=>x = .tup [.int .i64 (Bm a id c nn).2.1,.int .i64 (Bm a id c nn).2.2]∧At (ArrI pa q n cells ps (Bm a id c nn).1) R h'∧Keep R h h':=by
 refine CSem.body hm Tryz.func36 rfl (by kernel_rfl) (by kernel_rfl) (by simp [Tryz.ntmps36]) ?_
 have hfew:=B.arr.few
 have hzS:Au Tryz.prog 95=some (.agg [.nilSl,.nilSl]):=by kernel_rfl
 have hz2:szT Tryz.prog 95=some 2:=by kernel_rfl
 have haggS:aggT Tryz.prog 95=some true:=by kernel_rfl
 simp [Tryz.f36]
 refine (A0m B hv A hlp nn).use ?_
 have hlen:=A0p a id c nn
 have hsh:=A57 (a:=a) (id:=id) (c:=c) (nn:=nn) (B.tx id)
 have hep:=Agb a id c nn
 have hhv:(Cf a id c nn).er=0→(Cf a id c nn).hv.length=a.disks.length:=by
  unfold Cf
  split
  ·intro h;cases h
  ·split
   ·intro h;cases h
   ·split
    ·intro h;cases h
    ·intro _;simp [ofH,Qs]
 simp only [T0,Bm]
 generalize Cf a id c nn=L at hlen hsh hep hhv
 obtain ⟨sh,es,ep,hs,er⟩:=L
 simp only at hlen hsh hep hhv
 have e0:((h.alloc [.nilSl,.nilSl]).alloc [.nilSl]).get h.next=some [.nilSl,.nilSl]:=Heap.Af (Heap.A9 _ _)
 have e1:(((h.alloc [.nilSl,.nilSl]).alloc [.nilSl]).put h.next [SL sh,IL es]).get (h.next+1)=some [.nilSl]:=by
  rw [Heap.Ag e0 (by omega)];exact Heap.A9 _ _
 simp [hzS,AV.cells,Ae,hz2,putN,e0,e1]
 generalize hH:Heap.put (Heap.put _ _ _) _ _=H
 have E:Ext h H:=by rw [←hH];exact ((((Ext.refl h).alloc _).alloc _).put (Nat.le_refl _) _).put (by omega) _
 have g1:H.get (h.next+1)=some [OL hs]:=by rw [←hH];exact Heap.Ac e1
 have g0:H.get h.next=some [SL sh,IL es]:=by rw [←hH,Heap.Ag e1 (by omega)];exact Heap.Ac e0
 have hRl:∀ b,R b→b < h.next:=fun b hb=>A.lt hb
 have hvH:=E.got hv
 have AH:At (ArrI pa q n cells ps a) R H:=A.ext (ArrI.loc pa q n cells ps a) E
 clear hH
 by_cases he:er=0
 rotate_left
 ·simp [he]
  exact ⟨AH,E.keep hRl⟩
 subst he
 have hhv:=hhv rfl
 simp [Ab haggS,hz2,takeN,g0,g1]
 refine (Acp B hvH sh es hs (by omega) hsh (by omega)).use ?_
 have htl:=A8n (c:=c) (hs:=hs) hsh
 generalize Hu c sh hs=t at htl
 obtain ⟨t,e2⟩:=t
 simp only at htl
 by_cases he2:e2=0
 rotate_left
 ·simp [he2]
  exact ⟨AH,E.keep hRl⟩
 subst he2
 simp [A8,hvH,volC]
 refine (D9 AH).use ?_
 simp
 refine (Xv hvH AH a.disks.length (by omega)).then ?_
 rintro x h1 ⟨⟨G,hx,hG⟩,hat,E1⟩
 have g11:=E1.got g1
 simp
 have hin:∀ w∈Ak a a.disks.length,0≤w∧w < hs.length:=fun w hw=>by have:=Hz w hw;omega
 have hall:=Cd a a.disks.length
 refine (Aga g11 hin (fun hg=>by have:=hG _ hg;have:=Heap.Ah g1;omega) hx (by omega)).then ?_
 rintro y h2 ⟨hy,hya,q1,q2,q3,q4⟩
 have hkl:Hf hs (Ak a a.disks.length)=Fm a hs:=rfl
 rw [hkl] at hy
 have E2:Ext H h2:=⟨by have:=E1.next;omega,q3.trans E1.lp,q4.trans E1.gh,fun b hb=>by rw [q1 b (fun hg=>by have:=hG b hg;omega)];exact E1.get b hb⟩
 have Eh2:=E.trans E2
 have hv2:=Eh2.got hv
 have A2:=A.ext2 (ArrI.loc pa q n cells ps a) Eh2
 have hll:(Fm a hs).length≤a.disks.length:=Nat.le_trans (List.length_filter_le _ _) hall
 simp
 have hGl:∀ b,G b→h.next≤b∧b < h2.next:=fun b hb=>⟨by have:=hG b hb;have:=E.next;omega,hy.live hb⟩
 have hsem:=A54 (ep:=ep) (t:=t) (nn:=nn) (id:=id) (sq:=sq) (k:=k) B.cf hv2 A2 (.inl hR) B.arr hy (fun b hb=> .inr (hGl b hb)) (by omega) hid hep htl (fun d hd=>by
  have:=hin d (List.mem_filter.1 hd).1;omega)
 refine hsem.then ?_
 rintro _ h3 ⟨rfl,A3,K3⟩
 have B3:VolB (k+(Fm a hs).length) (vshR a id c nn ep t (Fm a hs)).1 c:=⟨B.cf,Lx B.q id c nn ep t _,by omega⟩
 have K:Keep R h h3:=(Eh2.keep hRl).trans (K3.mono fun b hb=> .inl hb)
 have hy3:CapA y ((Fm a hs).map I64) h3 G:=hy.keep fun b hb=>K3.get b (.inr (hGl b hb))
 have A4:At (ArrI pa q n cells ps (vshR a id c nn ep t (Fm a hs)).1) (fun b=>R b∨(h.next≤b∧b < h2.next)) h3:=A3
 have hv3:=K3.got (.inl hR) hv2
 have hln:lenX Tryz.prog 26 y=some (.int .i64 ((Fm a hs).length:Int)):=by
  have:=hy.len (P:=Tryz.prog) (t:=26) (by simp)
  rwa [List.length_map] at this
 simp only [tryR]
 generalize vshR a id c nn ep t (Fm a hs)=p at B3 A4
 obtain ⟨a3,e3⟩:=p
 simp only at B3 A4
 by_cases he3:e3=0
 rotate_left
 ·simp [he3]
  exact ⟨A4.mono fun b hb=> .inl hb,K⟩
 subst he3
 simp [A8,hv3,volC]
 refine (Km A4 B3.arr (by have:=B3.few;omega)).then ?_
 rintro _ h4 ⟨rfl,A5,K5⟩
 have K4:=K.trans (K5.mono fun b hb=> .inl hb)
 by_cases hdn:a3.down=true
 ·simp [hdn,By,Arr.Le]
  exact ⟨A5.mono fun b hb=> .inl hb,K4⟩
 ·simp [hdn,By,Arr.Le,hln]
  exact ⟨A5.mono fun b hb=> .inl hb,K4⟩
end
theorem Sr {id:Int} {c:Cfg} : ∀ (ds:List Int) {k:Nat} {a:Arr} {m:Int},ArrQ k a→ArrQ (k+ds.length) (D6 id c a m ds).1
 | [],k,a,m,h=>h
 | d :: ds,k,a,m,h=>by
  rw [D6]
  split
  ·exact (Sr ds h).mono (by simp)
  ·split
   ·exact (Sr ds (Ja h _)).mono (by simp;omega)
   ·exact (Ja h _).mono (by simp)
@[simp] theorem Y0 {id:Int} {c:Cfg} : ∀ (ds:List Int) (a:Arr) (m:Int),(D6 id c a m ds).1.disks.length=a.disks.length
 | [],a,m=>rfl
 | d :: ds,a,m=>by
  rw [D6]
  split
  ·exact Y0 ds a m
  ·split
   ·rw [Y0 ds];simp
   ·simp
theorem A0t (c:Cfg):(Gb c).length < 2 ^ 46:=by
 have h1:∀ n:Int,(putR n 2).1.length≤2:=by
  intro n
  unfold putR
  split
  ·split
   ·simp
   ·simp [Qh]
  ·simp
 have a1:=h1 c.k
 have a2:=h1 c.m
 have a3:=h1 c.sh
 have a4:=h1 c.st
 have a5:=h1 c.sl
 simp only [Gb,Jf,List.map_cons,List.map_nil,List.flatten_cons,List.flatten_nil,List.length_append,List.length_cons,List.length_nil]
 omega
structure HdI (pv pa q n:Nat) (cells:List AV) (ps:List Nat) (c:Cfg) (id sq:Int) (k:Nat) (all:List Int) (a0:Arr) (R:Nat→Prop) (h:Heap) (i:Nat) (r:Regs) (hp:Heap):Prop where
 le:i≤all.length
 r0:rg r 0 = .ptr pv 0
 r5:rg r 5=S (Gb c)
 r33:rg r 33=IL all
 r34:rg r 34 = .int .i64 all.length
 r35:rg r 35 = .int .i64 i
 arr:∃ a m,rg r 7 = .int .i64 m∧0≤m∧m≤i∧D6 id c a0 0 all=D6 id c a m (all.drop i)∧At (ArrI pa q n cells ps a) R hp∧Keep R h hp∧ArrQ (k+i) a
section
variable {pa q n:Nat} {cells:List AV} {ps:List Nat} {a:Arr} {R:Nat→Prop} {h:Heap} {pv:Nat} {c:Cfg} {id sq:Int} {k:Nat}
theorem A7m (B:VolB k a c) (hk:k < 2 ^ 28) (hid:id < 2 ^ 62) (hv:h.get pv=some (volC pa c id sq)) (A:At (ArrI pa q n cells ps a) R h) (hR:R pv) (hlp:h.lp=none) :
  CSem Tryz.prog 35 [.ptr pv 0] h fun x h'=>x = .tup [.int .i64 (B7 a id c).2.1,.int .i64 (B7 a id c).2.2]∧At (ArrI pa q n cells ps (B7 a id c).1) R h'∧Keep R h h':=by
 refine CSem.body hm Tryz.func35 rfl (by kernel_rfl) (by kernel_rfl) (by simp [Tryz.ntmps35]) ?_
 have hfew:=B.arr.few
 have hzB:Au Tryz.prog 123=some (.agg [.int .i64 0,.int .i64 0,.int .i64 0,.int .i64 0,S []]):=by kernel_rfl
 have hz5:szT Tryz.prog 123=some 5:=by kernel_rfl
 have haggC:aggT Tryz.prog 23=some true:=by kernel_rfl
 have hzC:szT Tryz.prog 23=some 5:=by kernel_rfl
 simp [Tryz.f35]
 refine (Xt hv A).use ?_
 by_cases hdn:a.down=true
 ·simp [hdn,B7]
  exact ⟨A,Keep.refl R h⟩
 simp [hdn,A8,hv,volC,Ab haggC,hzC,takeN]
 refine (Pv B.cf h).use ?_
 simp [A8,hv,volC]
 refine (D9 A).use ?_
 simp
 refine (Gx hv A a.disks.length (by omega)).use ?_
 simp
 have hall:=Cd a a.disks.length
 have hcl:=A0t c
 simp only [B7,if_neg hdn]
 obtain ⟨all,hae⟩:∃ all,all=Ak a a.disks.length:=⟨_,rfl⟩
 have hmem:∀ d∈all,d < 2 ^ 62:=fun d hd=>by rw [hae] at hd;have:=Hz d hd;omega
 rw [←hae] at hall ⊢
 refine Am (HdI pv pa q n cells ps c id sq k all a R h) (all.length - ·) ?_ 0 ?_
 ·rintro i r hp ⟨le,r0,r5,r33,r34,r35,a1,m,r7,m0,m1,e1,A1,K1,Q1⟩
  have hvp:=K1.got hR hv
  rcases Nat.lt_or_eq_of_le le with hlt|heq
  ·have hlt':(i:Int) < all.length:=by omega
   have hw1:IntKind.i64.wrap ((i:Int)+1)=(i:Int)+1:=wrap64 (by omega) (by omega)
   have hw2:IntKind.i64.wrap (m+1)=m+1:=wrap64 (by omega) (by omega)
   have hdr:all.drop i=all[i] :: all.drop (i+1):=List.drop_eq_getElem_cons hlt
   have hB1:VolB (k+i) a1 c:=⟨B.cf,Q1,by omega⟩
   have hW:∀ d∈a1.disks,d.waits.length < 2 ^ 40:=fun d hd=>by have:=(Q1.b.disks d hd).few;omega
   simp [r0,r5,r7,r33,r34,r35,hlt',hlt,List.getElem?_eq_getElem hlt,show I64 all[i]=AV.int .i64 all[i] from rfl]
   have hdm:=hmem all[i] (List.getElem_mem hlt)
   generalize all[i]=d at hdr hdm
   refine (Xu hvp A1 hW (by rw [K1.lp];exact hlp) d 0 (by have:=Q1.short d 0;omega)).use ?_
   have hi:isHd a1 id d c↔(Cq a1 id d 0).2=true∧(Cq a1 id d 0).1.tx=Gb c:=Iff.rfl
   simp only [A0g]
   rw [hdr,D6] at e1
   generalize Cq a1 id d 0=g at hi
   obtain ⟨b,is⟩:=g
   simp only at hi
   simp [BlkA,hzB,AV.cells,Ae,hz5,putN,Heap.Aa,Heap.Ad]
   generalize hH1:Heap.put (Heap.alloc hp _) _ _=H1
   have E1:Ext hp H1:=by rw [←hH1];exact ((Ext.refl hp).alloc _).put (Nat.le_refl _) _
   have m1':H1.get hp.next=some [.int .i64 b.ar,.int .i64 b.dk,.int .i64 b.pl,.int .i64 b.ep,S b.tx]:=by rw [←hH1,Heap.Ad _ _ _ _ (by simp),if_pos rfl]
   clear hH1
   have hv1:=E1.got hvp
   have AH1:=A1.ext (ArrI.loc pa q n cells ps a1) E1
   have KH1:Keep R h H1:=K1.trans (E1.keep fun b hb=>A1.lt hb)
   have put:∀ (h1:¬isHd a1 id d c),CSem Tryz.prog 61 [.ptr pv 0,.int .i64 d,.int .i64 0,.int .i64 0,S (Gb c)] H1 fun x h'=>x = .int .i64 (Eb a1 (hdB id d c))∧At (ArrI pa q n cells ps (vput a1 (hdB id d c))) R h'∧Keep R H1 h' :=
    fun _=>Pw (b:=hdB id d c) hv1 AH1 hR Q1.b (by omega) ⟨hid,hdm,by show (0:Int) < 2 ^ 62;decide,by show (0:Int) < 2 ^ 62;decide,hcl⟩ rfl
   by_cases hi2:isHd a1 id d c
   ·rw [if_pos hi2] at e1
    obtain ⟨i1,i2⟩:=hi.1 hi2
    simp [i1,i2,m1',A8,r0,r5,r7,r33,r34,r35,hw1]
    exact ⟨i+1,by omega,by omega,by simpa using r0,by simpa using r5,by simpa using r33,by simpa using r34,by simp,a1,m,by simpa using r7,m0,by omega,e1,AH1,KH1,Q1.mono (by omega)⟩
   ·rw [if_neg hi2] at e1
    have fin:∀ r3:Regs,True:=fun _=>trivial
    cases is with
    | false =>
     simp [r0,r5,r7,r33,r34,r35]
     refine (put hi2).then ?_
     rintro _ h5 ⟨rfl,A5,K5⟩
     by_cases hv0:Eb a1 (hdB id d c)=0
     ·rw [if_pos hv0] at e1
      simp [hv0,r0,r5,r7,r33,r34,r35,hw1,hw2]
      exact ⟨i+1,by omega,by omega,by simpa using r0,by simpa using r5,by simpa using r33,by simpa using r34,by simp,_,m+1,by simp,by omega,by push_cast;omega,e1,A5,KH1.trans K5,(Ja Q1 _).mono (by omega)⟩
     ·rw [if_neg hv0] at e1
      simp [hv0,e1]
      exact ⟨A5,KH1.trans K5⟩
    | true =>
     have i2:¬b.tx=Gb c:=fun e=>hi2 (hi.2 ⟨rfl,e⟩)
     simp [i2,m1',A8,r0,r5,r7,r33,r34,r35]
     refine (put hi2).then ?_
     rintro _ h5 ⟨rfl,A5,K5⟩
     by_cases hv0:Eb a1 (hdB id d c)=0
     ·rw [if_pos hv0] at e1
      simp [hv0,r0,r5,r7,r33,r34,r35,hw1,hw2]
      exact ⟨i+1,by omega,by omega,by simpa using r0,by simpa using r5,by simpa using r33,by simpa using r34,by simp,_,m+1,by simp,by omega,by push_cast;omega,e1,A5,KH1.trans K5,(Ja Q1 _).mono (by omega)⟩
     ·rw [if_neg hv0] at e1
      simp [hv0,e1]
      exact ⟨A5,KH1.trans K5⟩
  ·subst heq
   rw [List.drop_length,D6] at e1
   simp [r0,r5,r7,r33,r34,r35,A8,hvp,volC,e1]
   refine (Km A1 Q1.b (by omega)).then ?_
   rintro _ h4 ⟨rfl,A5,K5⟩
   by_cases hd1:a1.down=true
   ·simp [hd1,Arr.Le]
    exact ⟨A5,K1.trans K5⟩
   ·simp [hd1,Arr.Le,r7]
    exact ⟨A5,K1.trans K5⟩
 ·exact ⟨by omega,by simp,by simp,by simp,by simp,by simp,a,0,by simp,by omega,by omega,rfl,A,Keep.refl R h,B.q⟩
end
theorem Y1 {eb:Nat} {e:Int} {h:Heap} {g:FuncId} {xs ys:List AV} (he:h.get eb=some [.int .i64 e]) {Q:Heap→Prop}
  (hc:e=0→CSem Tryz.prog g (xs ++ ys) h fun x h'=> ∃ e' z,x = .int .i64 e'∧h'.get eb=some [z]∧Q (h'.put eb [.int .i64 e'])) (h0:e≠0→Q h):CSem Tryz.prog 63 [.fn g xs ys,.ptr eb 0] h fun x h'=>x = .tup []∧Q h':=by
 refine CSem.body hm Tryz.func63 rfl (by kernel_rfl) (by kernel_rfl) (by simp [Tryz.ntmps63]) ?_
 by_cases hz:e=0
 ·subst hz
  simp [Tryz.f63,he]
  refine (hc rfl).then ?_
  rintro _ h' ⟨e',z,rfl,hg,hq⟩
  have:=Heap.Ah hg
  simp [hg]
  exact hq
 ·simp [Tryz.f63,he,hz]
  exact h0 hz
section
variable {pa q n:Nat} {cells:List AV} {ps:List Nat} {a:Arr} {R:Nat→Prop} {h:Heap} {pv:Nat} {c:Cfg} {id sq:Int} {k:Nat}
theorem Ak9 (B:VolB k a c) (hk:k < 2 ^ 28) (hid:id < 2 ^ 62) (hv:h.get pv=some (volC pa c id sq)) (A:At (ArrI pa q n cells ps a) R h) (hR:R pv) (hs0:0≤sq) (hs1:sq < 2 ^ 61) {vb db rb:Nat} {d:Int} {t:Txt}
  (g1:h.get vb=some [.ptr pv 0]) (g2:h.get db=some [.int .i64 d]) (g3:h.get rb=some [S t]) (hd:d < 2 ^ 62) (ht:t.length < 2 ^ 46) :
  CSem Tryz.prog 65 [.ptr vb 0,.ptr db 0,.ptr rb 0] h fun x h'=>x = .int .i64 (Eb a (jrB id c sq t d))∧At (ArrI pa q n cells ps (vput a (jrB id c sq t d))) R h'∧Keep R h h':=by
 refine CSem.body hm Tryz.func65 rfl (by kernel_rfl) (by kernel_rfl) (by simp [Tryz.ntmps65]) ?_
 have haggC:aggT Tryz.prog 23=some true:=by kernel_rfl
 have hzC:szT Tryz.prog 23=some 5:=by kernel_rfl
 refine A2u (v:= .int .i64 0) rfl ?_
 refine Xn ?_
 refine Bh 16 (by kernel_rfl) ?_
 simp [g1,g2,g3,A8,hv,volC,Ab haggC,hzC,takeN]
 refine Cp.use (x:= .int .i64 (1+sq % c.sl)) (U7 B.cf sq hs0 h) ?_
 simp [g1,g2,g3,A8,hv,volC]
 have hsl:=B.cf.2.2.2.2.1
 have hp:1+sq % c.sl < 2 ^ 62:=by have:=Int.emod_lt_of_pos sq (show 0 < c.sl by omega);omega
 refine (Pw (b:=jrB id c sq t d) hv A hR B.arr (by omega) ⟨hid,hd,hp,by show sq < 2 ^ 62;omega,ht⟩ rfl).then ?_
 rintro _ h' ⟨rfl,A2,K2⟩
 simp
 exact ⟨A2,K2⟩
theorem Aka (B:VolB k a c) (hk:k < 2 ^ 28) (hid:id < 2 ^ 62) (hv:h.get pv=some (volC pa c id sq)) (A:At (ArrI pa q n cells ps a) R h) (hR:R pv) (hs0:0≤sq) (hs1:sq < 2 ^ 61) {vb nb sb ab:Nat} {nn:Int} {t:Txt} {all:List Int}
  (g1:h.get vb=some [.ptr pv 0]) (g2:h.get nb=some [.int .i64 nn]) (g3:h.get sb=some [S t]) (g4:h.get ab=some [IL all]) (hal:all.length < 2 ^ 20) (hd:∀ d∈all,0≤d∧d < c.k+c.m) (ht:t.length < 2 ^ 46) :
  CSem Tryz.prog 67 [.ptr vb 0,.ptr nb 0,.ptr sb 0,.ptr ab 0] h fun x h'=>x = .int .i64 (vshR a id c nn (sq+1) t all).2∧At (ArrI pa q n cells ps (vshR a id c nn (sq+1) t all).1) R h'∧Keep R h h':=by
 refine CSem.body hm Tryz.func67 rfl (by kernel_rfl) (by kernel_rfl) (by simp [Tryz.ntmps67]) ?_
 refine A2u (v:= .int .i64 0) rfl ?_
 refine Xn ?_
 refine Bh 9 (by kernel_rfl) ?_
 have hw:IntKind.i64.wrap (sq+1)=sq+1:=wrap64 (by omega) (by omega)
 simp [g1,g2,g3,g4,A8,hv,volC,hw]
 refine (N7 B.cf hv A hR B.arr nn (sq+1) t (by omega) hid (by omega) ht hd).then ?_
 rintro _ h' ⟨rfl,A2,K2⟩
 simp
 exact ⟨A2,K2⟩
end
theorem Agd {id:Int} {c:Cfg} {sq:Int} {r:Txt} {d:Int} {ds:List Int} {p:Arr×Int} : jrL id c sq r (d :: ds) p=jrL id c sq r ds (tryR p fun a=>X4 a (jrB id c sq r d)):=rfl
theorem A5d (i:IntD):(Bw i).1.length < 2 ^ 46:=by
 unfold Bw
 split
 ·have a1:=He i.sq 7
  have a2:=He i.st 2
  have a3:(Ec i.tx).1.length≤65538:=by
   unfold Ec
   split<;>simp<;>omega
  simp only [Fe,List.map_cons,List.map_nil,List.flatten_cons,List.flatten_nil,List.length_append,List.length_nil,show imag.length=3 from rfl]
  omega
 ·simp
def Wr7H (H:Heap) (all:List Int) (b15 b16:Bool):Heap:=if b16=true then (H.alloc [.nilSl]).put H.next [IL all] else if b15=true then H.alloc [.nilSl] else H
theorem Wr7H.ext (H:Heap) (all:List Int) (b15 b16:Bool):Ext H (Wr7H H all b15 b16):=by
 unfold Wr7H
 split
 ·exact ((Ext.refl H).alloc _).put (Nat.le_refl _) _
 ·split
  ·exact (Ext.refl H).alloc _
  ·exact Ext.refl H
def Wr7V (pv pa n7:Nat) (nd m:Int) (all jn:List Int):Nat→AV→Prop
 | 3,v=>v = .ptr pv 0
 | 4,v=>v = .ptr pa 0
 | 5,v=>v = .int .i64 nd
 | 6,v=>v=IL all
 | 10,v=>v = .ptr pv 1
 | 11,v=>v = .ptr pv 2
 | 12,v=>v = .int .i64 m
 | 13,v=>v = .int .i64 (m+1)
 | 14,v=>v=IL jn
 | 15,v=>v = .ptr n7 0
 | 17,v=>v=IL jn
 | _,v=>v = .ptr pv 0
def T2 (H:Heap) (eb:Nat) (rt:Txt) (e:Int) (b11 b12 b13:Bool):Heap:=if b13=true then ((H.alloc [S []]).put H.next [S rt]).put eb [.int .i64 e] else if b12=true then (H.alloc [S []]).put H.next [S rt] else if b11=true then H.alloc [S []] else H
def Ks (pv n11:Nat) (nn sq:Int) (t rt:Txt) (e:Int):Nat→AV→Prop
 | 0,v=>v = .ptr pv 0
 | 1,v=>v = .ptr pv 0
 | 2,v=>v = .ptr pv 7
 | 3,v=>v = .int .i64 sq
 | 4,v=>v = .int .i64 nn
 | 5,v=>v=S t
 | 6,v=>v = .agg [.int .i64 sq,.int .i64 nn,S t]
 | 7,v=>v = .tup [S rt,.int .i64 e]
 | 8,v=>v = .tup [S rt,.int .i64 e]
 | 9,v=>v=S rt
 | 10,v=>v = .int .i64 e
 | _,v=>v = .ptr n11 0
section
variable {pa q n:Nat} {cells:List AV} {ps:List Nat} {a:Arr} {R:Nat→Prop} {h:Heap} {pv:Nat} {c:Cfg} {id sq:Int} {k:Nat}
theorem T3 (hv:h.get pv=some (volC pa c id sq)) (A:At (ArrI pa q n cells ps a) R h) (N:Int) (h0:0≤N) (hN:N < 2 ^ 30):CSem Tryz.prog 41 [.ptr pv 0,.int .i64 N] h fun x h'=>x=IL (Ak a N.toNat)∧h'=h:=by
 have:=Gx hv A N.toNat (by omega)
 rwa [Int.toNat_of_nonneg h0] at this
theorem wr7 {cd:Code} (hc:(Tryz.f30.body).bind (Es 7)=some cd) {r:Regs} {H:Heap} {Q:Out→Regs→Heap→Prop} (B:VolB k a c) {vb:Nat} (r3:rg r 3 = .ptr vb 0) (g1:H.get vb=some [.ptr pv 0])
  (hv:H.get pv=some (volC pa c id sq)) (A:At (ArrI pa q n cells ps a) R H)
  (hQ:∀ r':Regs,(∀ d,((d < 45∧d≠7∧d≠8)∨59 < d)→rg r' d=rg r d)→rg r' 7 = .ptr H.next 0→rg r' 8=IL (Ak a (c.m+1).toNat)→Q .norm r' ((H.alloc [.nilSl]).put H.next [IL (Ak a a.disks.length)])):wpc Tryz.prog cd Q r H:=by
 simp [Tryz.f30,Es] at hc
 subst hc
 have hfew:=B.arr.few
 have hm0:=B.cf.1.1
 have hm1:=B.cf.1.2.1
 have hm2:=B.cf.1.2.2
 have hw1:IntKind.i64.wrap (c.m+1)=c.m+1:=wrap64 (by omega) (by omega)
 have hcm:((c.m+1).toNat:Int)=c.m+1:=by omega
 refine Gf (fun L _ h=>h=Wr7H H (Ak a a.disks.length) (L 15) (L 16)) (Wr7V pv pa H.next a.disks.length c.m (Ak a a.disks.length) (Ak a (c.m+1).toNat)) (by kernel_rfl) rfl ?_ ?_
 ·intro L r1 H1 hH cl hr
  have q3:rg r1 3 = .ptr vb 0:=(Db hr (by kernel_rfl)).trans r3
  have E1:Ext H H1:=by rw [hH];exact Wr7H.ext H _ _ _
  have g1':=E1.got g1
  have hv':=E1.got hv
  have A1:=A.ext (ArrI.loc pa q n cells ps a) E1
  refine ⟨?_,?_,?_,?_,?_,?_,?_,?_,?_,?_,?_,?_,?_,?_,?_,?_,?_,?_,trivial⟩
  all_goals (intro hL hd;simp [DepL,VL,Wr7V,Region.binds] at hd)
  ·simp [q3,g1',Wr7V];exact ⟨_,rfl,rfl,hH⟩
  ·simp [q3,g1',Wr7V];exact ⟨_,rfl,rfl,hH⟩
  ·simp [hd,Wr7V];exact ⟨_,rfl,rfl,hH⟩
  ·simp [hd,A8,hv',volC,Wr7V];exact ⟨_,rfl,rfl,hH⟩
  ·simp [hd,A8,hv',volC,Wr7V];exact ⟨_,rfl,rfl,hH⟩
  ·simp [hd]
   refine (D9 A1).use ?_
   simp [Wr7V];exact ⟨_,rfl,rfl,hH⟩
  ·simp [hd]
   refine (Gx hv' A1 a.disks.length (by omega)).use ?_
   simp [Wr7V];exact ⟨_,rfl,rfl,hH⟩
  ·simp [q3,g1',Wr7V];exact ⟨_,rfl,rfl,hH⟩
  ·simp [q3,g1',Wr7V];exact ⟨_,rfl,rfl,hH⟩
  ·simp [hd,Wr7V];exact ⟨_,rfl,rfl,hH⟩
  ·simp [hd,A8,hv',volC,Wr7V];exact ⟨_,rfl,rfl,hH⟩
  ·simp [hd,A8,hv',volC,Wr7V];exact ⟨_,rfl,rfl,hH⟩
  ·simp [hd,A8,hv',volC,Wr7V];exact ⟨_,rfl,rfl,hH⟩
  ·simp [hd,hw1,Wr7V];exact ⟨_,rfl,rfl,hH⟩
  ·simp [hd]
   refine (T3 hv' A1 (c.m+1) (by omega) (by omega)).use ?_
   simp [Wr7V];exact ⟨_,rfl,rfl,hH⟩
  ·have h16:=cl 16 15 (by kernel_rfl) hL
   have e:H1=H:=by rw [hH];unfold Wr7H;simp [h16,show L 15=false from hL]
   subst e
   simp [Wr7V,Wr7H,h16]
  ·have l16:L 16=false:=hL
   have l15:L 15=true:=by simp [hd]
   have e:H1=H.alloc [.nilSl]:=by rw [hH];unfold Wr7H;simp [l16,l15]
   subst e
   simp [hd,Heap.A9,Wr7H]
  ·rw [show L 15=true from by simp [hd],show L 16=true from by simp [hd]] at hH
   simp [hd,Wr7V];exact ⟨_,rfl,rfl,hH⟩
 ·intro L r1 H1 hall hH hr hA
  have e:H1=(H.alloc [.nilSl]).put H.next [IL (Ak a a.disks.length)]:=by rw [hH];unfold Wr7H;simp [hall 16 (by decide)]
  subst e
  obtain ⟨_,_,_,_,_,_,_,_,_,_,_,_,_,_,_,h15,_,h17,_⟩:=hA
  simp [VL,Wr7V] at h15 h17
  exact hQ r1 (fun d hd=>hr d (by simp;omega)) h15 h17
theorem wr12 {cd:Code} (hc:(Tryz.f30.body).bind (Es 12)=some cd) {r:Regs} {H:Heap} {Q:Out→Regs→Heap→Prop} {vb nb sb eb:Nat} {nn:Int} {t:Txt} {z:AV} (r3:rg r 3 = .ptr vb 0) (r4:rg r 4 = .ptr nb 0) (r5:rg r 5 = .ptr sb 0) (r9:rg r 9 = .ptr eb 0)
  (g1:H.get vb=some [.ptr pv 0]) (g2:H.get nb=some [.int .i64 nn]) (g3:H.get sb=some [S t]) (ge:H.get eb=some [z]) (hv:H.get pv=some (volC pa c id sq)) (hne:eb≠vb∧eb≠nb∧eb≠sb∧eb≠pv) (hi:IntB ⟨sq,nn,t⟩)
  (hQ:∀ r':Regs,(∀ d,((d < 74∧d≠11)∨84 < d)→rg r' d=rg r d)→rg r' 11 = .ptr H.next 0→Q .norm r' (((H.alloc [S []]).put H.next [S (Bw ⟨sq,nn,t⟩).1]).put eb [.int .i64 (Bw ⟨sq,nn,t⟩).2])):wpc Tryz.prog cd Q r H:=by
 simp [Tryz.f30,Es] at hc
 subst hc
 have hz9:Au Tryz.prog 9=some (S []):=by kernel_rfl
 have hbd:∀ (x y:Int) (t:Txt),Ce Tryz.prog 98 [(0,.int .i64 x),(1,.int .i64 y),(2,S t)]=some (.agg [.int .i64 x,.int .i64 y,S t]):=fun x y t=>by kernel_rfl
 have hel:=Heap.Ah ge
 obtain ⟨ne1,ne2,ne3,ne4⟩:=hne
 have hcall:=fun (H1:Heap)=>A53 ⟨sq,nn,t⟩ hi H1
 simp only [IntA,Sz] at hcall
 generalize Bw ⟨sq,nn,t⟩=w at hcall hQ
 obtain ⟨rt,e⟩:=w
 simp only at hcall hQ
 refine Gf (fun L _ h=>h=T2 H eb rt e (L 11) (L 12) (L 13)) (Ks pv H.next nn sq t rt e) (by kernel_rfl) rfl ?_ ?_
 ·intro L r1 H1 hH cl hr
  have q3:rg r1 3 = .ptr vb 0:=(Db hr (by kernel_rfl)).trans r3
  have q4:rg r1 4 = .ptr nb 0:=(Db hr (by kernel_rfl)).trans r4
  have q5:rg r1 5 = .ptr sb 0:=(Db hr (by kernel_rfl)).trans r5
  have q9:rg r1 9 = .ptr eb 0:=(Db hr (by kernel_rfl)).trans r9
  have got:∀ b cs,b≠eb→H.get b=some cs→H1.get b=some cs:=by
   intro b cs hb hg
   have hbl:=Heap.Ah hg
   have e1:Ext H (H.alloc [S []]):=(Ext.refl H).alloc _
   have e2:Ext H ((H.alloc [S []]).put H.next [S rt]):=e1.put (Nat.le_refl _) _
   rw [hH]
   unfold T2
   split
   ·rw [Heap.Ad _ _ _ _ (by simp;omega),if_neg hb];exact e2.got hg
   ·split
    ·exact e2.got hg
    ·split
     ·exact e1.got hg
     ·exact hg
  have g1':=got vb _ (Ne.symm ne1) g1
  have g2':=got nb _ (Ne.symm ne2) g2
  have g3':=got sb _ (Ne.symm ne3) g3
  have hv':=got pv _ (Ne.symm ne4) hv
  refine ⟨?_,?_,?_,?_,?_,?_,?_,?_,?_,?_,?_,?_,?_,?_,trivial⟩
  all_goals (intro hL hd;simp [DepL,VL,Ks,Region.binds] at hd)
  ·simp [q3,g1',Ks];exact ⟨_,rfl,rfl,hH⟩
  ·simp [hd,Ks];exact ⟨_,rfl,rfl,hH⟩
  ·simp [hd,A8,hv',volC,Ks];exact ⟨_,rfl,rfl,hH⟩
  ·simp [hd,A8,hv',volC,Ks];exact ⟨_,rfl,rfl,hH⟩
  ·simp [q4,g2',Ks];exact ⟨_,rfl,rfl,hH⟩
  ·simp [q5,g3',Ks];exact ⟨_,rfl,rfl,hH⟩
  ·simp [hd,hbd,Ks];exact ⟨_,rfl,rfl,hH⟩
  ·simp [hd]
   refine (hcall H1).use ?_
   simp [Ks];exact ⟨_,rfl,rfl,hH⟩
  ·simp [hd,Ks];exact ⟨_,rfl,rfl,hH⟩
  ·simp [hd,Ks];exact ⟨_,rfl,rfl,hH⟩
  ·simp [hd,Ks];exact ⟨_,rfl,rfl,hH⟩
  ·have h12:=cl 12 11 (by kernel_rfl) hL
   have h13:=cl 13 12 (by kernel_rfl) h12
   have e:H1=H:=by rw [hH];unfold T2;simp [h12,h13,show L 11=false from hL]
   subst e
   simp [hz9,show (S []).cells=[S []] from rfl,Ks,T2,h12,h13]
  ·have l12:L 12=false:=hL
   have h13:=cl 13 12 (by kernel_rfl) hL
   have l11:L 11=true:=by simp [hd]
   have e:H1=H.alloc [S []]:=by rw [hH];unfold T2;simp [l12,l11,h13]
   subst e
   simp [hd,Heap.A9,T2,h13]
  ·have l13:L 13=false:=hL
   have l12:L 12=true:=by simp [hd]
   have e:H1=(H.alloc [S []]).put H.next [S rt]:=by rw [hH];unfold T2;simp [l12,l13]
   subst e
   have ge1:((H.alloc [S []]).put H.next [S rt]).get eb=some [z]:=(((Ext.refl H).alloc _).put (Nat.le_refl _) _).got ge
   have gel:=Heap.Ah ge1
   simp [hd,q9,ge1,gel,T2]
 ·intro L r1 H1 hall hH hr hA
  have e:H1=((H.alloc [S []]).put H.next [S rt]).put eb [.int .i64 e]:=by rw [hH];unfold T2;simp [hall 13 (by decide)]
  subst e
  obtain ⟨_,_,_,_,_,_,_,_,_,_,_,h11,_⟩:=hA
  simp [VL,Ks] at h11
  exact hQ r1 (fun d hd=>hr d (by simp;omega)) h11
end
structure WrI (pv pa q n:Nat) (cells:List AV) (ps:List Nat) (c:Cfg) (id sq:Int) (k:Nat) (jn:List Int) (rt:Txt) (p0:Arr×Int) (R R1:Nat→Prop) (vb nb sb ab eb rb:Nat) (hL:Heap) (i:Nat) (r:Regs) (hp:Heap):Prop where
 le:i≤jn.length
 r3:rg r 3 = .ptr vb 0
 r4:rg r 4 = .ptr nb 0
 r5:rg r 5 = .ptr sb 0
 r7:rg r 7 = .ptr ab 0
 r9:rg r 9 = .ptr eb 0
 r10:rg r 10 = .fn 63 [] [.ptr eb 0]
 r11:rg r 11 = .ptr rb 0
 r85:rg r 85=IL jn
 r86:rg r 86 = .int .i64 jn.length
 r87:rg r 87 = .int .i64 i
 arr:∃ p,jrL id c sq rt jn p0=jrL id c sq rt (jn.drop i) p∧At (ArrI pa q n cells ps p.1) (fun b=>R1 b∨b=eb) hp∧Keep R1 hL hp∧hp.get eb=some [.int .i64 p.2]∧ArrQ (k+i) p.1
section
variable {pa q n:Nat} {cells:List AV} {ps:List Nat} {a:Arr} {R:Nat→Prop} {h:Heap} {pv:Nat} {c:Cfg} {id sq:Int} {k:Nat}
theorem A7p (B:VolB k a c) (hd:(a.disks.length:Int)=c.k+c.m) (hk:k < 2 ^ 27) (hid:id < 2 ^ 62) (hv:h.get pv=some (volC pa c id sq)) (A:At (ArrI pa q n cells ps a) R h) (hR:R pv) (hs0:0≤sq) (hs1:sq < 2 ^ 61) (hlp:h.lp=none) (nn:Int) (t:Txt) :
  CSem Tryz.prog 30 [.ptr pv 0,.int .i64 nn,S t] h fun x h'=>x = .int .i64 (Bf a id c sq nn t).2.2∧At (ArrI pa q n cells ps (Bf a id c sq nn t).1) R h'∧Keep (fun b=>R b∧b≠pv) h h'∧h'.get pv=some (volC pa c id (Bf a id c sq nn t).2.1):=by
 refine CSem.body hm Tryz.func30 rfl (by kernel_rfl) (by kernel_rfl) (by simp [Tryz.ntmps30]) ?_
 have hfew:=B.arr.few
 have haggC:aggT Tryz.prog 23=some true:=by kernel_rfl
 have hzC:szT Tryz.prog 23=some 5:=by kernel_rfl
 have hRl:∀ b,R b→b < h.next:=fun b hb=>A.lt hb
 simp [Tryz.f30,show (AV.ptr pv 0).cells=[.ptr pv 0] from rfl,show (S t).cells=[S t] from rfl,show (AV.int .i64 nn).cells=[.int .i64 nn] from rfl,show (AV.ptr pv 0).atom=true from rfl]
 generalize hH:((h.alloc [.ptr pv 0]).alloc [.int .i64 nn]).alloc [S t]=H
 have E:Ext h H:=by rw [←hH];exact (((Ext.refl h).alloc _).alloc _).alloc _
 have g1:H.get h.next=some [.ptr pv 0]:=by rw [←hH];exact Heap.Af (Heap.Af (Heap.A9 _ _))
 have g2:H.get (h.next+1)=some [.int .i64 nn]:=by rw [←hH];exact Heap.Af (Heap.A9 (h.alloc [.ptr pv 0]) _)
 have g3:H.get (h.next+2)=some [S t]:=by rw [←hH];exact Heap.A9 ((h.alloc [.ptr pv 0]).alloc [.int .i64 nn]) _
 have hHn:H.next=h.next+3:=by rw [←hH];rfl
 clear hH
 have hvH:=E.got hv
 have AH:=A.ext (ArrI.loc pa q n cells ps a) E
 have done:∀ {H':Heap},Ext h H'→At (ArrI pa q n cells ps a) R H'∧Keep (fun b=>R b∧b≠pv) h H'∧H'.get pv=some (volC pa c id sq):=fun {H'} E' =>
  ⟨A.ext (ArrI.loc pa q n cells ps a) E',(E'.keep hRl).mono fun b hb=>hb.1,E'.got hv⟩
 refine Bh 16 (by kernel_rfl) ?_
 by_cases h1:nn < 0
 ·have hr:Bf a id c sq nn t=(a,sq,1):=by simp [Bf,h1]
  simp [g1,g2,h1,hr]
  first|exact done E|exact ⟨(done E).1,(done E).2.1⟩
 by_cases h2:c.st≤nn
 ·have hr:Bf a id c sq nn t=(a,sq,1):=by simp [Bf,h2]
  simp [g1,g2,h1,A8,hvH,volC,h2,hr]
  first|exact done E|exact ⟨(done E).1,(done E).2.1⟩
 simp [g1,g2,h1,A8,hvH,volC,h2]
 refine Bh 9 (by kernel_rfl) ?_
 simp [g3,g1,A8,hvH,volC,Ab haggC,hzC,takeN]
 refine Cp.use (x:= .int .i64 (Bg c)) (Se c H) ?_
 by_cases h3:Bg c < t.length
 ·have hr:Bf a id c sq nn t=(a,sq,12):=by simp [Bf,h1,h2,h3]
  simp [h3,hr]
  first|exact done E|exact ⟨(done E).1,(done E).2.1⟩
 simp [h3,g1,A8,hvH,volC]
 refine (Mf AH).use ?_
 by_cases h4:a.down=true
 ·have hr:Bf a id c sq nn t=(a,sq,9):=by simp [Bf,h1,h2,h3,h4]
  simp [h4,hr]
  first|exact done E|exact ⟨(done E).1,(done E).2.1⟩
 have hm0:=B.cf.1.1
 have hm1:=B.cf.1.2.1
 have hm2:=B.cf.1.2.2
 have hw1:IntKind.i64.wrap (c.m+1)=c.m+1:=wrap64 (by omega) (by omega)
 have hcm:((c.m+1).toNat:Int)=c.m+1:=by omega
 simp [h4]
 refine wr7 (by kernel_rfl) B (vb:=h.next) (by simp) g1 hvH AH ?_
 intro r7 rr7 r77 r78
 have q3:rg r7 3 = .ptr h.next 0:=(rr7 3 (by omega)).trans (by simp)
 have q4:rg r7 4 = .ptr (h.next+1) 0:=(rr7 4 (by omega)).trans (by simp)
 have q5:rg r7 5 = .ptr (h.next+2) 0:=(rr7 5 (by omega)).trans (by simp)
 clear rr7
 have hall:=Cd a a.disks.length
 have hjnl:=Cd a (c.m+1).toNat
 have hmem:∀ d∈Ak a a.disks.length,0≤d∧d < c.k+c.m:=fun d hd=>by have:=Hz d hd;omega
 have hmemj:∀ d∈Ak a (c.m+1).toNat,d < 2 ^ 62:=fun d hd=>by have:=Hz d hd;omega
 have hr:Bf a id c sq nn t=if ((Ak a a.disks.length).length:Int) < c.k∨(Ak a (c.m+1).toNat).length=0 then (a,sq,10) else
   ((tryR (tryR (tryR (jrL id c sq (Bw ⟨sq,nn,t⟩).1 (Ak a (c.m+1).toNat) (a,(Bw ⟨sq,nn,t⟩).2)) By) fun a1=>vshR a1 id c nn (sq+1) t (Ak a a.disks.length)) By).1,
    if (tryR (tryR (tryR (jrL id c sq (Bw ⟨sq,nn,t⟩).1 (Ak a (c.m+1).toNat) (a,(Bw ⟨sq,nn,t⟩).2)) By) fun a1=>vshR a1 id c nn (sq+1) t (Ak a a.disks.length)) By).2=0 then sq+1 else sq,
    (tryR (tryR (tryR (jrL id c sq (Bw ⟨sq,nn,t⟩).1 (Ak a (c.m+1).toNat) (a,(Bw ⟨sq,nn,t⟩).2)) By) fun a1=>vshR a1 id c nn (sq+1) t (Ak a a.disks.length)) By).2):=by
  rw [Bf,if_neg (by omega),if_neg h3,if_neg h4]
 rw [hr]
 clear hr
 generalize Ak a a.disks.length=all at hall hmem r77 ⊢
 generalize Ak a (c.m+1).toNat=jn at hjnl hmemj r78 ⊢
 have hHl:H.next < (H.alloc [.nilSl]).next:=by simp
 have ga:((H.alloc [.nilSl]).put H.next [IL all]).get H.next=some [IL all]:=by rw [Heap.Ad _ _ _ _ hHl,if_pos rfl]
 have E1:Ext H ((H.alloc [.nilSl]).put H.next [IL all]):=((Ext.refl H).alloc _).put (Nat.le_refl _) _
 have hn1:((H.alloc [.nilSl]).put H.next [IL all]).next=H.next+1:=rfl
 generalize (H.alloc [.nilSl]).put H.next [IL all]=H1 at ga E1 hn1 ⊢
 have Eh1:=E.trans E1
 have g11:=E1.got g1
 have hv1:=E1.got hvH
 have c1:((all.length:Int) < c.k)=(((all.length:Int)) < c.k):=rfl
 simp
 refine Bh 13 (by kernel_rfl) ?_
 by_cases h5:(all.length:Int) < c.k
 ·simp [r77,ga,q3,g11,A8,hv1,volC,h5]
  first|exact done Eh1|exact ⟨(done Eh1).1,(done Eh1).2.1⟩
 by_cases h6:jn.length=0
 ·have h6':jn=[]:=List.eq_nil_of_length_eq_zero h6
  simp [r77,r78,ga,q3,g11,A8,hv1,volC,h5,h6,h6']
  first|exact done Eh1|exact ⟨(done Eh1).1,(done Eh1).2.1⟩
 have h6':jn≠[]:=fun e=>h6 (by rw [e];rfl)
 have h6i:¬(jn.length:Int)=0:=by omega
 simp [r77,r78,ga,q3,g11,A8,hv1,volC,h5,h6,h6']
 have ea:(H1.alloc [AV.int .i64 0]).get H1.next=some [.int .i64 0]:=Heap.A9 _ _
 simp [ea]
 have hel0:H1.next < (H1.alloc [AV.int .i64 0]).next:=by simp
 have E2:Ext H1 ((H1.alloc [AV.int .i64 0]).put H1.next [.int .i64 0]):=((Ext.refl H1).alloc _).put (Nat.le_refl _) _
 have ge:((H1.alloc [AV.int .i64 0]).put H1.next [.int .i64 0]).get H1.next=some [.int .i64 0]:=Heap.Ac ea
 have hn2:((H1.alloc [AV.int .i64 0]).put H1.next [.int .i64 0]).next=H1.next+1:=rfl
 generalize (H1.alloc [AV.int .i64 0]).put H1.next [.int .i64 0]=H2 at E2 ge hn2 ⊢
 have hpvl:=Heap.Ah hv
 have htl:(t.length:Int)≤Bg c:=by omega
 have hcap:Bg c≤4000:=by unfold Bg;have:=B.cf.2.2.2.2.2;split<;>omega
 have hst:=B.cf.2.2.2.1
 have hib:IntB ⟨sq,nn,t⟩:=⟨by show sq < 2 ^ 62;omega,by show nn < 2 ^ 62;omega,by show t.length < 2 ^ 46;omega⟩
 refine wr12 (pv:=pv) (c:=c) (id:=id) (sq:=sq) (vb:=h.next) (nb:=h.next+1) (sb:=h.next+2) (eb:=H1.next) (nn:=nn) (t:=t) (by kernel_rfl) (by simp [q3]) (by simp [q4]) (by simp [q5]) (by simp) (E2.got g11) (E2.got (E1.got g2)) (E2.got (E1.got g3)) ge (E2.got hv1)
  (by omega) hib ?_
 intro r12 rr12 r1211
 have hrt:=A5d ⟨sq,nn,t⟩
 generalize Bw ⟨sq,nn,t⟩=w at hrt ⊢
 obtain ⟨rt,e0⟩:=w
 simp only at hrt ⊢
 have p3:rg r12 3 = .ptr h.next 0:=(rr12 3 (by omega)).trans (by simp [q3])
 have p4:rg r12 4 = .ptr (h.next+1) 0:=(rr12 4 (by omega)).trans (by simp [q4])
 have p5:rg r12 5 = .ptr (h.next+2) 0:=(rr12 5 (by omega)).trans (by simp [q5])
 have p7:rg r12 7 = .ptr H.next 0:=(rr12 7 (by omega)).trans (by simp [r77])
 have p8:rg r12 8=IL jn:=(rr12 8 (by omega)).trans (by simp [r78])
 have p9:rg r12 9 = .ptr H1.next 0:=(rr12 9 (by omega)).trans (by simp)
 have p10:rg r12 10 = .fn 63 [] [.ptr H1.next 0]:=(rr12 10 (by omega)).trans (by simp)
 clear rr12
 have E3a:Ext H2 ((H2.alloc [S []]).put H2.next [S rt]):=((Ext.refl H2).alloc _).put (Nat.le_refl _) _
 have gr:((H2.alloc [S []]).put H2.next [S rt]).get H2.next=some [S rt]:=Heap.Ac (Heap.A9 _ _)
 have E3:Ext H1 (((H2.alloc [S []]).put H2.next [S rt]).put H1.next [.int .i64 e0]):=(E2.trans E3a).put (Nat.le_refl _) _
 have ge3:(((H2.alloc [S []]).put H2.next [S rt]).put H1.next [.int .i64 e0]).get H1.next=some [.int .i64 e0]:=Heap.Ac (E3a.got ge)
 have gr3:(((H2.alloc [S []]).put H2.next [S rt]).put H1.next [.int .i64 e0]).get H2.next=some [S rt]:=by rw [Heap.Ag (E3a.got ge) (by omega)];exact gr
 have hn3:(((H2.alloc [S []]).put H2.next [S rt]).put H1.next [.int .i64 e0]).next=H2.next+1:=rfl
 generalize ((H2.alloc [S []]).put H2.next [S rt]).put H1.next [.int .i64 e0]=H3 at E3 ge3 gr3 hn3 ⊢
 clear E3a gr
 have E30:=Eh1.trans E3
 have A3:At (ArrI pa q n cells ps a) (fun b=>(R b∨(h.next≤b∧b < H3.next∧b≠H1.next))∨b=H1.next) H3:=(A.ext2 (ArrI.loc pa q n cells ps a) E30).mono fun b hb=>by
  rcases hb with (hb|hb)|hb
  ·exact .inl hb
  ·exact .inr ⟨hb.1,hb.2.1⟩
  ·exact .inr ⟨by omega,by omega⟩
 simp [p8]
 have kput:∀ (h5:Heap) (z:List AV),Keep (fun b=>R b∨(h.next≤b∧b < H3.next∧b≠H1.next)) H3 h5→Keep (fun b=>R b∨(h.next≤b∧b < H3.next∧b≠H1.next)) H3 (h5.put H1.next z):=fun h5 z K=>Keep.put K _ (fun hk=>by
  rcases hk with hk|hk
  ·have:=hRl _ hk;have:=E.next;omega
  ·omega)
 have tflush:∀ (kk:Nat) (p:Arr×Int) (hz:Heap),kk < 2 ^ 29→At (ArrI pa q n cells ps p.1) (fun b=>(R b∨(h.next≤b∧b < H3.next∧b≠H1.next))∨b=H1.next) hz→Keep (fun b=>R b∨(h.next≤b∧b < H3.next∧b≠H1.next)) H3 hz→hz.get H1.next=some [.int .i64 p.2]→ArrQ kk p.1 →
   CSem Tryz.prog 63 [.fn 49 [.ptr pa 0] [],.ptr H1.next 0] hz fun x h'=>x = .tup []∧∃ p',tryR p By=p'∧At (ArrI pa q n cells ps p'.1) (fun b=>(R b∨(h.next≤b∧b < H3.next∧b≠H1.next))∨b=H1.next) h'∧Keep (fun b=>R b∨(h.next≤b∧b < H3.next∧b≠H1.next)) H3 h'∧h'.get H1.next=some [.int .i64 p'.2]∧ArrQ kk p'.1:=by
  rintro kk ⟨a5,e5⟩ hz hkk A5 K5 ge5 Q5
  simp only at A5 ge5 Q5
  refine Y1 ge5 ?_ ?_
  ·intro he5
   subst he5
   refine (Km A5 Q5.b (by omega)).mono ?_
   rintro _ h6 ⟨rfl,A6,K6⟩
   have hge6:=K6.got (.inr rfl) ge5
   refine ⟨_,_,rfl,hge6,By a5,by simp [tryR],A6.put (ArrI.loc pa q n cells ps _) _ (.inr rfl),kput _ _ (K5.trans (K6.mono fun b hb=> .inl hb)),?_,Q5.flush⟩
   rw [Heap.Ac hge6];rfl
  ·intro he5
   exact ⟨(a5,e5),by simp [tryR,he5],A5,K5,ge5,Q5⟩
 refine Am (WrI pv pa q n cells ps c id sq k jn rt (a,e0) R (fun b=>R b∨(h.next≤b∧b < H3.next∧b≠H1.next)) h.next (h.next+1) (h.next+2) H.next H1.next H2.next H3) (jn.length - ·) ?_ 0 ?_
 ·rintro i r hp ⟨le,r3,r4,r5,r7,r9,r10,r11,r85,r86,r87,p,e1,A4,K4,ge4,Q4⟩
  obtain ⟨a4,e4⟩:=p
  simp only at e1 A4 ge4 Q4
  have hv4:hp.get pv=some (volC pa c id sq):=K4.got (.inl hR) (E30.got hv)
  have gv4:hp.get h.next=some [.ptr pv 0]:=K4.got (.inr (by omega)) (E3.got g11)
  have gn4:hp.get (h.next+1)=some [.int .i64 nn]:=K4.got (.inr (by omega)) (E3.got (E1.got g2))
  have gs4:hp.get (h.next+2)=some [S t]:=K4.got (.inr (by omega)) (E3.got (E1.got g3))
  have ga4:hp.get H.next=some [IL all]:=K4.got (.inr (by omega)) (E3.got ga)
  have gr4:hp.get H2.next=some [S rt]:=K4.got (.inr (by omega)) gr3
  have hpn:=K4.next
  have hlp4:hp.lp=none:=by rw [K4.lp,E30.lp,hlp]
  rcases Nat.lt_or_eq_of_le le with hlt|heq
  ·have hlt':(i:Int) < jn.length:=by omega
   have hw2:IntKind.i64.wrap ((i:Int)+1)=(i:Int)+1:=wrap64 (by omega) (by omega)
   have hdr:jn.drop i=jn[i] :: jn.drop (i+1):=List.drop_eq_getElem_cons hlt
   have hdm:=hmemj jn[i] (List.getElem_mem hlt)
   have ead:∀ d,(hp.alloc [AV.int .i64 d]).get hp.next=some [.int .i64 d]:=fun d=>Heap.A9 _ _
   simp [r3,r7,r9,r10,r11,r85,r86,r87,hlt',hlt,List.getElem?_eq_getElem hlt,show I64 jn[i]=AV.int .i64 jn[i] from rfl,Heap.A9]
   generalize jn[i]=d at hdr hdm ⊢
   rw [hdr,Agd] at e1
   have E5:Ext hp ((hp.alloc [AV.int .i64 0]).put hp.next [.int .i64 d]):=((Ext.refl hp).alloc _).put (Nat.le_refl _) _
   have gd5:((hp.alloc [AV.int .i64 0]).put hp.next [.int .i64 d]).get hp.next=some [.int .i64 d]:=Heap.Ac (ead 0)
   generalize (hp.alloc [AV.int .i64 0]).put hp.next [.int .i64 d]=H5 at E5 gd5 ⊢
   have A5:=A4.ext2 (ArrI.loc pa q n cells ps a4) E5
   have hdl:=Heap.Ah gd5
   refine (Y1 (Q:=fun hz=> ∃ p,tryR (a4,e4) (fun a=>X4 a (jrB id c sq rt d))=p∧At (ArrI pa q n cells ps p.1) (fun b=>(R b∨(h.next≤b∧b < H3.next∧b≠H1.next))∨b=H1.next) hz∧Keep (fun b=>R b∨(h.next≤b∧b < H3.next∧b≠H1.next)) hp hz∧hz.get H1.next=some [.int .i64 p.2]∧ArrQ (k+(i+1)) p.1) (E5.got ge4) ?_ ?_).then ?_
   ·intro he4
    subst he4
    have B5:VolB (k+i) a4 c:=⟨B.cf,Q4,by omega⟩
    have hR5:(R pv∨(h.next≤pv∧pv < H3.next∧pv≠H1.next))∨pv=H1.next:= .inl (.inl hR)
    refine (Ak9 B5 (by omega) hid (E5.got hv4) A5 (.inl hR5) hs0 hs1 (E5.got gv4) gd5 (E5.got gr4) hdm hrt).mono ?_
    rintro _ h6 ⟨rfl,A6,K6⟩
    have hge6:h6.get H1.next=some [.int .i64 0]:=K6.got (.inl (.inr rfl)) (E5.got ge4)
    refine ⟨_,_,rfl,hge6,(X4 a4 (jrB id c sq rt d)),by simp [tryR],?_,?_,Heap.Ac hge6,(Ja Q4 _).mono (by omega)⟩
    ·exact (A6.put (ArrI.loc pa q n cells ps _) _ (.inl (.inr rfl))).mono fun b hb=> .inl hb
    ·refine Keep.put ?_ _ (fun hk=>by
      rcases hk with hk|hk
      ·have:=hRl _ hk;have:=E.next;omega
      ·omega)
     exact (E5.keep (R:=fun b=>R b∨(h.next≤b∧b < H3.next∧b≠H1.next)) fun b hb=>by
      rcases hb with hb|hb
      ·have:=hRl _ hb;have:=E30.next;omega
      ·omega).trans (K6.mono fun b hb=> .inl (.inl hb))
   ·intro he4
    refine ⟨(a4,e4),by simp [tryR,he4],A5.mono fun b hb=> .inl hb,E5.keep fun b hb=>by
      rcases hb with hb|hb
      ·have:=hRl _ hb;have:=E30.next;omega
      ·omega,E5.got ge4,Q4.mono (by omega)⟩
   ·rintro _ h6 ⟨rfl,p6,ep6,A6,K6,ge6,Q6⟩
    rw [ep6] at e1
    simp [r3,r7,r9,r10,r11,r85,r86,r87,hw2]
    exact ⟨i+1,by omega,by omega,by simpa using r3,by simpa using r4,by simpa using r5,by simpa using r7,by simpa using r9,by simpa using r10,by simpa using r11,by simpa using r85,by simpa using r86,by simp,p6,e1,A6,K4.trans K6,ge6,Q6⟩
  ·subst heq
   rw [List.drop_length] at e1
   have e1':jrL id c sq rt jn (a,e0)=(a4,e4):=e1
   rw [e1']
   have B4:VolB (k+jn.length) a4 c:=⟨B.cf,Q4,by omega⟩
   simp [r3,r7,r9,r10,r11,r85,r86,r87,gv4,A8,hv4,volC]
   refine (tflush (k+jn.length) (a4,e4) hp (by omega) A4 K4 ge4 Q4).then ?_
   rintro _ h5 ⟨rfl,p5,ep5,A5,K5,ge5,Q5⟩
   rw [ep5]
   clear ep5 e1 e1' A4 K4 ge4 Q4 gv4 gn4 gs4 ga4 gr4 hv4 hpn hlp4 B4 a4 e4
   obtain ⟨a5,e5⟩:=p5
   simp only at A5 ge5 Q5
   have hv5:h5.get pv=some (volC pa c id sq):=K5.got (.inl hR) (E30.got hv)
   have gv5:h5.get h.next=some [.ptr pv 0]:=K5.got (.inr (by omega)) (E3.got g11)
   have gn5:h5.get (h.next+1)=some [.int .i64 nn]:=K5.got (.inr (by omega)) (E3.got (E1.got g2))
   have gs5:h5.get (h.next+2)=some [S t]:=K5.got (.inr (by omega)) (E3.got (E1.got g3))
   have ga5:h5.get H.next=some [IL all]:=K5.got (.inr (by omega)) (E3.got ga)
   simp [r3,r4,r5,r7,r10]
   refine (Y1 (Q:=fun hz=> ∃ p,tryR (a5,e5) (fun a1=>vshR a1 id c nn (sq+1) t all)=p∧At (ArrI pa q n cells ps p.1) (fun b=>(R b∨(h.next≤b∧b < H3.next∧b≠H1.next))∨b=H1.next) hz∧Keep (fun b=>R b∨(h.next≤b∧b < H3.next∧b≠H1.next)) H3 hz∧hz.get H1.next=some [.int .i64 p.2]∧ArrQ (k+jn.length+all.length) p.1) ge5 ?_ ?_).then ?_
   ·intro he5
    subst he5
    have B5:VolB (k+jn.length) a5 c:=⟨B.cf,Q5,by omega⟩
    refine (Aka B5 (by omega) hid hv5 A5 (.inl (.inl hR)) hs0 hs1 gv5 gn5 gs5 ga5 (by omega) hmem (by omega)).mono ?_
    rintro _ h6 ⟨rfl,A6,K6⟩
    have hge6:=K6.got (.inr rfl) ge5
    refine ⟨_,_,rfl,hge6,vshR a5 id c nn (sq+1) t all,by simp [tryR],A6.put (ArrI.loc pa q n cells ps _) _ (.inr rfl),kput _ _ (K5.trans (K6.mono fun b hb=> .inl hb)),Heap.Ac hge6,Lx Q5 id c nn (sq+1) t all⟩
   ·intro he5
    exact ⟨(a5,e5),by simp [tryR,he5],A5,K5,ge5,Q5.mono (by omega)⟩
   rintro _ h6 ⟨rfl,p6,ep6,A6,K6,ge6,Q6⟩
   rw [ep6]
   have hv6:h6.get pv=some (volC pa c id sq):=K6.got (.inl hR) (E30.got hv)
   have gv6:h6.get h.next=some [.ptr pv 0]:=K6.got (.inr (by omega)) (E3.got g11)
   simp [r3,r10,gv6,A8,hv6,volC]
   refine (tflush (k+jn.length+all.length) p6 h6 (by omega) A6 K6 ge6 Q6).then ?_
   rintro _ h7 ⟨rfl,p7',ep7,A7,K7,ge7,Q7⟩
   rw [ep7]
   obtain ⟨a7,e7⟩:=p7'
   simp only at A7 ge7 Q7
   have hv7:h7.get pv=some (volC pa c id sq):=K7.got (.inl hR) (E30.got hv)
   have gv7:h7.get h.next=some [.ptr pv 0]:=K7.got (.inr (by omega)) (E3.got g11)
   have K70:Keep R h h7:=(E30.keep hRl).trans (K7.mono fun b hb=> .inl hb)
   have hpl:=Heap.Ah hv7
   have hnep:H1.next≠pv:=by have:=hRl _ hR;have:=E.next;omega
   by_cases he7:e7=0
   ·have hws:IntKind.i64.wrap (sq+1)=sq+1:=wrap64 (by omega) (by omega)
    simp [r9,ge7,he7,r3,gv7,A8,hv7,volC,hws,hpl,Heap.Ad,hnep]
    exact ⟨(A7.put (ArrI.loc pa q n cells ps _) _ (.inl (.inl hR))).mono fun b hb=> .inl (.inl hb),Keep.put (K70.mono fun b hb=>hb.1) _ (fun hk=>hk.2 rfl)⟩
   ·simp [r9,ge7,he7]
    exact ⟨A7.mono fun b hb=> .inl (.inl hb),K70.mono fun b hb=>hb.1,hv7⟩
 ·exact ⟨by omega,by simp [p3],by simp [p4],by simp [p5],by simp [p7],by simp [p9],by simp [p10],by simp [r1211],by simp,by simp,by simp,(a,e0),rfl,A3,Keep.refl _ _,ge3,B.q⟩
end
structure HeadI (pv pa:Nat) (c0:Cfg) (id sq:Int) (all:List Int) (a:Arr) (h:Heap) (i:Nat) (r:Regs) (hp:Heap):Prop where
 le:i≤all.length
 r0:rg r 0 = .ptr pv 0
 r15:rg r 15=IL all
 r16:rg r 16 = .int .i64 all.length
 r17:rg r 17 = .int .i64 i
 E:Ext h hp
 l:Pf a id all=Pf a id (all.drop i)
section
variable {pa q n:Nat} {cells:List AV} {ps:List Nat} {a:Arr} {R:Nat→Prop} {h:Heap} {pv:Nat} {c:Cfg} {id sq:Int} {k:Nat}
theorem Hv (hv:h.get pv=some (volC pa c id sq)):CSem Tryz.prog 33 [.ptr pv 0] h fun x h'=>x=CfA c∧h'=h:=by
 have haggC:aggT Tryz.prog 23=some true:=by kernel_rfl
 have hzC:szT Tryz.prog 23=some 5:=by kernel_rfl
 refine CSem.Lz (Q:=fun x=>x=CfA c) (fun x hx=>by subst hx;exact ⟨3,_,rfl⟩) ?_
 refine CSem.body hm Tryz.func33 rfl (by kernel_rfl) (by kernel_rfl) (by simp [Tryz.ntmps33]) ?_
 have hzz:Au Tryz.prog 23=some (.agg [.int .i64 0,.int .i64 0,.int .i64 0,.int .i64 0,.int .i64 0]):=by kernel_rfl
 simp [Tryz.f33,hzz,AV.cells]
 generalize hH:h.alloc _=H
 have E:Ext h H:=by rw [←hH];exact (Ext.refl h).alloc _
 have g0:H.get h.next=some [.int .i64 0,.int .i64 0,.int .i64 0,.int .i64 0,.int .i64 0]:=by rw [←hH];exact Heap.A9 _ _
 have hnl:=Heap.Ah g0
 have hvH:=E.got hv
 clear hH
 simp [A8,hvH,volC,Ab haggC,hzC,takeN,Ae,putN,g0,hnl,Heap.Ad,CfA]
 exact E.put (Nat.le_refl _) _
theorem Zx (h:Heap):CSem Tryz.prog 33 [.nilPtr] h fun x h'=>x=CfA cfg0∧h'=h:=by
 have haggC:aggT Tryz.prog 23=some true:=by kernel_rfl
 have hzC:szT Tryz.prog 23=some 5:=by kernel_rfl
 refine CSem.Lz (Q:=fun x=>x=CfA cfg0) (fun x hx=>by subst hx;exact ⟨3,_,rfl⟩) ?_
 refine CSem.body hm Tryz.func33 rfl (by kernel_rfl) (by kernel_rfl) (by simp [Tryz.ntmps33]) ?_
 have hzz:Au Tryz.prog 23=some (.agg [.int .i64 0,.int .i64 0,.int .i64 0,.int .i64 0,.int .i64 0]):=by kernel_rfl
 have hbd:Ce Tryz.prog 23 []=some (.agg [.int .i64 0,.int .i64 0,.int .i64 0,.int .i64 0,.int .i64 0]):=by kernel_rfl
 simp [Tryz.f33,hzz,AV.cells]
 generalize hH:h.alloc _=H
 have E:Ext h H:=by rw [←hH];exact (Ext.refl h).alloc _
 have g0:H.get h.next=some [.int .i64 0,.int .i64 0,.int .i64 0,.int .i64 0,.int .i64 0]:=by rw [←hH];exact Heap.A9 _ _
 have hnl:=Heap.Ah g0
 clear hH
 simp [hbd,Ab haggC,hzC,takeN,Ae,putN,g0,hnl,Heap.Ad,CfA,cfg0]
 exact E.put (Nat.le_refl _) _
theorem Acq {k:Nat} (Q:ArrQ k a) (hk:k < 2 ^ 28) (hv:h.get pv=some (volC pa c id sq)) (A:At (ArrI pa q n cells ps a) R h) (hR:R pv) (hlp:h.lp=none) :
  CSem Tryz.prog 40 [.ptr pv 0] h fun x h'=>x = .bool (Nw a id).isSome∧At (ArrI pa q n cells ps a) R h'∧Keep (fun b=>R b∧b≠pv) h h'∧h'.get pv=some (volC pa ((Nw a id).getD c) id sq):=by
 refine CSem.body hm Tryz.func40 rfl (by kernel_rfl) (by kernel_rfl) (by simp [Tryz.ntmps40]) ?_
 have hfew:=Q.b.few
 have hW:∀ d∈a.disks,d.waits.length < 2 ^ 40:=fun d hd=>by have:=(Q.b.disks d hd).few;omega
 have haggC:aggT Tryz.prog 23=some true:=by kernel_rfl
 have hzC:szT Tryz.prog 23=some 5:=by kernel_rfl
 have hzz:Au Tryz.prog 23=some (.agg [.int .i64 0,.int .i64 0,.int .i64 0,.int .i64 0,.int .i64 0]):=by kernel_rfl
 have hzB:Au Tryz.prog 123=some (.agg [.int .i64 0,.int .i64 0,.int .i64 0,.int .i64 0,S []]):=by kernel_rfl
 have hz5:szT Tryz.prog 123=some 5:=by kernel_rfl
 have hRl:∀ b,R b→b < h.next:=fun b hb=>A.lt hb
 simp [Tryz.f40,A8,hv,volC]
 refine (D9 A).use ?_
 simp
 refine (Gx hv A a.disks.length (by omega)).use ?_
 simp
 have hall:=Cd a a.disks.length
 have hR0:Nw a id=Pf a id (Ak a a.disks.length):=rfl
 rw [hR0]
 generalize Ak a a.disks.length=all at hall
 refine Am (HeadI pv pa c id sq all a h) (all.length - ·) ?_ 0 ?_
 ·rintro i r hp ⟨le,r0,r15,r16,r17,E,l⟩
  have hvp:=E.got hv
  have Ap:=A.ext (ArrI.loc pa q n cells ps a) E
  rcases Nat.lt_or_eq_of_le le with hlt|heq
  ·have hlt':(i:Int) < all.length:=by omega
   have hw1:IntKind.i64.wrap ((i:Int)+1)=(i:Int)+1:=wrap64 (by omega) (by omega)
   have hdr:all.drop i=all[i] :: all.drop (i+1):=List.drop_eq_getElem_cons hlt
   simp [r0,r15,r16,r17,hlt',hlt,List.getElem?_eq_getElem hlt,show I64 all[i]=AV.int .i64 all[i] from rfl]
   generalize all[i]=d at hdr
   refine (Xu hvp Ap hW (by rw [E.lp];exact hlp) d 0 (by have:=Q.short d 0;omega)).use ?_
   rw [hdr,Pf] at l
   have htx:=Q.tx id d 0
   simp only [A0g]
   generalize Cq a id d 0=g at l htx
   obtain ⟨b,is⟩:=g
   simp only at l htx
   simp [BlkA,hzB,AV.cells,Ae,hz5,putN,Heap.Aa,Heap.Ad]
   generalize hH1:Heap.put (Heap.alloc hp _) _ _=H1
   have E1:Ext hp H1:=by rw [←hH1];exact ((Ext.refl hp).alloc _).put (Nat.le_refl _) _
   have m1:H1.get hp.next=some [.int .i64 b.ar,.int .i64 b.dk,.int .i64 b.pl,.int .i64 b.ep,S b.tx]:=by rw [←hH1,Heap.Ad _ _ _ _ (by simp),if_pos rfl]
   clear hH1
   cases is with
   | false =>
    rw [if_neg (by simp)] at l
    simp [r0,r15,r16,r17,hw1]
    exact ⟨i+1,by omega,by omega,by simpa using r0,by simpa using r15,by simpa using r16,by simp,E.trans E1,l⟩
   | true =>
    simp [m1,A8]
    refine (Yw b.tx (by omega) H1).use ?_
    simp only [Qr]
    generalize Gr b.tx=g at l
    obtain ⟨c1,e1⟩:=g
    simp only at l
    simp [CfA,hzz,AV.cells,Ae,hzC,putN,Heap.Aa,Heap.Ad]
    generalize hH2:Heap.put (Heap.alloc H1 _) _ _=H2
    have E2:Ext H1 H2:=by rw [←hH2];exact ((Ext.refl H1).alloc _).put (Nat.le_refl _) _
    have m2:H2.get H1.next=some [.int .i64 c1.k,.int .i64 c1.m,.int .i64 c1.sh,.int .i64 c1.st,.int .i64 c1.sl]:=by rw [←hH2,Heap.Ad _ _ _ _ (by simp),if_pos rfl]
    clear hH2
    have E02:=(E.trans E1).trans E2
    have hv2:=E02.got hv
    have A2:=A.ext (ArrI.loc pa q n cells ps a) E02
    have hpl:=Heap.Ah hv2
    refine Bh 10 (by kernel_rfl) ?_
    by_cases he:e1=0
    rotate_left
    ·rw [if_neg (fun h=>he h.2.1)] at l
     simp [he,r0,r15,r16,r17,hw1]
     exact ⟨i+1,by omega,by omega,by simpa using r0,by simpa using r15,by simpa using r16,by simp,E02,l⟩
    subst he
    simp [Ab haggC,hzC,takeN,m2]
    refine Cp.use (x:= .int .i64 (C3 c1)) (K8 c1 H2) ?_
    simp [r0,A8,hv2,volC]
    refine Cp.use (x:= .int .i64 a.disks.length) (D9 A2) ?_
    by_cases hcd:C3 c1=a.disks.length
    ·rw [if_pos ⟨trivial,rfl,hcd⟩] at l
     simp [hcd,r0,r15,r16,r17,A8,hv2,volC,Ab haggC,hzC,takeN,m2,Ae,putN,hpl,l]
     first
      | exact ⟨A2.put (ArrI.loc pa q n cells ps a) _ hR,Keep.put ((E02.keep hRl).mono fun b hb=>hb.1) _ (fun hk=>hk.2 rfl),by rw [Heap.Ad _ _ _ _ hpl,if_pos rfl]⟩
      | exact ⟨A2.put (ArrI.loc pa q n cells ps a) _ hR,Keep.put ((E02.keep hRl).mono fun b hb=>hb.1) _ (fun hk=>hk.2 rfl)⟩
    ·rw [if_neg (fun h=>hcd h.2.2)] at l
     simp [hcd,r0,r15,r16,r17,hw1]
     exact ⟨i+1,by omega,by omega,by simpa using r0,by simpa using r15,by simpa using r16,by simp,E02,l⟩
  ·subst heq
   rw [List.drop_length,Pf] at l
   simp [r0,r15,r16,r17,l]
   exact ⟨Ap,(E.keep hRl).mono fun b hb=>hb.1,hvp⟩
 ·exact ⟨by omega,by simp,by simp,by simp,by simp,Ext.refl h,rfl⟩
end
end Go.Proofs.YtpabfpccpbakfaaGreatDoor.X
