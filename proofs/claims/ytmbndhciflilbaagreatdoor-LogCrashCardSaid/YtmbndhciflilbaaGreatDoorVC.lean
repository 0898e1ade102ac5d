/-
  Texts of a proof, as one: V30, V31, V32, V33, VS, V34, V35, V36, V37, VB, V38, XOJ, V39, V40.
-/
import Derived.Test.YtmbndhciflilbaaGreatDoorVBB
namespace Go.Proofs.YtmbndhciflilbaaGreatDoor.X
open Go.RowKit F
set_option maxRecDepth 100000
set_option linter.unusedSimpArgs false
set_option linter.unusedVariables false
def volC (pa:Nat) (c:Cfg) (id sq:Int):List AV:=[.ptr pa 0,.int .i64 c.k,.int .i64 c.m,.int .i64 c.sh,.int .i64 c.st,.int .i64 c.sl,.int .i64 id,.int .i64 sq]
theorem Aba (b:BlkD) (hb:BlkB b) (h:Heap):CSem Tryz.prog 81 [BlkA b] h fun x' h'=>x'=A41 b∧h'=h:=(Ab5 b hb).call (k:=2) (by simp [BlkA,Da,mapL])
def F0 (a:Arr) (b:BlkD):Int:=if (Dc b).2=0 then a.Hd b.dk b.pl (Dc b).1 else (Dc b).2
def vput (a:Arr) (b:BlkD):Arr:=if (Dc b).2=0 then a.write b.dk b.pl (Dc b).1 else a
section
variable {pa q n:Nat} {cells:List AV} {ps:List Nat} {a:Arr} {R:Nat→Prop} {h:Heap} {pv:Nat} {c:Cfg} {id sq:Int}
theorem Rx {k:Nat} (hv:h.get pv=some (volC pa c id sq)) (A:At (ArrI pa q n cells ps a) R h) (hR:R pv) (hB:ArrB k a) (hk:k < 2 ^ 30) (b:BlkD) (hb:BlkB b) (hid:b.ar=id) :
  CSem Tryz.prog 57 [.ptr pv 0,.int .i64 b.dk,.int .i64 b.pl,.int .i64 b.ep,S b.tx] h fun x h'=>x = .int .i64 (F0 a b)∧At (ArrI pa q n cells ps (vput a b)) R h'∧Keep R h h':=by
 subst hid
 refine CSem.body hm Tryz.func57 rfl κ κ (by simp [Tryz.ntmps57]) ?_
 have hb5:∀ (a d p e:Int) (t:Txt),Ct Tryz.prog 113 [(0,.int .i64 a),(1,.int .i64 d),(2,.int .i64 p),(3,.int .i64 e),(4,S t)]=some (.agg [.int .i64 a,.int .i64 d,.int .i64 p,.int .i64 e,S t]):=fun a d p e t=>by kernel_rfl
 simp [Tryz.f57,A8,hv,volC,hb5]
 refine (Aba b hb h).use ?_
 simp only [A41,vput,F0]
 generalize Dc b=s
 obtain ⟨t,e⟩:=s
 by_cases he:e=0
 ·subst he
  simp [A8,hv,volC]
  refine (A72 A hB hk b.dk b.pl t).then ?_
  rintro _ h' ⟨rfl,h1,h2⟩
  simp
  exact ⟨h1,h2⟩
 ·simp [he]
  exact ⟨A,Keep.refl R h⟩
theorem A7d (hv:h.get pv=some (volC pa c id sq)) (A:At (ArrI pa q n cells ps a) R h):CSem Tryz.prog 60 [.ptr pv 0] h fun x h'=>x = .int .i64 (if a.down then 9 else 0)∧h'=h:=by
 refine CSem.body hm Tryz.func60 rfl κ κ (by simp [Tryz.ntmps60]) ?_
 simp [Tryz.f60,A8,hv,volC]
 refine (Hj A).use ?_
 cases a.down<;>simp
end
def Cn (a:Arr) (id d p:Int):BlkD×Bool:=if (a.read d p).2=0 then ((Cm (a.read d p).1 id d p).1,decide ((Cm (a.read d p).1 id d p).2=0)) else (blk0,false)
def A49 (a:Arr) (id d p:Int):AV:= .tup [BlkA (Cn a id d p).1,.bool (Cn a id d p).2]
section
variable {pa q n:Nat} {cells:List AV} {ps:List Nat} {a:Arr} {R:Nat→Prop} {h:Heap} {pv:Nat} {c:Cfg} {id sq:Int}
theorem A4a (hv:h.get pv=some (volC pa c id sq)) (A:At (ArrI pa q n cells ps a) R h) (hW:∀ d∈a.disks,d.waits.length < 2 ^ 40) (hlp:h.lp=none) (d p:Int) (hlen:(a.read d p).1.length < 2 ^ 46) :
  CSem Tryz.prog 64 [.ptr pv 0,.int .i64 d,.int .i64 p] h fun x h'=>x=A49 a id d p∧h'=h:=by
 refine CSem.Me (Q:=fun x=>x=A49 a id d p) (fun x hx=>by subst hx;exact ⟨3,_,rfl⟩) ?_
 refine CSem.body hm Tryz.func64 rfl κ κ (by simp [Tryz.ntmps64]) ?_
 have hb0:Ct Tryz.prog 113 []=some (.agg [.int .i64 0,.int .i64 0,.int .i64 0,.int .i64 0,S []]):=by kernel_rfl
 have hz:B7 Tryz.prog 113=some (.agg [.int .i64 0,.int .i64 0,.int .i64 0,.int .i64 0,S []]):=by kernel_rfl
 have hz5:szT Tryz.prog 113=some 5:=by kernel_rfl
 have hagg:aggT Tryz.prog 113=some true:=by kernel_rfl
 simp [Tryz.f64,hz,AV.cells]
 generalize hH:h.alloc _=H
 have E:Ext h H:=by rw [←hH];exact (Ext.refl h).alloc _
 have m0:H.get h.next=some [.int .i64 0,.int .i64 0,.int .i64 0,.int .i64 0,S []]:=by rw [←hH];exact Heap.A9 _ _
 have hvH:=E.got hv
 have AH:At (ArrI pa q n cells ps a) R H:=A.ext (ArrI.loc pa q n cells ps a) E
 have hnl:=Heap.Ah m0
 clear hH
 simp [A8,hvH,volC]
 refine (Zr AH hW (by rw [E.lp];exact hlp) d p).use ?_
 simp only [A49,Cn,rdA]
 generalize a.read d p=rd at hlen ⊢
 obtain ⟨t,e⟩:=rd
 by_cases he:e=0
 rotate_left
 ·simp [he,hb0,Aj,hz5,putN,Ac hagg,takeN,Heap.Ad,m0,hnl,BlkA,blk0]
  exact E.put (Nat.le_refl _) _
 subst he
 simp [A8,hvH,volC]
 refine (A44 t hlen id d p H).use ?_
 simp only [A43]
 generalize Cm t id d p=o
 obtain ⟨b,e2⟩:=o
 simp [BlkA,hz,AV.cells,Aj,hz5,putN,Heap.Aa,Heap.Ad]
 generalize hH2:Heap.put (Heap.alloc H _) _ _=H2
 have E2:Ext H H2:=by rw [←hH2];exact ((Ext.refl H).alloc _).put (Nat.le_refl _) _
 have g0:H2.get H.next=some [.int .i64 b.ar,.int .i64 b.dk,.int .i64 b.pl,.int .i64 b.ep,S b.tx]:=by rw [←hH2,Heap.Ad _ _ _ _ μ,if_pos rfl]
 have g1:=E2.got m0
 have gnl:=Heap.Ah g1
 clear hH2
 simp [Ac hagg,hz5,takeN,Aj,putN,g0,g1,Heap.Ad,gnl]
 exact (E.trans E2).put (Nat.le_refl _) _
end
def Ab (a:Arr) (n:Nat):List Int:=((List.range n).filter fun d:Nat=>a.alive (d:Int)).map fun d:Nat=>(d:Int)
theorem U3 (a:Arr) (n:Nat):Ab a (n+1)=if a.alive n then Ab a n ++ [(n:Int)] else Ab a n:=by
 unfold Ab
 rw [List.range_succ,List.filter_append]
 by_cases h:a.alive n<;>simp [h]
theorem D5 (a:Arr) (n:Nat):(Ab a n).length≤n:=by
 unfold Ab
 rw [List.length_map]
 exact Nat.le_trans (List.length_filter_le _ _) μ
structure NewIL (h0:Heap) (x:AV) (l:List Int) (h:Heap):Prop where
 at_:∃ G,CapA x (l.map I64) h G∧∀ b,G b→h0.next≤b
 atom:x.atom=true
 ext:Ext h0 h
section
variable {pa q n:Nat} {cells:List AV} {ps:List Nat} {a:Arr} {R:Nat→Prop} {h:Heap} {pv:Nat} {c:Cfg} {id sq:Int}
theorem A7e (hv:h.get pv=some (volC pa c id sq)) (A:At (ArrI pa q n cells ps a) R h) (N:Nat) (hN:N < 2 ^ 30):CSem Tryz.prog 42 [.ptr pv 0,.int .i64 N] h fun x h'=>NewIL h x (Ab a N) h':=by
 refine CSem.body hm Tryz.func42 rfl κ κ (by simp [Tryz.ntmps42]) ?_
 simp [Tryz.f42]
 refine Ar (fun (i:Nat) r hp=>i≤N∧rg r 0 = .ptr pv 0∧rg r 7 = .int .i64 N∧rg r 8 = .int .i64 i∧NewIL h (rg r 5) (Ab a i) hp) (N - ·) ?_ 0 ?_
 ·rintro i r hp ⟨hi,g0,g7,g8,I⟩
  rcases Nat.lt_or_eq_of_le hi with hlt|heq
  ·obtain ⟨⟨G,kc,kg⟩,ka,E⟩:=I
   have hlt':(i:Int) < N:=by omega
   have hw1:IntKind.i64.wrap ((i:Int)+1)=(i:Int)+1:=wrap64 ω ω
   have hvp:=E.got hv
   have Ap:At (ArrI pa q n cells ps a) R hp:=A.ext (ArrI.loc pa q n cells ps a) E
   have hs:=U3 a i
   have hln:=D5 a i
   simp [g0,g7,g8,hlt',A8,hvp,volC]
   refine (A71 Ap i).use ?_
   cases hal:a.alive i
   ·rw [hal] at hs
    simp [g0,g7,g8,hw1]
    refine ⟨i+1,ω,ω,by push_cast;rfl,?_⟩
    rw [hs]
    exact ⟨⟨G,kc,kg⟩,ka,E⟩
   ·rw [hal] at hs
    obtain ⟨x',h',G',e,w',q1,q2,q3,q4,q5,q6⟩:=Ky (P:=Tryz.prog) (t:=74) (xt:=74) κ (w:= .int .i64 i) rfl kc (by simp;omega)
    simp [g0,g7,g8,hw1,Bt (P:=Tryz.prog) (t:=74) (xt:=74) κ (show (AV.int .i64 i).atom=true from rfl),e]
    refine ⟨i+1,ω,ω,by push_cast;rfl,?_⟩
    rw [hs,if_pos rfl]
    refine ⟨⟨G',by rw [List.map_append];exact w',fun b hb=>(q1 b hb).elim (kg b) (fun h=>by have:=E.next;omega)⟩,q6,?_⟩
    exact ⟨by have:=E.next;omega,q4.trans E.lp,q5.trans E.gh,fun b hb=>by rw [q2 b (by have:=E.next;omega) (fun hg=>by have:=kg b hg;omega)];exact E.get b hb⟩
  ·subst heq
   simp [g0,g7,g8]
   exact I
 ·exact ⟨ω,μ,μ,μ,⟨⟨fun _=>False,by simpa [Ab] using .inl ⟨rfl,rfl,fun _ h=>h⟩,fun _ h=>h.elim⟩,μ,Ext.refl h⟩⟩
end
theorem Ms.mono {k k':Nat} {d:Dsk} (h:Ms k d) (hk:k≤k'):Ms k' d:=⟨h.w,h.one,Nat.le_trans h.few hk⟩
theorem ArrB.mono {k k':Nat} {a:Arr} (h:ArrB k a) (hk:k≤k'):ArrB k' a:=⟨fun d hd=>(h.disks d hd).mono hk,h.one,h.few,h.left⟩
theorem Dsk.Xd {d:Dsk} {n:Int} {s:Txt} (h:d.check n s=0):d.gone=false∧0≤n∧n < d.secs.length∧(s.length:Int)≤d.size:=by
 unfold Dsk.check at h
 split at h
 ·cases h
 ·split at h
  ·cases h
  ·split at h
   ·cases h
   ·rename_i h1 h2 h3
    exact ⟨by simpa using h1,ω,ω,ω⟩
theorem Ms.write {k:Nat} {d:Dsk} (h:Ms k d) (n:Int) (s:Txt):Ms (k+1) (d.write n s):=by
 unfold Dsk.write
 by_cases hc:d.check n s=0
 ·rw [if_pos hc]
  obtain ⟨c1,c2,c3,c4⟩:=Dsk.Xd hc
  refine ⟨⟨fun w hw=> ?_,fun hg=> ?_,h.w.size,h.w.few⟩,h.one,?_⟩
  ·rcases List.mem_append.1 hw with hw|hw
   ·exact h.w.waits w hw
   ·rw [List.mem_singleton.1 hw];exact ⟨c2,c3⟩
  ·rw [c1] at hg;cases hg
  ·have:=h.few;simp;omega
 ·rw [if_neg hc];exact h.mono ω
theorem ArrB.write {k:Nat} {a:Arr} (h:ArrB k a) (i n:Int) (s:Txt):ArrB (k+1) (a.write i n s):=by
 unfold Arr.write
 split
 ·exact h.mono ω
 ·split
  ·exact h.mono ω
  ·rename_i d ho
   obtain ⟨_,_,h2⟩:=Arr.Ka ho
   have hd:=h.disks d (List.mem_of_getElem? h2)
   split
   ·exact h.mono ω
   ·split
    ·exact ⟨fun d hd=>(h.disks d hd).mono ω,h.one,h.few,h.left⟩
    ·refine ⟨fun x hx=> ?_,by simpa [Arr.set] using h.one,by simpa [Arr.set] using h.few,?_⟩
     ·rcases List.mem_or_eq_of_mem_set hx with hx|hx
      ·exact (h.disks x hx).mono ω
      ·rw [hx];exact hd.write n s
     ·have:=h.left
      dsimp only
      split<;>omega
theorem Fx {c:Cfg} (hC:Ax c):(c.k.toNat:Int)=c.k∧(c.m.toNat:Int)=c.m∧(c.sh.toNat:Int)=c.sh∧1≤c.k.toNat∧c.k.toNat≤255∧8≤c.sh.toNat∧c.sh.toNat≤1024∧c.m.toNat≤255:=by
 have h:=hC.1
 have h1:=h.1;have h2:=h.2.1;have h3:=h.2.2.1;have h4:=h.2.2.2;have h5:=hC.2.2.1
 omega
theorem A1n {c:Cfg} (hC:Ax c):Aw c=((c.k.toNat * c.sh.toNat:Nat):Int) - 4:=by
 have h:=Fx hC
 simp only [Aw,if_pos hC]
 push_cast
 rw [h.1,h.2.2.1]
theorem N5 {c:Cfg} {data:List UInt8} : (splL c data).length=c.k.toNat:=A6a
theorem A01 {c:Cfg} {data:List UInt8} (hC:Ax c) (hcap:¬Aw c < data.length):∀ x∈splL c data,x.length=c.sh.toNat:=by
 intro x hx
 obtain ⟨i,hi,rfl⟩:=List.mem_map.1 hx
 rw [A1n hC] at hcap
 exact Aa8 (T1 ω) (List.mem_range.1 hi)
theorem T8 {c:Cfg} {data:List UInt8} (hC:Ax c) (hcap:¬Aw c < data.length):EncP (splL c data) c.m∧splR c data=(encL (splL c data) c.m.toNat,0):=by
 have hn:=Fx hC
 have hE:EncP (splL c data) c.m:=⟨by rw [N5,hn.1];exact hC.1,A17 (A01 hC hcap)⟩
 refine ⟨hE,?_⟩
 simp only [splR,if_pos hC,if_neg hcap,encR,if_pos hE]
theorem Aes {c:Cfg} {data:List UInt8} (hC:Ax c):splL c data≠[]:=fun e=>by
 have h1:=N5 (c:=c) (data:=data)
 rw [e] at h1
 have:=(Fx hC).2.2.2.1
 simp at h1;omega
theorem Aet {c:Cfg} {data:List UInt8} (hC:Ax c) (hcap:¬Aw c < data.length):(row0 (splL c data)).length=c.sh.toNat:=by
 have hne:=Aes (data:=data) hC
 cases hl:splL c data with
 | nil=>exact (hne hl).elim
 | cons a t =>
  have:=A01 hC hcap a (by rw [hl];simp)
  simpa [row0] using this
theorem A3g {c:Cfg} {data:List UInt8} (hC:Ax c) (hcap:¬Aw c < data.length):∀ x∈encL (splL c data) c.m.toNat,x.length=c.sh.toNat:=by
 intro x hx
 rw [A2x (Aes hC) (T8 hC hcap).1.2 x hx,Aet hC hcap]
theorem Aeu {c:Cfg} {data:List UInt8} (h:¬(Ax c∧¬Aw c < data.length)):(splR c data).2≠0:=by
 by_cases hC:Ax c
 ·by_cases hcap:Aw c < data.length
  ·simp [splR,hC,hcap]
  ·exact (h ⟨hC,hcap⟩).elim
 ·simp [splR,hC]
theorem T9 {c:Cfg} {t:Txt} (hC:Ax c) (h0:(splR c t).2=0):(((splR c t).1.length:Nat):Int)=c.k+c.m∧∀ u∈(splR c t).1,(u.length:Int)=c.sh:=by
 have hcap:¬Aw c < t.length:=fun h=>Aeu (fun h2=>h2.2 h) h0
 have hn:=Fx hC
 rw [(T8 hC hcap).2]
 refine ⟨?_,fun u hu=> ?_⟩
 ·show (((encL (splL c t) c.m.toNat).length:Nat):Int)=_
  rw [A2w,N5]
  have:=hC.1.2.1
  omega
 ·rw [A3g hC hcap u hu];exact hn.2.2.1
theorem Aev {k:Nat} {a:Arr} (h:ArrB k a) (b:BlkD):ArrB (k+1) (vput a b):=by
 unfold vput
 split
 ·exact h.write _ _ _
 ·exact h.mono ω
def shB (id pl ep:Int) (l:Tab) (d:Int):BlkD:=⟨id,d,pl,ep,l[d.toNat]?.getD []⟩
def vshL (id pl ep:Int) (l:Tab):Arr→List Int→Arr×Int
 | a,[]=>(a,0)
 | a,d :: ds=>if F0 a (shB id pl ep l d)=0 then vshL id pl ep l (vput a (shB id pl ep l d)) ds else (vput a (shB id pl ep l d),F0 a (shB id pl ep l d))
def vshR (a:Arr) (id:Int) (c:Cfg) (n ep:Int) (t:Txt) (ds:List Int):Arr×Int:=if (splR c t).2=0 then vshL id (Au c n) ep (splR c t).1 a ds else (a,(splR c t).2)
theorem CapA.len {P:Program} {t:TypeId} (ht:(elT P t).isSome=true) {x:AV} {l:List AV} {h:Heap} {G:Nat→Prop} (w:CapA x l h G):lenX P t x=some (.int .i64 (l.length:Int)):=by
 rcases w with ⟨rfl,rfl,_⟩|⟨wb,c,cells,rfl,_⟩
 ·simp [ht]
 ·simp [ht]
theorem CapA.at {x:AV} {l:List AV} {h:Heap} {G:Nat→Prop} (w:CapA x l h G) {i:Nat} (hi:i < l.length):∃ wb c cells,x = .sl wb 0 l.length c 1∧h.get wb=some cells∧cells[i]? = some l[i]:=by
 rcases w with ⟨rfl,rfl,_⟩|⟨wb,c,cells,h1,h2,h3,h4,h5,h6⟩
 ·simp at hi
 ·refine ⟨wb,c,cells,h1,h2,?_⟩
  have:(cells.take l.length)[i]? = cells[i]? := List.getElem?_take_of_lt hi
  rw [←this,h5]
  exact List.getElem?_eq_getElem hi
structure VshI (x:AV) (ds:List Int) (G:Nat→Prop) (pv pa q n:Nat) (cells:List AV) (ps:List Nat) (c:Cfg) (id sq nn ep:Int) (l:Tab) (a0:Arr) (R:Nat→Prop) (h0:Heap) (k:Nat) (i:Nat) (r:Regs) (h:Heap):Prop where
 le:i≤ds.length
 r0:rg r 0 = .ptr pv 0
 r1:rg r 1 = .int .i64 nn
 r2:rg r 2 = .int .i64 ep
 r11:rg r 11=SL l
 r28:rg r 28=x
 r29:rg r 29 = .int .i64 ds.length
 r30:rg r 30 = .int .i64 i
 arr:∃ a,vshL id (Au c nn) ep l a0 ds=vshL id (Au c nn) ep l a (ds.drop i)∧At (ArrI pa q n cells ps a) R h∧Keep R h0 h∧ArrB (k+i) a
section
variable {pa q n:Nat} {cells:List AV} {ps:List Nat} {a:Arr} {R G:Nat→Prop} {h:Heap} {pv:Nat} {c:Cfg} {id sq:Int}
theorem Akg {k:Nat} (hc:Ax c) (hv:h.get pv=some (volC pa c id sq)) (A:At (ArrI pa q n cells ps a) R h) (hR:R pv) (hB:ArrB k a) (nn ep:Int) (t:Txt) {x:AV} {ds:List Int} (hx:CapA x (ds.map I64) h G) (hGR:∀ b,G b→R b)
  (hk:k+ds.length < 2 ^ 30) (hid:id < 2 ^ 62) (hep:ep < 2 ^ 62) (ht:t.length < 2 ^ 46) (hdm:∀ d∈ds,0≤d∧d < c.k+c.m) :
  CSem Tryz.prog 49 [.ptr pv 0,.int .i64 nn,.int .i64 ep,S t,x] h fun y h'=>y = .int .i64 (vshR a id c nn ep t ds).2∧At (ArrI pa q n cells ps (vshR a id c nn ep t ds).1) R h'∧Keep R h h':=by
 refine CSem.body hm Tryz.func49 rfl κ κ (by simp [Tryz.ntmps49]) ?_
 have hagg:aggT Tryz.prog 23=some true:=by kernel_rfl
 have hz5:szT Tryz.prog 23=some 5:=by kernel_rfl
 have hlx:=hx.len (P:=Tryz.prog) (t:=74) μ
 rw [List.length_map] at hlx
 simp [Tryz.f49,A8,hv,volC,Ac hagg,hz5,takeN]
 refine (Ty c t ω h).use ?_
 simp only [rL,vshR]
 have hrw:=T9 (c:=c) (t:=t) hc
 generalize splR c t=s at hrw ⊢
 obtain ⟨l,e⟩:=s
 simp only at hrw ⊢
 by_cases he:e=0
 rotate_left
 ·simp [he]
  exact ⟨A,Keep.refl R h⟩
 subst he
 obtain ⟨hrl,hrs⟩:=hrw rfl
 have hcn:=Fx hc
 have hkm:=hc.1.2.2.2
 have hds:∀ d∈ds,0≤d∧d < l.length:=fun d hd=>by have:=hdm d hd;omega
 have hsl:∀ u∈l,u.length < 2 ^ 46:=fun u hu=>by have:=hrs u hu;omega
 have hll:l.length < 2 ^ 40:=by omega
 simp [hlx]
 have hsr:Au c nn < 2 ^ 62:=by
  unfold Au
  have h1:=hc.2.2.2.2.1
  have h2:=hc.2.2.2.1
  split<;>omega
 refine Ar (VshI x ds G pv pa q n cells ps c id sq nn ep l a R h k) (ds.length - ·) ?_ 0 ?_
 ·rintro i r hp ⟨le,r0,r1,r2,r11,r28,r29,r30,a1,e1,A1,K1,B1⟩
  have hvp:=K1.got hR hv
  have hxp:CapA x (ds.map I64) hp G:=hx.keep fun b hb=>K1.get b (hGR b hb)
  rcases Nat.lt_or_eq_of_le le with hlt|heq
  ·have hlt':(i:Int) < ds.length:=by omega
   have hw1:IntKind.i64.wrap ((i:Int)+1)=(i:Int)+1:=wrap64 ω ω
   obtain ⟨wb,cc,cls,hxe,hg,hci⟩:=hxp.at (i:=i) (by simpa using hlt)
   rw [List.length_map] at hxe
   have hcl:=(List.getElem?_eq_some_iff.1 hci).1
   have hci':cls[i]? = some (.int .i64 ds[i]):=by simpa [I64] using hci
   obtain ⟨d0,d1⟩:=hds ds[i] (List.getElem_mem hlt)
   have hdr:ds.drop i=ds[i] :: ds.drop (i+1):=List.drop_eq_getElem_cons hlt
   have hli:l[(ds[i]).toNat]? = some (l[(ds[i]).toNat]?.getD []):=by
    rw [List.getElem?_eq_getElem ω];rfl
   have hul:(l[(ds[i]).toNat]?.getD []).length < 2 ^ 46:=hsl _ (List.mem_of_getElem? hli)
   have hbB:BlkB (shB id (Au c nn) ep l ds[i]):=⟨hid,by show ds[i] < 2 ^ 62;omega,hsr,hep,hul⟩
   rw [hxe] at r28
   simp [r0,r1,r2,r11,r28,r29,r30,hlt',hg,hci']
   refine Br 13 κ ?_
   simp [r0,r1,r2,r11,r28,r29,r30,A8,hvp,volC,Ac hagg,hz5,takeN]
   refine D7.use (x:= .int .i64 (Au c nn)) (L6 hc nn hp) ?_
   have hidx:(ds[i]).toNat < l.length:=by omega
   simp [r0,r1,r2,r11,r28,r29,r30,d0,d1,hidx]
   have hB1:=Rx (b:=shB id (Au c nn) ep l ds[i]) hvp A1 hR B1 ω hbB rfl
   have hge:l[(ds[i]).toNat]=l[(ds[i]).toNat]?.getD []:=by rw [List.getElem?_eq_getElem hidx];rfl
   rw [hge]
   refine hB1.then ?_
   rintro _ h' ⟨rfl,A2,K2⟩
   have e2:vshL id (Au c nn) ep l a1 (ds.drop i)=if F0 a1 (shB id (Au c nn) ep l ds[i])=0 then vshL id (Au c nn) ep l (vput a1 (shB id (Au c nn) ep l ds[i])) (ds.drop (i+1)) else (vput a1 (shB id (Au c nn) ep l ds[i]),F0 a1 (shB id (Au c nn) ep l ds[i])):=by rw [hdr];rfl
   by_cases hv0:F0 a1 (shB id (Au c nn) ep l ds[i])=0
   ·rw [if_pos hv0] at e2
    simp [hv0,r0,r1,r2,r11,r28,r29,r30,hw1]
    exact ⟨i+1,ω,ω,by simpa using r0,by simpa using r1,by simpa using r2,by simpa using r11,by simpa [hxe] using r28,by simpa using r29,μ,_,e1.trans e2,A2,K1.trans K2,Aev B1 _⟩
   ·rw [if_neg hv0] at e2
    simp [hv0,e1,e2]
    exact ⟨A2,K1.trans K2⟩
  ·subst heq
   rw [List.drop_length] at e1
   simp [r0,r1,r2,r11,r28,r29,r30,e1,vshL]
   exact ⟨A1,K1⟩
 ·exact ⟨ω,μ,μ,μ,μ,μ,μ,μ,a,rfl,A,Keep.refl R h,hB⟩
end
theorem CapA.Aew {α:Type} {f:α→AV} (hf:∀ (h:Heap) (x:α),X.snap h true 1 (f x)=some (f x)) {x:AV} {l:List α} {h:Heap} {G:Nat→Prop} (c:CapA x (l.map f) h G) {n:Nat} (hn:∀ b,G b→n≤b):X.snap (h.Kd n) true 2 x=some (TL f l):=by
 rcases c with ⟨rfl,h0,_⟩|⟨wb,c,cells,rfl,hg,hcl,hle,htk,hG⟩
 ·have:l=[]:=by simpa using h0
  subst this
  rfl
 ·rw [List.length_map] at hle htk ⊢
  refine R6 (f:=f) (g:=f) (Heap.Aex hg (hn wb ((hG wb).2 rfl))) ?_ rfl (fun x _=>hf _ x)
  have:0+l.length≤cells.length:=by omega
  simp [takeN,htk]
  omega
section
variable {pa q n:Nat} {cells:List AV} {ps:List Nat} {a:Arr} {R:Nat→Prop} {h:Heap} {pv:Nat} {c:Cfg} {id sq:Int}
theorem Hy (hv:h.get pv=some (volC pa c id sq)) (A:At (ArrI pa q n cells ps a) R h) (N:Nat) (hN:N < 2 ^ 30):CSem Tryz.prog 42 [.ptr pv 0,.int .i64 N] h fun x h'=>x=IL (Ab a N)∧h'=h:=by
 refine CSem.frz (k:=2) ((A7e hv A N hN).mono ?_)
 rintro x h' ⟨⟨G,hc,hg⟩,ha,E⟩
 exact ⟨E,_,CapA.Aew (f:=I64) (fun _ _=>rfl) hc hg,rfl⟩
end
structure VshT (ds:List Int) (pv pa q n:Nat) (cells:List AV) (ps:List Nat) (c:Cfg) (id sq nn ep:Int) (l:Tab) (a0:Arr) (R:Nat→Prop) (h0:Heap) (k:Nat) (i:Nat) (r:Regs) (h:Heap):Prop where
 le:i≤ds.length
 r0:rg r 0 = .ptr pv 0
 r1:rg r 1 = .int .i64 nn
 r2:rg r 2 = .int .i64 ep
 r11:rg r 11=SL l
 r28:rg r 28=IL ds
 r29:rg r 29 = .int .i64 ds.length
 r30:rg r 30 = .int .i64 i
 arr:∃ a,vshL id (Au c nn) ep l a0 ds=vshL id (Au c nn) ep l a (ds.drop i)∧At (ArrI pa q n cells ps a) R h∧Keep R h0 h∧ArrB (k+i) a
section
variable {pa q n:Nat} {cells:List AV} {ps:List Nat} {a:Arr} {R:Nat→Prop} {h:Heap} {pv:Nat} {c:Cfg} {id sq:Int}
theorem Mg {k:Nat} (hc:Ax c) (hv:h.get pv=some (volC pa c id sq)) (A:At (ArrI pa q n cells ps a) R h) (hR:R pv) (hB:ArrB k a) (nn ep:Int) (t:Txt) {ds:List Int}
  (hk:k+ds.length < 2 ^ 30) (hid:id < 2 ^ 62) (hep:ep < 2 ^ 62) (ht:t.length < 2 ^ 46) (hdm:∀ d∈ds,0≤d∧d < c.k+c.m) :
  CSem Tryz.prog 49 [.ptr pv 0,.int .i64 nn,.int .i64 ep,S t,IL ds] h fun y h'=>y = .int .i64 (vshR a id c nn ep t ds).2∧At (ArrI pa q n cells ps (vshR a id c nn ep t ds).1) R h'∧Keep R h h':=by
 refine CSem.body hm Tryz.func49 rfl κ κ (by simp [Tryz.ntmps49]) ?_
 have hagg:aggT Tryz.prog 23=some true:=by kernel_rfl
 have hz5:szT Tryz.prog 23=some 5:=by kernel_rfl
 simp [Tryz.f49,A8,hv,volC,Ac hagg,hz5,takeN]
 refine (Ty c t ω h).use ?_
 simp only [rL,vshR]
 have hrw:=T9 (c:=c) (t:=t) hc
 generalize splR c t=s at hrw ⊢
 obtain ⟨l,e⟩:=s
 simp only at hrw ⊢
 by_cases he:e=0
 rotate_left
 ·simp [he]
  exact ⟨A,Keep.refl R h⟩
 subst he
 obtain ⟨hrl,hrs⟩:=hrw rfl
 have hcn:=Fx hc
 have hkm:=hc.1.2.2.2
 have hds:∀ d∈ds,0≤d∧d < l.length:=fun d hd=>by have:=hdm d hd;omega
 have hsl:∀ u∈l,u.length < 2 ^ 46:=fun u hu=>by have:=hrs u hu;omega
 have hll:l.length < 2 ^ 40:=by omega
 simp
 have hsr:Au c nn < 2 ^ 62:=by
  unfold Au
  have h1:=hc.2.2.2.2.1
  have h2:=hc.2.2.2.1
  split<;>omega
 refine Ar (VshT ds pv pa q n cells ps c id sq nn ep l a R h k) (ds.length - ·) ?_ 0 ?_
 ·rintro i r hp ⟨le,r0,r1,r2,r11,r28,r29,r30,a1,e1,A1,K1,B1⟩
  have hvp:=K1.got hR hv
  rcases Nat.lt_or_eq_of_le le with hlt|heq
  ·have hlt':(i:Int) < ds.length:=by omega
   have hw1:IntKind.i64.wrap ((i:Int)+1)=(i:Int)+1:=wrap64 ω ω
   obtain ⟨d0,d1⟩:=hds ds[i] (List.getElem_mem hlt)
   have hdr:ds.drop i=ds[i] :: ds.drop (i+1):=List.drop_eq_getElem_cons hlt
   have hli:l[(ds[i]).toNat]? = some (l[(ds[i]).toNat]?.getD []):=by
    rw [List.getElem?_eq_getElem ω];rfl
   have hul:(l[(ds[i]).toNat]?.getD []).length < 2 ^ 46:=hsl _ (List.mem_of_getElem? hli)
   have hbB:BlkB (shB id (Au c nn) ep l ds[i]):=⟨hid,by show ds[i] < 2 ^ 62;omega,hsr,hep,hul⟩
   simp [r0,r1,r2,r11,r28,r29,r30,hlt',hlt,List.getElem?_eq_getElem hlt,show I64 ds[i]=AV.int .i64 ds[i] from rfl]
   refine Br 13 κ ?_
   simp [r0,r1,r2,r11,r28,r29,r30,A8,hvp,volC,Ac hagg,hz5,takeN]
   refine D7.use (x:= .int .i64 (Au c nn)) (L6 hc nn hp) ?_
   have hidx:(ds[i]).toNat < l.length:=by omega
   simp [r0,r1,r2,r11,r28,r29,r30,d0,d1,hidx]
   have hB1:=Rx (b:=shB id (Au c nn) ep l ds[i]) hvp A1 hR B1 ω hbB rfl
   have hge:l[(ds[i]).toNat]=l[(ds[i]).toNat]?.getD []:=by rw [List.getElem?_eq_getElem hidx];rfl
   rw [hge]
   refine hB1.then ?_
   rintro _ h' ⟨rfl,A2,K2⟩
   have e2:vshL id (Au c nn) ep l a1 (ds.drop i)=if F0 a1 (shB id (Au c nn) ep l ds[i])=0 then vshL id (Au c nn) ep l (vput a1 (shB id (Au c nn) ep l ds[i])) (ds.drop (i+1)) else (vput a1 (shB id (Au c nn) ep l ds[i]),F0 a1 (shB id (Au c nn) ep l ds[i])):=by rw [hdr];rfl
   by_cases hv0:F0 a1 (shB id (Au c nn) ep l ds[i])=0
   ·rw [if_pos hv0] at e2
    simp [hv0,r0,r1,r2,r11,r28,r29,r30,hw1]
    exact ⟨i+1,ω,ω,by simpa using r0,by simpa using r1,by simpa using r2,by simpa using r11,by simpa using r28,by simpa using r29,μ,_,e1.trans e2,A2,K1.trans K2,Aev B1 _⟩
   ·rw [if_neg hv0] at e2
    simp [hv0,e1,e2]
    exact ⟨A2,K1.trans K2⟩
  ·subst heq
   rw [List.drop_length] at e1
   simp [r0,r1,r2,r11,r28,r29,r30,e1,vshL]
   exact ⟨A1,K1⟩
 ·exact ⟨ω,μ,μ,μ,μ,μ,μ,μ,a,rfl,A,Keep.refl R h,hB⟩
end
def Cz (a:Arr) (id:Int) (c:Cfg) (n d:Int):Txt×Int :=
 if (Cn a id d (Au c n)).2=true∧((Cn a id d (Au c n)).1.tx.length:Int)=c.sh then ((Cn a id d (Au c n)).1.tx,(Cn a id d (Au c n)).1.ep) else ([],-1)
def stL (a:Arr) (id:Int) (c:Cfg) (n:Int) (k:Nat):List (Txt×Int):=(List.range k).map fun d:Nat=>Cz a id c n d
def stS (a:Arr) (id:Int) (c:Cfg) (n:Int):Tab:=(stL a id c n a.disks.length).map (·.1)
def stE (a:Arr) (id:Int) (c:Cfg) (n:Int):List Int:=(stL a id c n a.disks.length).map (·.2)
def ofH (es:List Int) (e:Int):List Bool:=es.map fun x=>decide (x=e)
def ofN (es:List Int) (e:Int):Nat:=(es.filter fun x=>decide (x=e)).length
def epoF (es:List Int) (k:Int):List Int→Int→Int
 | [],b=>b
 | e :: l,b=>epoF es k l (if b < e∧k≤ofN es e then e else b)
def epoR (k:Int) (es:List Int):Int:=epoF es k es (-1)
structure LookD where
 sh:Tab
 es:List Int
 ep:Int
 hv:List Bool
 er:Int
def Cx (a:Arr) (id:Int) (c:Cfg) (n:Int):LookD :=
 if n < 0∨c.st≤n then ⟨[],[],0,[],1⟩
 else if a.down=true then ⟨[],[],0,[],9⟩
 else if epoR c.k (stE a id c n) < 0 then ⟨stS a id c n,stE a id c n,0,[],10⟩
 else ⟨stS a id c n,stE a id c n,epoR c.k (stE a id c n),ofH (stE a id c n) (epoR c.k (stE a id c n)),0⟩
def U5 (x:LookD):AV:= .tup [.agg [SL x.sh,IL x.es],.int .i64 x.ep,OL x.hv,.int .i64 x.er]
def M8 (c:Cfg) (l:Tab) (hv:List Bool):Txt×Int:=if (Jt c l hv).2=0 then ((Jt c l hv).1,0) else ([],10)
def Gc (a:Arr) (id:Int) (c:Cfg) (n:Int):Txt×Int :=
 if (Cx a id c n).er=0 then M8 c (Cx a id c n).sh (Cx a id c n).hv else ([],(Cx a id c n).er)
def Jx (a:Arr) (id:Int) (c:Cfg) (n:Int):Int×Int :=
 if (Cx a id c n).er=0 then (ofN (Cx a id c n).es (Cx a id c n).ep,0) else (0,(Cx a id c n).er)
def Bv (a:Arr):Arr×Int:=(a.flush,a.Kv)
def tryR (p:Arr×Int) (f:Arr→Arr×Int):Arr×Int:=if p.2=0 then f p.1 else p
def Wk (a:Arr) (b:BlkD):Arr×Int:=(vput a b,F0 a b)
def Gt (a:Arr) (hv:List Bool):List Int:=(Ab a a.disks.length).filter fun d => !(hv[d.toNat]?.getD false)
def Bj (a:Arr) (id:Int) (c:Cfg) (n:Int):Arr×Int×Int :=
 let k:=Cx a id c n
 if k.er≠0 then (a,0,k.er) else
 let t:=M8 c k.sh k.hv
 if t.2≠0 then (a,0,t.2) else
 let p:=tryR (vshR a id c n k.ep t.1 (Gt a k.hv)) Bv
 if p.2=0 then (p.1,((Gt a k.hv).length:Int),0) else (p.1,0,p.2)
def hdB (id d:Int) (c:Cfg):BlkD:=⟨id,d,0,0,Gx c⟩
def isHd (a:Arr) (id d:Int) (c:Cfg):Prop:=(Cn a id d 0).2=true∧(Cn a id d 0).1.tx=Gx c
instance (a:Arr) (id d:Int) (c:Cfg):Decidable (isHd a id d c):=by unfold isHd;exact inferInstance
def Cg (id:Int) (c:Cfg):Arr→Int→List Int→Arr×Int×Int
 | a,m,[]=>(a,m,0)
 | a,m,d :: ds=>if isHd a id d c then Cg id c a m ds else
  if F0 a (hdB id d c)=0 then Cg id c (vput a (hdB id d c)) (m+1) ds else (vput a (hdB id d c),0,F0 a (hdB id d c))
def B9 (a:Arr) (id:Int) (c:Cfg):Arr×Int×Int :=
 if a.down=true then (a,0,9) else
 let p:=Cg id c a 0 (Ab a a.disks.length)
 if p.2.2=0 then (if p.1.Kv=0 then (p.1.flush,p.2.1,0) else (p.1.flush,0,p.1.Kv)) else p
def jrB (id:Int) (c:Cfg) (sq:Int) (r:Txt) (d:Int):BlkD:=⟨id,d,1+sq % c.sl,sq,r⟩
def jrL (id:Int) (c:Cfg) (sq:Int) (r:Txt) (ds:List Int) (p:Arr×Int):Arr×Int:=ds.foldl (fun p d=>tryR p fun a=>Wk a (jrB id c sq r d)) p
def Am (a:Arr) (id:Int) (c:Cfg) (sq n:Int) (t:Txt):Arr×Int×Int :=
 if n < 0∨c.st≤n then (a,sq,1) else if Aw c < t.length then (a,sq,12) else if a.down=true then (a,sq,9) else
 let all:=Ab a a.disks.length
 let jn:=Ab a (c.m+1).toNat
 if (all.length:Int) < c.k∨jn.length=0 then (a,sq,10) else
 let r:=Bk ⟨sq,n,t⟩
 let p:=tryR (tryR (tryR (jrL id c sq r.1 jn (a,r.2)) Bv) fun a=>vshR a id c n (sq+1) t all) Bv
 (p.1,if p.2=0 then sq+1 else sq,p.2)
def N9 (a:Arr) (id:Int):List Int→Option Cfg
 | []=>none
 | d :: ds=>if (Cn a id d 0).2=true∧(Ga (Cn a id d 0).1.tx).2=0∧C7 (Ga (Cn a id d 0).1.tx).1=a.disks.length then some (Ga (Cn a id d 0).1.tx).1 else N9 a id ds
def Kw (a:Arr) (id:Int):Option Cfg:=N9 a id (Ab a a.disks.length)
def Kx (c:Cfg) (id d:Int) (secs:Tab) (k:Nat):List IntD :=
 let b:=Cm (secs[k+1]?.getD []) id d (k+1)
 let x:=Dd b.1.tx
 if b.2=0∧x.2=0∧1+x.1.sq % c.sl=k+1∧0≤Au c x.1.st then [x.1] else []
def Jz (c:Cfg) (id d:Int) (secs:Tab) (k:Nat):List IntD:=((List.range k).map (Kx c id d secs)).flatten
def Dq (c:Cfg) (id d:Int) (secs:Tab):List IntD:=Jz c id d secs (min c.sl.toNat (secs.length - 1))
def Gr (a:Arr) (d:Int) (n:Nat):Tab:=(List.range n).map fun p:Nat=>(a.read d p).1
def newI (x:IntD):List IntD→List IntD
 | []=>[x]
 | y :: l=>if x.st < y.st then x :: y :: l else if x.st=y.st then (if y.sq < x.sq then x else y) :: l else y :: newI x l
def G6 (l:List IntD):List IntD:=l.foldl (fun acc x=>newI x acc) []
def Dz (a:Arr) (id:Int) (c:Cfg) (ds:List Int):List IntD:=(ds.map fun d=>Dq c id d (Gr a d (1+c.sl+c.st).toNat)).flatten
def C4 (a:Arr) (id:Int) (c:Cfg):List IntD:=G6 (Dz a id c (Ab a (c.m+1).toNat))
def maxL:List Int→Int
 | []=>0
 | [x]=>x
 | x :: l=>max x (maxL l)
def Cj (l:List IntD):Int:=if l=[] then 0 else maxL (l.map (·.sq))+1
def seqR (a:Arr) (id:Int) (c:Cfg):Nat→Int→Int
 | 0,s=>s
 | n+1,s=>max (seqR a id c n s) (maxL (stE a id c n))
def D4 (id:Int) (c:Cfg) (all:List Int):Arr→List IntD→Arr×Int
 | a,[]=>(a,0)
 | a,x :: l =>
  if x.sq+1 < maxL (stE a id c x.st)∨ofN (stE a id c x.st) (x.sq+1)=all.length then D4 id c all a l else
  let p:=vshR a id c x.st (x.sq+1) x.tx all
  if p.2=0 then D4 id c all p.1 l else p
structure Aey where
 ar:Arr
 vo:Option (Cfg×Int)
 er:Int
def Bc (a:Arr) (id:Int):Aey :=
 if a.down=true then ⟨a,none,9⟩ else
 match Kw a id with
 | none=>⟨a,none,10⟩
 | some c =>
  let nw:=C4 a id c
  let s:=seqR a id c c.st.toNat (Cj nw)
  let p:=tryR (D4 id c (Ab a a.disks.length) a nw) Bv
  if p.2=0 then ⟨p.1,some (c,s),0⟩ else ⟨p.1,none,p.2⟩
def Hv (id:Int) (c:Cfg) (all:List Int):Arr→List Nat→Arr×Int
 | a,[]=>(a,0)
 | a,n :: l=>if (vshR a id c n 0 [] all).2=0 then Hv id c all (vshR a id c n 0 [] all).1 l else vshR a id c n 0 [] all
def Gy (id:Int) (c:Cfg):Arr→List Int→Arr×Int
 | a,[]=>(a,0)
 | a,d :: ds=>if F0 a (hdB id d c)=0 then Gy id c (vput a (hdB id d c)) ds else (vput a (hdB id d c),F0 a (hdB id d c))
def Cf (a:Arr) (c:Cfg) (id:Int):Aey :=
 if ¬Ax c∨(a.disks.length:Int)≠C7 c∨id < 0∨4294967295 < id then ⟨a,none,1⟩ else
 if a.down=true then ⟨a,none,9⟩ else
 let all:=Ab a a.disks.length
 if all.length < a.disks.length then ⟨a,none,8⟩ else
 let p:=tryR (tryR (Gy id c a all) fun a=>Hv id c all a (List.range c.st.toNat)) Bv
 if p.2=0 then ⟨p.1,some (c,0),0⟩ else ⟨p.1,none,p.2⟩
structure DskL (d:Dsk):Prop where
 size:d.size≤4096
 secs:∀ s∈d.secs,s.length≤4096
 waits:∀ w∈d.waits,w.2.length≤4096
structure ArrQ (k:Nat) (a:Arr):Prop where
 b:ArrB k a
 l:∀ d∈a.disks,DskL d
theorem ArrQ.mono {k k':Nat} {a:Arr} (h:ArrQ k a) (hk:k≤k'):ArrQ k' a:=⟨h.b.mono hk,h.l⟩
theorem T5 {n:Int} : ∀ {l:List (Int×Txt)} {s:Txt},E9 n l=some s→(n,s)∈l
 | w :: ws,s,h=>by
  unfold E9 at h
  split at h
  ·rename_i s' hs
   cases h
   exact List.mem_cons_of_mem _ (T5 hs)
  ·split at h
   ·rename_i hw
    cases h
    rw [←hw]
    exact List.mem_cons_self ..
   ·cases h
theorem Dsk.at_mem {d:Dsk} (n:Int):(n,d.at_ n)∈d.waits∨d.secs[n.toNat]? = some (d.at_ n)∨d.at_ n=[]:=by
 unfold Dsk.at_
 cases h:E9 n d.waits with
 | some s=>exact .inl (T5 h)
 | none =>
  cases h2:d.secs[n.toNat]? with
  | some s=>exact .inr (.inl rfl)
  | none=>exact .inr (.inr rfl)
theorem DskL.at_ {d:Dsk} (h:DskL d) (n:Int):(d.at_ n).length≤4096:=by
 rcases d.at_mem n with h1|h1|h1
 ·exact h.waits _ h1
 ·exact h.secs _ (List.mem_of_getElem? h1)
 ·rw [h1];simp
theorem ArrQ.short {k:Nat} {a:Arr} (h:ArrQ k a) (d p:Int):(a.read d p).1.length≤4096:=by
 unfold Arr.read
 split
 ·simp
 ·split
  ·simp
  ·rename_i x hx
   unfold Dsk.read
   split
   ·exact (h.l x (List.mem_of_getElem? (Arr.Ka hx).2.2)).at_ p
   ·simp
theorem A02 (s:Txt):(Ht s).1.length≤s.length:=by
 unfold Ht
 split
 ·have:=Je s 2
  simp;omega
 ·simp
theorem A03 (s:Txt):∀ i,(opRs s i).length≤s.length
 | 0=>by simp [opRs]
 | i+1=>Nat.le_trans (Je _ _) (A03 s i)
theorem Abb (s:Txt):(Dy s).1.tx.length≤s.length:=by
 unfold Dy
 split
 ·simp [blk0]
 ·split
  ·simp [blk0]
  ·split
   ·simp [blk0]
   ·split
    ·simp [blk0]
    ·split
     ·simp [blk0]
     ·exact Nat.le_trans (A02 _) (A03 s 4)
theorem Tm (s:Txt) (a d p:Int):(Cm s a d p).1.tx.length≤s.length:=by
 unfold Cm
 split
 ·exact Abb s
 ·simp [blk0]
theorem ArrQ.tx {k:Nat} {a:Arr} (h:ArrQ k a) (id d p:Int):(Cn a id d p).1.tx.length≤4096:=by
 unfold Cn
 split
 ·exact Nat.le_trans (Tm _ _ _ _) (h.short d p)
 ·simp [blk0]
@[simp] theorem Arr.write_len (a:Arr) (d p:Int) (s:Txt):(a.write d p s).disks.length=a.disks.length:=by
 unfold Arr.write
 split
 ·rfl
 ·split
  ·rfl
  ·split
   ·rfl
   ·split
    ·rfl
    ·simp [Arr.set]
@[simp] theorem Arr.Aaj (a:Arr):a.flush.disks.length=a.disks.length:=by
 unfold Arr.flush
 split<;>simp
theorem Mh:∀ (l:List Dsk) (keep:List Bool),(Gp l keep).length=l.length
 | [],_=>rfl
 | d :: ds,keep=>by simp [Gp,Mh ds]
@[simp] theorem Arr.Ph (a:Arr) (keep:List Bool):(a.B3 keep).disks.length=a.disks.length:=Mh _ _
@[simp] theorem Arr.fuse_len (a:Arr) (n:Int):(a.fuse n).disks.length=a.disks.length:=by
 unfold Arr.fuse
 split<;>rfl
theorem Arr.Xe (a:Arr) (d:Int) (e:Dsk→Int) (f:Dsk→Dsk):(a.does d e f).1.disks.length=a.disks.length:=by
 unfold Arr.does
 split
 ·rfl
 ·simp [Arr.set]
@[simp] theorem Arr.fail_len (a:Arr) (d:Int):(a.fail d).1.disks.length=a.disks.length:=a.Xe _ _ _
@[simp] theorem Arr.Akj (a:Arr) (d:Int):(a.replace d).1.disks.length=a.disks.length:=a.Xe _ _ _
@[simp] theorem Arr.Akk (a:Arr) (d n:Int) (s:Txt):(a.Cd d n s).1.disks.length=a.disks.length:=a.Xe _ _ _
theorem DskL.write {d:Dsk} (h:DskL d) (n:Int) (s:Txt):DskL (d.write n s):=by
 unfold Dsk.write
 split
 ·rename_i hc
  have hs:=(Dsk.Xd hc).2.2.2
  have hz:=h.size
  refine ⟨h.size,h.secs,fun w hw=> ?_⟩
  rcases List.mem_append.1 hw with hw|hw
  ·exact h.waits w hw
  ·rw [List.mem_singleton.1 hw];show s.length≤4096;omega
 ·exact h
theorem ArrQ.write {k:Nat} {a:Arr} (h:ArrQ k a) (i n:Int) (s:Txt):ArrQ (k+1) (a.write i n s):=by
 refine ⟨h.b.write i n s,fun x hx=> ?_⟩
 unfold Arr.write at hx
 split at hx
 ·exact h.l x hx
 ·split at hx
  ·exact h.l x hx
  ·rename_i d ho
   split at hx
   ·exact h.l x hx
   ·split at hx
    ·exact h.l x hx
    ·rcases List.mem_or_eq_of_mem_set hx with hx|hx
     ·exact h.l x hx
     ·rw [hx];exact (h.l d (List.mem_of_getElem? (Arr.Ka ho).2.2)).write n s
theorem Xf {P:Txt→Prop} : ∀ (l:List (Int×Txt)) (keep:List Bool) (s:List Txt),(∀ x∈s,P x)→(∀ w∈l,P w.2)→∀ x∈Dv l keep s,P x
 | [],keep,s,h1,h2=>h1
 | v :: l,[],s,h1,h2=>h1
 | v :: l,k :: ks,s,h1,h2=>by
  refine Xf l ks _ ?_ (fun w hw=>h2 w (List.mem_cons_of_mem _ hw))
  intro x hx
  cases k with
  | false=>exact h1 x hx
  | true =>
   rcases List.mem_or_eq_of_mem_set hx with hx|hx
   ·exact h1 x hx
   ·rw [hx];exact h2 v (List.mem_cons_self ..)
theorem Ms.B3 {k:Nat} {d:Dsk} (h:Ms k d) (keep:List Bool):Ms 0 (d.B3 keep):=by
 unfold Dsk.B3
 split
 ·rename_i hg
  refine ⟨h.w,h.one,?_⟩
  rw [h.w.gone hg];simp
 ·exact ⟨⟨fun w hw=>by simp at hw,fun _=>rfl,h.w.size,by simpa [Hc] using h.w.few⟩,by simpa [Hc] using h.one,μ⟩
theorem DskL.B3 {d:Dsk} (h:DskL d) (keep:List Bool):DskL (d.B3 keep):=by
 unfold Dsk.B3
 split
 ·exact h
 ·exact ⟨h.size,Xf _ _ _ h.secs h.waits,fun w hw=>by simp at hw⟩
theorem Qn {P:Dsk→Prop} : ∀ (l:List Dsk) (keep:List Bool),(∀ d∈l,∀ ks,P (d.B3 ks))→∀ x∈Gp l keep,P x
 | [],_,_=>by simp [Gp]
 | d :: ds,keep,h=>by
  intro x hx
  rcases List.mem_cons.1 hx with hx|hx
  ·rw [hx];exact h d (List.mem_cons_self ..) _
  ·exact Qn ds _ (fun d hd=>h d (List.mem_cons_of_mem _ hd)) x hx
theorem ArrQ.B3 {k:Nat} {a:Arr} (h:ArrQ k a) (keep:List Bool):ArrQ 0 (a.B3 keep) :=
 ⟨⟨Qn _ _ fun d hd ks=>(h.b.disks d hd).B3 ks,by have:=h.b.one;simpa [Arr.B3,Mh] using this,by have:=h.b.few;simpa [Arr.B3,Mh] using this,by show (-1:Int) < 2 ^ 63;decide⟩,Qn _ _ fun d hd ks=>(h.l d hd).B3 ks⟩
theorem ArrQ.flush {k:Nat} {a:Arr} (h:ArrQ k a):ArrQ k a.flush:=by
 unfold Arr.flush
 split
 ·exact h
 ·refine ⟨⟨fun x hx=> ?_,by simpa using h.b.one,by simpa using h.b.few,h.b.left⟩,fun x hx=> ?_⟩
  ·obtain ⟨d,hd,rfl⟩:=List.mem_map.1 hx;exact ((h.b.disks d hd).B3 _).mono ω
  ·obtain ⟨d,hd,rfl⟩:=List.mem_map.1 hx;exact (h.l d hd).B3 _
theorem ArrQ.fuse {k:Nat} {a:Arr} (h:ArrQ k a) {n:Int} (hn:n < 2 ^ 63):ArrQ k (a.fuse n):=by
 unfold Arr.fuse
 split
 ·exact h
 ·exact ⟨⟨h.b.disks,h.b.one,h.b.few,hn⟩,h.l⟩
theorem ArrQ.does {k:Nat} {a:Arr} (h:ArrQ k a) (d:Int) (e:Dsk→Int) (f:Dsk→Dsk) (h1:∀ x,Ms k x→Ms k (f x)) (h2:∀ x,DskL x→DskL (f x)):ArrQ k (a.does d e f).1:=by
 unfold Arr.does
 split
 ·exact h
 ·rename_i x hx
  have hm:=List.mem_of_getElem? (Arr.Ka hx).2.2
  refine ⟨⟨fun y hy=> ?_,by simpa [Arr.set] using h.b.one,by simpa [Arr.set] using h.b.few,h.b.left⟩,fun y hy=> ?_⟩
  ·rcases List.mem_or_eq_of_mem_set hy with hy|hy
   ·exact h.b.disks y hy
   ·rw [hy];exact h1 x (h.b.disks x hm)
  ·rcases List.mem_or_eq_of_mem_set hy with hy|hy
   ·exact h.l y hy
   ·rw [hy];exact h2 x (h.l x hm)
theorem ArrQ.fail {k:Nat} {a:Arr} (h:ArrQ k a) (d:Int):ArrQ k (a.fail d).1 :=
 h.does d _ _ (fun x hx=>⟨⟨fun w hw=>by simp [Dsk.fail] at hw,fun _=>rfl,hx.w.size,hx.w.few⟩,hx.one,by simp [Dsk.fail]⟩) (fun x hx=>⟨hx.size,hx.secs,fun w hw=>by simp [Dsk.fail] at hw⟩)
theorem ArrQ.replace {k:Nat} {a:Arr} (h:ArrQ k a) (d:Int):ArrQ k (a.replace d).1 :=
 h.does d _ _ (fun x hx=>⟨⟨fun w hw=>by simp [Dsk.replace] at hw,fun _=>rfl,hx.w.size,by simpa [Dsk.replace] using hx.w.few⟩,by simpa [Dsk.replace] using hx.one,by simp [Dsk.replace]⟩)
  (fun x hx=>⟨hx.size,fun s hs=>by simp [Dsk.replace] at hs;rw [hs.2];simp,fun w hw=>by simp [Dsk.replace] at hw⟩)
theorem ArrQ.Cd {k:Nat} {a:Arr} (h:ArrQ k a) (d n:Int) (s:Txt):ArrQ k (a.Cd d n s).1:=by
 refine h.does d _ _ (fun x hx=> ?_) (fun x hx=> ?_)
 ·unfold Dsk.Cd
  split
  ·refine ⟨⟨fun w hw=> ?_,fun hg=> ?_,hx.w.size,by simpa using hx.w.few⟩,by simpa using hx.one,?_⟩
   ·have:=hx.w.waits w (List.mem_filter.1 hw).1
    simpa using this
   ·rw [hx.w.gone hg];rfl
   ·exact Nat.le_trans (List.length_filter_le _ _) hx.few
  ·exact hx
 ·unfold Dsk.Cd
  split
  ·rename_i hc
   have hs:=(Dsk.Xd hc).2.2.2
   have hz:=hx.size
   refine ⟨hx.size,fun u hu=> ?_,fun w hw=>hx.waits w (List.mem_filter.1 hw).1⟩
   rcases List.mem_or_eq_of_mem_set hu with hu|hu
   ·exact hx.secs u hu
   ·rw [hu];omega
  ·exact hx
theorem ArrQ.new {n s z:Int} (h1:1≤n) (h2:n≤255) (h3:DskP s z):ArrQ 0 (Ck n s z):=by
 obtain ⟨a1,a2,a3,a4⟩:=h3
 refine ⟨⟨fun d hd=> ?_,by simp [Ck];omega,by simp [Ck];omega,by show (-1:Int) < 2 ^ 63;decide⟩,fun d hd=> ?_⟩
 ·rw [List.eq_of_mem_replicate hd]
  exact ⟨⟨fun w hw=>by simp [Ew] at hw,fun _=>rfl,by show 0≤z;omega,by simp [Ew];omega⟩,by simp [Ew];omega,by simp [Ew]⟩
 ·rw [List.eq_of_mem_replicate hd]
  exact ⟨a4,fun s hs=>by simp [Ew] at hs;rw [hs.2];simp,fun w hw=>by simp [Ew] at hw⟩
theorem Aez {es:List Int} {e:Int} {i:Nat} (hi:i < es.length):ofN (es.take (i+1)) e=ofN (es.take i) e+if es[i]=e then 1 else 0:=by
 unfold ofN
 rw [List.take_succ_eq_append_getElem hi,List.filter_append,List.length_append]
 by_cases h:es[i]=e<;>simp [h]
theorem ofN_le (es:List Int) (e:Int):ofN es e≤es.length:=List.length_filter_le _ _
theorem Xg (n:Nat):List.replicate n (AV.bool false)=(List.replicate n false).map AV.bool:=by rw [List.map_replicate]
structure OfI (es:List Int) (e:Int) (i:Nat) (r:Regs) (h:Heap):Prop where
 le:i≤es.length
 r1:rg r 1 = .int .i64 e
 r6:rg r 6 = .sl 1 0 es.length es.length 1
 r7:rg r 7 = .int .i64 (ofN (es.take i) e)
 r15:rg r 15=IL es
 r16:rg r 16 = .int .i64 es.length
 r17:rg r 17 = .int .i64 i
 hg:h.get 1=some ((mid (ofH es e) (List.replicate es.length false) i).map AV.bool)
theorem Af0 (s:Tab) (es:List Int) (e:Int) (hl:es.length < 2 ^ 40):As Tryz.prog 48 [.agg [SL s,IL es],.int .i64 e] (.tup [OL (ofH es e),.int .i64 (ofN es e)]):=by
 refine As.Ba (k:=3) ?_
 refine CSem.body hm Tryz.func48 rfl κ κ (by simp [Tryz.ntmps48]) ?_
 have hol:(ofH es e).length=(List.replicate es.length false).length:=by simp [ofH]
 have hol2:(ofH es e).length=es.length:=by simp [ofH]
 have hagg:aggT Tryz.prog 76=some true:=by kernel_rfl
 have hz2:szT Tryz.prog 76=some 2:=by kernel_rfl
 simp [Tryz.f48,A8,AV.cells,show (Heap.empty.alloc [SL s,IL es]).get 0=some [SL s,IL es] from Heap.A9 _ _]
 refine ⟨ω,?_⟩
 have m1:∀ z:List AV,((Heap.empty.alloc [SL s,IL es]).alloc z).get 0=some [SL s,IL es]:=fun z=>Heap.Ag (Heap.A9 _ _)
 simp [m1]
 refine Ar (OfI es e) (es.length - ·) ?_ 0 ?_
 ·rintro i r h ⟨le,r1,r6,r7,r15,r16,r17,hg⟩
  rcases Nat.lt_or_eq_of_le le with hlt|heq
  ·have hlt':(i:Int) < es.length:=by omega
   have hx:es[i]? = some es[i]:=List.getElem?_eq_getElem hlt
   have hw1:IntKind.i64.wrap ((i:Int)+1)=(i:Int)+1:=wrap64 ω ω
   have hz:(ofH es e)[i]? = some (decide (es[i]=e)):=by simp [ofH,hx]
   have hn:=Aez (e:=e) hlt
   have hle:=ofN_le (es.take i) e
   have htl:(es.take i).length≤es.length:=by simp;omega
   have hml:=H8 hol (i:=i) (by simpa using le)
   have hms:=Gm hol (i:=i) (by simpa using hlt) hz
   have hmg:(mid (ofH es e) (List.replicate es.length false) (i+1))[i]? = some (decide (es[i]=e)):=by
    rw [←hms,List.getElem?_set_self (by rw [hml];simpa using hlt)]
   have hI:I64 es[i]=AV.int .i64 es[i]:=rfl
   by_cases he:es[i]=e
   ·have hw2:IntKind.i64.wrap ((ofN (es.take i) e:Int)+1)=(ofN (es.take i) e:Int)+1:=wrap64 ω ω
    simp only [he,decide_true] at hms hmg
    simp [r1,r6,r7,r15,r16,r17,hlt',hlt,hg,hml,←List.map_set,hms,Heap.Ak hg,hmg,he,hw1,hw2,I64,hx,le]
    refine ⟨i+1,ω,ω,by simpa using r1,by simpa using r6,?_,by simpa using r15,by simpa using r16,μ,?_⟩
    ·rw [hn,if_pos he];simp
    ·simp [Heap.Ak hg]
   ·simp only [he,decide_false] at hms hmg
    simp [r1,r6,r7,r15,r16,r17,hlt',hlt,hg,hml,←List.map_set,hms,Heap.Ak hg,hmg,he,hw1,I64,hx,le]
    refine ⟨i+1,ω,ω,by simpa using r1,by simpa using r6,?_,by simpa using r15,by simpa using r16,μ,?_⟩
    ·rw [hn,if_neg he];simpa using r7
    ·simp [Heap.Ak hg]
  ·subst heq
   rw [List.take_length] at r7
   have hmf:=F7 hol
   rw [List.length_replicate] at hmf
   rw [hmf] at hg
   simp [r1,r6,r7,r15,r16,r17]
   rw [F8 (k:=1) hg hol2.symm (fun _=>rfl)]
   rfl
 ·refine ⟨ω,μ,μ,by simp [ofN],μ,μ,μ,?_⟩
  rw [Ve,←Xg]
  exact Heap.A9 _ _
theorem Xh (s:Tab) (es:List Int) (e:Int) (hl:es.length < 2 ^ 40) {h:Heap} {x y:AV} (hx:snap h true 2 x=some (SL s)) (hy:snap h true 2 y=some (IL es)):CSem Tryz.prog 48 [.agg [x,y],.int .i64 e] h fun x' h'=>x' = .tup [OL (ofH es e),.int .i64 (ofN es e)]∧h'=h :=
 (Af0 s es e hl).call (k:=3) (by simp [Da,mapL,hx,hy])
structure EpI (s:Tab) (es:List Int) (k:Int) (i:Nat) (r:Regs) (h:Heap):Prop where
 le:i≤es.length
 r1:rg r 1 = .int .i64 k
 r2:rg r 2 = .ptr 0 0
 r5:∃ b,rg r 5 = .int .i64 b∧epoF es k (es.drop i) b=epoR k es
 r11:rg r 11=IL es
 r12:rg r 12 = .int .i64 es.length
 r13:rg r 13 = .int .i64 i
 hg:h.get 0=some [SL s,IL es]
theorem A7f (s:Tab) (es:List Int) (k:Int) (hl:es.length < 2 ^ 40):As Tryz.prog 61 [.agg [SL s,IL es],.int .i64 k] (.int .i64 (epoR k es)):=by
 refine As.Ba (k:=1) ?_
 refine CSem.body hm Tryz.func61 rfl κ κ (by simp [Tryz.ntmps61]) ?_
 have hagg:aggT Tryz.prog 76=some true:=by kernel_rfl
 have hz2:szT Tryz.prog 76=some 2:=by kernel_rfl
 simp [Tryz.f61,A8,AV.cells,show (Heap.empty.alloc [SL s,IL es]).get 0=some [SL s,IL es] from Heap.A9 _ _]
 refine Ar (EpI s es k) (es.length - ·) ?_ 0 ?_
 ·rintro i r h ⟨le,r1,r2,⟨b,r5,eb⟩,r11,r12,r13,hg⟩
  rcases Nat.lt_or_eq_of_le le with hlt|heq
  ·have hlt':(i:Int) < es.length:=by omega
   have hx:es[i]? = some es[i]:=List.getElem?_eq_getElem hlt
   have hw1:IntKind.i64.wrap ((i:Int)+1)=(i:Int)+1:=wrap64 ω ω
   have hdr:es.drop i=es[i] :: es.drop (i+1):=List.drop_eq_getElem_cons hlt
   rw [hdr] at eb
   simp only [epoF] at eb
   simp [r1,r2,r5,r11,r12,r13,hlt',hlt,hg,Ac hagg,hz2,takeN,hx]
   refine (Xh s es es[i] hl μ μ).use ?_
   by_cases h1:b < es[i]
   ·by_cases h2:k≤ofN es es[i]
    ·rw [if_pos ⟨h1,h2⟩] at eb
     simp [h1,h2,I64,r1,r2,r5,r11,r12,r13,hw1]
     exact ⟨i+1,ω,ω,by simpa using r1,by simpa using r2,⟨_,μ,eb⟩,by simpa using r11,by simpa using r12,μ,hg⟩
    ·rw [if_neg (fun h=>h2 h.2)] at eb
     simp [h1,h2,I64,r1,r2,r5,r11,r12,r13,hw1]
     exact ⟨i+1,ω,ω,by simpa using r1,by simpa using r2,⟨_,by simpa using r5,eb⟩,by simpa using r11,by simpa using r12,μ,hg⟩
   ·rw [if_neg (fun h=>h1 h.1)] at eb
    simp [h1,I64,r1,r2,r5,r11,r12,r13,hw1]
    exact ⟨i+1,ω,ω,by simpa using r1,by simpa using r2,⟨_,by simpa using r5,eb⟩,by simpa using r11,by simpa using r12,μ,hg⟩
  ·subst heq
   rw [List.drop_length] at eb
   simp only [epoF] at eb
   simp [r1,r2,r5,r11,r12,r13,eb]
 ·exact ⟨ω,μ,μ,⟨-1,μ,rfl⟩,μ,μ,μ,by simp [Heap.Aa]⟩
theorem A7g (s:Tab) (es:List Int) (k:Int) (hl:es.length < 2 ^ 40) {h:Heap} {x y:AV} (hx:snap h true 2 x=some (SL s)) (hy:snap h true 2 y=some (IL es)):CSem Tryz.prog 61 [.agg [x,y],.int .i64 k] h fun x' h'=>x' = .int .i64 (epoR k es)∧h'=h :=
 (A7f s es k hl).call (k:=3) (by simp [Da,mapL,hx,hy])
def Fy (n:Nat):Code→Option Code
 | .region i ops b=>if i=n then some (.region i ops b) else none
 | .seq a b=>match Fy n a with
  | some c=>some c
  | none=>Fy n b
 | .cond _ a b=>match Fy n a with
  | some c=>some c
  | none=>Fy n b
 | .block _ a=>Fy n a
 | .loop a=>Fy n a
 | _=>none
section
variable {P:Program}
theorem Hx (Hp:(Nat→Bool)→Regs→Heap→Prop) (V:Nat→AV→Prop) {id:Nat} {l:List Oper} {Q:Out→Regs→Heap→Prop} {r0:Regs} {h0:Heap} (hs:ssaB l=true) (hi0:Hp (fun _=>false) r0 h0)
  (hstep:∀ (L:Nat→Bool) (r:Regs) (h:Heap),Hp L r h→(∀ i j,depB l i j=true→L j=false→L i=false)→(∀ d,(∀ j o,l[j]? = some o→o.dst=some d→L j=false)→rg r d=rg r0 d) →
   AllO (fun i o=>L i=false→(∀ e∈o.after.toList,DepL V l r e∧(Region.binds .any e=true→L e.on=true))→wpI P o.op o.dst (fun r' h'=> ∃ v,r'=Av r o.dst v∧(o.dst.isSome=true→V i v)∧Hp (fun k=>if k=i then true else L k) r' h') r h) 0 l)
  (hend:∀ (L:Nat→Bool) (r:Regs) (h:Heap),(∀ k,k < l.length→L k=true)→Hp L r h→(∀ d,d ∉ l.filterMap (·.dst)→rg r d=rg r0 d)→AllO (fun i o=>VL V i o r) 0 l→Q .norm r h):wpc P (.region id l.toArray true) Q r0 h0:=by
 unfold ssaB at hs
 simp only [Bool.and_eq_true,decide_eq_true_eq] at hs
 obtain ⟨⟨hgd,hnd⟩,hac⟩:=hs
 have hdst:=Ln hnd
 have hac':∀ (i:Nat) (o:Oper) (e:Edge),l[i]? = some o→e∈o.after.toList→Region.binds .any e=true→e.on < i:=by
  intro i o e hi he hb
  have:=List.all_eq_true.1 hac i (by simpa using (List.getElem?_eq_some_iff.1 hi).1)
  rw [hi] at this
  have:=List.all_eq_true.1 this e he
  simpa [hb] using this
 refine Nx ?_
 have key:∀ (f:Nat) (listed:Array Bool) (r:Regs) (h:Heap),listed.size=l.length→(List.range l.length).countP (fun i => !listed.getD i true)=f→Hp (fun k=>listed.getD k false) r h →
   (∀ i j,depB l i j=true→listed.getD j false=false→listed.getD i false=false)→(∀ d,(∀ j o,l[j]? = some o→o.dst=some d→listed.getD j false=false)→rg r d=rg r0 d) →
   (∀ i o,l[i]? = some o→listed.getD i false=true→VL V i o r)→Bn P l.toArray (Q .norm) f listed r h:=by
  intro f
  induction f with
  | zero =>
   intro listed r h hsz hc hi hx hr hv
   have hall:∀ i,i < l.length→listed.getD i true=true:=by
    intro i hil
    have:=List.countP_eq_zero.1 hc i (by simpa using hil)
    simpa using this
   have hallF:∀ i,i < l.length→listed.getD i false=true:=by
    intro i hil
    have:=hall i hil
    simpa [hsz,hil] using this
   refine ⟨?_,hend (fun k=>listed.getD k false) r h hallF hi (fun d hd=>hr d fun j o hj hjd=>(hd (List.mem_filterMap.2 ⟨o,List.mem_of_getElem? hj,hjd⟩)).elim) ?_⟩
   ·rw [Region.ready,List.filter_eq_nil_iff]
    intro i hil
    have:=hall i (by simpa using hil)
    simp [this]
   ·have:∀ (m:List Oper) (k:Nat),(∀ j o,m[j]? = some o→VL V (k+j) o r)→AllO (fun i o=>VL V i o r) k m:=by
     intro m
     induction m with
     | nil=>intro k _;trivial
     | cons o m ih =>
      intro k hk
      exact ⟨hk 0 o rfl,ih (k+1) (fun j o' hj=>by have:=hk (j+1) o' (by simpa using hj);rwa [show k+(j+1)=k+1+j by omega] at this)⟩
    refine this l 0 fun j o hj=> ?_
    rw [Nat.zero_add]
    exact hv j o hj (hallF j (List.getElem?_eq_some_iff.1 hj).1)
  | succ f ih =>
   intro listed r h hsz hc hi hx hr hv
   refine ⟨fun he=> ?_,fun i hir=> ?_⟩
   ·exfalso
    have hex:∃ i,i < l.length∧listed.getD i true=false:=by
     have:0 < (List.range l.length).countP (fun i => !listed.getD i true):=by omega
     obtain ⟨i,h1,h2⟩:=List.countP_pos_iff.1 this
     exact ⟨i,by simpa using h1,by simpa using h2⟩
    have least:∀ n,(∃ i,i < n∧i < l.length∧listed.getD i true=false)→∃ i,i < l.length∧listed.getD i true=false∧∀ j,j < i→listed.getD j true=true:=by
     intro n
     induction n with
     | zero=>rintro ⟨i,h1,_⟩;omega
     | succ n ihn =>
      rintro ⟨i,h1,h2,h3⟩
      by_cases hlt:∃ j,j < n∧j < l.length∧listed.getD j true=false
      ·exact ihn hlt
      ·refine ⟨i,h2,h3,fun j hj=> ?_⟩
       cases hb:listed.getD j true with
       | true=>rfl
       | false=>exact (hlt ⟨j,ω,ω,hb⟩).elim
    obtain ⟨i0,h1,h2⟩:=hex
    obtain ⟨i,g1,g2,g3⟩:=least (i0+1) ⟨i0,ω,h1,h2⟩
    have:i∈Region.ready .any l.toArray listed:=by
     rw [Region.ready,List.mem_filter]
     refine ⟨by simpa using g1,?_⟩
     simp only [g2,Bool.not_false,Bool.true_and]
     have hget:l[i]? = some l[i]:=List.getElem?_eq_getElem g1
     simp only [List.getElem?_toArray,hget,Option.map_some,Option.getD_some]
     rw [←Array.all_toList,List.all_eq_true]
     intro e hee
     by_cases hb:Region.binds .any e=true
     ·have hon:=hac' i _ e hget hee hb
      have:=g3 e.on hon
      have hel:e.on < listed.size:=by omega
      simp [hb]
      simpa [hel] using this
     ·simp [hb]
    rw [he] at this
    cases this
   ·rw [Region.ready,List.mem_filter] at hir
    obtain ⟨h1,h2⟩:=hir
    have hil:i < l.length:=by simpa using h1
    have hget:l[i]? = some l[i]:=List.getElem?_eq_getElem hil
    simp only [Bool.and_eq_true,Bool.not_eq_true',List.getElem?_toArray,hget,Option.map_some,Option.getD_some] at h2
    obtain ⟨hun,hdep⟩:=h2
    simp only [List.getElem?_toArray,hget]
    have hgn:l[i].guard=none:=by
     have:=List.all_eq_true.1 hgd l[i] (List.getElem_mem hil)
     simpa using this
    have hdep':∀ e∈l[i].after.toList,Region.binds .any e=true→listed.getD e.on false=true:=by
     intro e he hb
     rw [←Array.all_toList,List.all_eq_true] at hdep
     have:=hdep e he
     simpa only [hb,Bool.not_true,Bool.false_or] using this
    have hunF:listed.getD i false=false:=by
     have:i < listed.size:=by omega
     simpa [this] using hun
    have hst:=AllO.get _ _ (hstep (fun k=>listed.getD k false) r h hi hx hr) i l[i] hget (by rw [Nat.zero_add];exact hunF) (fun e he=>⟨fun hb=>by
     have hon:=hac' i _ e hget he hb
     have heg:l[e.on]? = some l[e.on]:=List.getElem?_eq_getElem ω
     rw [heg]
     exact hv e.on _ heg (hdep' e he hb),fun hb=>hdep' e he hb⟩)
    rw [Nat.zero_add] at hst
    refine ⟨true,by simp [Ch,hgn],fun _=> ?_,fun e=>by cases e⟩
    have hsetF:∀ k,(listed.setIfInBounds i true).getD k false=if k=i then true else listed.getD k false:=by
     intro k
     simp only [Array.getD_eq_getD_getElem?,Array.getElem?_setIfInBounds]
     by_cases hk:i=k
     ·subst hk;simp [hsz,hil]
     ·rw [if_neg hk,if_neg (Ne.symm hk)]
    have cont:∀ (v:AV) (h':Heap),(l[i].dst.isSome=true→V i v)→Hp (fun k=>if k=i then true else listed.getD k false) (Av r l[i].dst v) h'→Bn P l.toArray (Q .norm) f (listed.setIfInBounds i true) (Av r l[i].dst v) h':=by
     intro v h' hV hP
     refine ih _ _ _ (by simp [hsz]) ?_ (by simp only [hsetF];exact hP) (fun i' j hij hj=> ?_) (fun d hd=> ?_) (fun j o hj hlj=> ?_)
     ·have hset:∀ k,(listed.setIfInBounds i true).getD k true=if k=i then true else listed.getD k true:=by
       intro k
       simp only [Array.getD_eq_getD_getElem?,Array.getElem?_setIfInBounds]
       by_cases hk:i=k
       ·subst hk;simp [hsz,hil]
       ·rw [if_neg hk,if_neg (Ne.symm hk)]
      have hcnt:∀ (m:List Nat),m.Nodup→i∈m→m.countP (fun k => !listed.getD k true)=m.countP (fun k => !(listed.setIfInBounds i true).getD k true)+1:=by
       intro m
       induction m with
       | nil=>intro _ hm;cases hm
       | cons a m ihm =>
        intro hnd' hm
        obtain ⟨n1,n2⟩:=List.nodup_cons.1 hnd'
        rw [List.countP_cons,List.countP_cons]
        by_cases ha:a=i
        ·subst ha
         have:m.countP (fun k => !listed.getD k true)=m.countP (fun k => !(listed.setIfInBounds a true).getD k true):=by
          apply List.countP_congr
          intro k hk
          rw [hset k,if_neg (fun e:k=a=>n1 (e ▸ hk))]
         rw [this,hset a,if_pos rfl,hun]
         simp
        ·have hm':i∈m:=by
          rcases List.mem_cons.1 hm with e|e
          ·exact (ha e.symm).elim
          ·exact e
         rw [ihm n2 hm',hset a,if_neg ha]
         omega
      have:=hcnt (List.range l.length) List.nodup_range (by simpa using hil)
      omega
     ·rw [hsetF] at hj ⊢
      by_cases hji:j=i
      ·rw [if_pos hji] at hj;cases hj
      ·rw [if_neg hji] at hj
       by_cases hii:i'=i
       ·exfalso
        subst hii
        unfold depB at hij
        rw [hget] at hij
        simp only [List.any_eq_true,Bool.and_eq_true,beq_iff_eq] at hij
        obtain ⟨e,he,hb,rfl⟩:=hij
        rw [hdep' e he hb] at hj
        cases hj
       ·rw [if_neg hii];exact hx i' j hij hj
     ·rw [←hr d fun j o hj hjd=>by
       have:=hd j o hj hjd
       rw [hsetF] at this
       by_cases hji:j=i
       ·rw [if_pos hji] at this;cases this
       ·rwa [if_neg hji] at this]
      cases hds:l[i].dst with
      | none=>rfl
      | some d' =>
       have hne:d≠d':=fun e=>by
        have:=hd i _ hget (by rw [hds,e])
        rw [hsetF,if_pos rfl] at this
        cases this
       simp only [Av,Ec,if_neg hne]
     ·by_cases hji:j=i
      ·subst hji
       rw [hget] at hj
       cases hj
       unfold VL
       cases hds:l[j].dst with
       | none=>trivial
       | some d=>simp only [Av,Ec,if_pos rfl];exact hV (by rw [hds];rfl)
      ·rw [hsetF,if_neg hji] at hlj
       have:=hv j o hj hlj
       unfold VL at this ⊢
       cases hdo:o.dst with
       | none=>trivial
       | some d =>
        rw [hdo] at this
        simp only at this ⊢
        cases hds:l[i].dst with
        | none=>exact this
        | some d' =>
         have hne:d≠d':=fun e=>hji (hdst j i o l[i] d hj hget hdo (by rw [hds,e]))
         simp only [Av,Ec,if_neg hne];exact this
    have e:wpO P l[i] (Bn P l.toArray (Q .norm) f (listed.setIfInBounds i true)) r h=wpI P l[i].op l[i].dst (Bn P l.toArray (Q .norm) f (listed.setIfInBounds i true)) r h:=rfl
    show wpO P l[i] _ r h
    rw [e]
    exact X9 (fun r' h' ⟨v,hr',hV,hP⟩=>by subst hr';exact cont v h' hV hP) hst
 refine key l.length (Array.replicate l.length false) r0 h0 μ ?_ ?_ (fun i j _ _=>getD_replicate_false _ _) (fun _ _=>rfl) (fun i o hi hl=> ?_)
 ·have:∀ (m:List Nat),(∀ k∈m,k < l.length)→m.countP (fun i => !(Array.replicate l.length false).getD i true)=m.length:=by
   intro m hm
   rw [List.countP_eq_length]
   intro k hk
   have:=hm k hk
   simp [this]
  rw [this _ (fun k hk=>by simpa using hk),List.length_range]
 ·simp only [getD_replicate_false];exact hi0
 ·rw [getD_replicate_false] at hl;cases hl
end
theorem U6 {P:Program} {t xt:TypeId} (ha:apT P t xt=true) {w:AV} {x:AV} {l:List AV} {h:Heap} {G:Nat→Prop} {B:Nat} (hwa:w.atom=true) (hB:h.get B=some [w]) (hx:CapA x l h G) (hn:l.length < 2 ^ 40) :
  ∃ x' h' G',Bm P h t xt x (.sl B 0 1 1 1)=some (x',h')∧CapA x' (l ++ [w]) h' G'∧(∀ b,G' b→G b∨b=h.next)∧(∀ b,b < h.next→¬G b→h'.get b=h.get b)∧h.next≤h'.next∧h'.lp=h.lp∧h'.gh=h.gh∧x'.atom=true:=by
 obtain ⟨e,bytes,z,he,hz,hap,hb,hb2,hza,hat⟩:=Nh ha
 have hf:Ca h 1 1 (.sl B 0 1 1 1)=some [w]:=by simp [Ca,hB]
 rcases hx with ⟨rfl,rfl,h0⟩|⟨wb,c,cells,rfl,hg,hcl,hle,htk,hG⟩
 ·have h64:bytes≤2 ^ 47:=by omega
  refine ⟨.sl h.next 0 1 1 1,h.alloc [w],fun b=>b=h.next,?_,.inr ⟨h.next,1,[w],rfl,?_,rfl,μ,μ,μ⟩,fun b hb=> .inr hb,fun b hb _=> ?_,μ,rfl,rfl,rfl⟩
  ·simp [Bm,Bu he,hz,hb,AV.len?,hap,hf,h64,hwa]
  ·exact Heap.A9 h _
  ·rw [Heap.Aa,if_neg ω]
 ·have hwl:=Heap.Ah hg
  by_cases hc:l.length+1≤c
  ·have hlc:l.length < cells.length:=by omega
   refine ⟨.sl wb 0 (l.length+1) c 1,h.put wb (cells.set l.length w),fun b=>b=wb,?_,.inr ⟨wb,c,cells.set l.length w,μ,?_,by simp [hcl],by simpa using hc,?_,μ⟩,
    fun b hb=> .inl ((hG b).2 hb),fun b hb hnG=> ?_,μ,rfl,rfl,rfl⟩
   ·simp [Bm,Bu he,hz,hb,AV.len?,hap,hf,hg,hc,Nj,hlc,hwa]
   ·rw [Heap.Ad _ _ _ _ hwl,if_pos rfl]
   ·rw [List.length_append]
    conv=>rhs;rw [←htk]
    apply List.ext_getElem?
    intro i
    simp only [List.length_cons,List.length_nil,Nat.zero_add]
    rw [List.getElem?_take,List.getElem?_append,List.length_take,Nat.min_eq_left ω]
    by_cases h1:i < l.length
    ·rw [if_pos ω,if_pos h1,List.getElem?_set_ne ω,List.getElem?_take,if_pos h1]
    ·by_cases h2:i=l.length
     ·subst h2
      rw [if_pos ω,if_neg h1,List.getElem?_set_self hlc,Nat.sub_self];rfl
     ·rw [if_neg ω,if_neg h1]
      rw [List.getElem?_eq_none (by simp;omega)]
   ·have hne:b≠wb:=fun e=>hnG ((hG b).2 e)
    rw [Heap.Ad _ _ _ _ hwl,if_neg hne]
  ·have hcl2:c=l.length:=by omega
   have htc:cells=l:=by rw [←htk,List.take_of_length_le ω]
   have hsz:(l.length+1) * bytes≤2 ^ 47:=by
    have:(l.length+1) * bytes≤(2 ^ 40) * 64:=Nat.mul_le_mul ω hb2
    omega
   refine ⟨.sl h.next 0 (l.length+1) (l.length+1) 1,(h.kill wb).alloc (l ++ [w]),fun b=>b=h.next,?_,.inr ⟨h.next,l.length+1,l ++ [w],μ,?_,μ,μ,?_,μ⟩,
    fun b hb=> .inr hb,fun b hb hnG=> ?_,μ,rfl,rfl,rfl⟩
   ·have:l.length+1≤2 ^ 47:=by omega
    subst htc
    simp [Bm,Bu he,hz,hb,AV.len?,hap,hf,hg,hc,hwa,hsz,this,takeN]
   ·exact Heap.A9 (h.kill wb) _
   ·rw [List.take_of_length_le μ]
   ·have hne:b≠wb:=fun e=>hnG ((hG b).2 e)
    rw [Heap.Aa,if_neg (by show b≠h.next;omega),Heap.Ek,if_neg hne]
structure ChJ (l:List AV) (w x:AV) (bu ap st:Bool) (vb va c:AV) (h:Heap) (G H:Nat→Prop):Prop where
 before:ap=false→CapA x l h G∧c=x∧(bu=true→∃ B,vb = .sl B 0 1 1 1∧h.get B=some [w]∧H B)
 after:ap=true→CapA va (l ++ [w]) h G∧va.atom=true
 stored:st=true→c=va
 old:st=false→c=x
theorem ChJ.keep {l:List AV} {w x:AV} {bu ap st:Bool} {vb va c:AV} {h h':Heap} {G H:Nat→Prop} (C:ChJ l w x bu ap st vb va c h G H) (hk:∀ b,G b∨H b→h'.get b=h.get b):ChJ l w x bu ap st vb va c h' G H :=
 ⟨fun e=>by
  obtain ⟨h1,h2,h3⟩:=C.before e
  exact ⟨h1.keep fun b hb=>hk b (.inl hb),h2,fun e=>by obtain ⟨B,b1,b2,b3⟩:=h3 e;exact ⟨B,b1,(hk B (.inr b3)).trans b2,b3⟩⟩,
  fun e=>⟨(C.after e).1.keep fun b hb=>hk b (.inl hb),(C.after e).2⟩,C.stored,C.old⟩
structure TwoJ (sb base:Nat) (F:Nat→Prop) (h0:Heap) (l1 l2:List AV) (w1 w2 x1 x2:AV) (b1 a1 s1 b2 a2 s2:Bool) (vb1 va1 vb2 va2:AV) (h:Heap):Prop where
 ex:∃ c1 c2 G1 G2 H1 H2,h.get sb=some [c1,c2]∧ChJ l1 w1 x1 b1 a1 s1 vb1 va1 c1 h G1 H1∧ChJ l2 w2 x2 b2 a2 s2 vb2 va2 c2 h G2 H2 ∧
  (∀ b,G1 b∨H1 b→base≤b∧b≠sb∧¬F b)∧(∀ b,G2 b∨H2 b→base≤b∧b≠sb∧¬F b)∧(∀ b,G1 b→¬H1 b∧¬G2 b∧¬H2 b)∧(∀ b,G2 b→¬H2 b∧¬H1 b)∧(∀ b,G1 b∨H1 b∨G2 b∨H2 b→b < h.next)
 next:h0.next≤h.next
 lp:h.lp=h0.lp
 gh:h.gh=h0.gh
 get:∀ b,(b < base∨F b)→b < h0.next→b≠sb→h.get b=h0.get b
 lt:∀ b,F b→b < h0.next
section
variable {sb base:Nat} {F:Nat→Prop} {h0:Heap} {l1 l2:List AV} {w1 w2 x1 x2:AV} {b1 a1 s1 b2 a2 s2:Bool} {vb1 va1 vb2 va2:AV} {h:Heap}
theorem TwoJ.build1 (T:TwoJ sb base F h0 l1 l2 w1 w2 x1 x2 false false false b2 a2 s2 vb1 va1 vb2 va2 h) (hb0:base≤h0.next) (hsb:sb < h0.next):TwoJ sb base F h0 l1 l2 w1 w2 x1 x2 true false false b2 a2 s2 (.sl h.next 0 1 1 1) va1 vb2 va2 (h.alloc [w1]):=by
 obtain ⟨⟨c1,c2,G1,G2,H1,H2,g,C1,C2,f1,f2,d1,d2,lv⟩,nx,lp,gh,gt,lt⟩:=T
 have hk:∀ b,b < h.next→(h.alloc [w1]).get b=h.get b:=fun b hb=>by rw [Heap.Aa,if_neg ω]
 refine ⟨⟨c1,c2,G1,G2,fun b=>b=h.next,H2,by rw [hk sb ω];exact g,⟨fun _=> ?_,fun e=>(by cases e),fun e=>(by cases e),C1.old⟩,C2.keep fun b hb=>hk b (lv b (by rcases hb with h|h;exact .inr (.inr (.inl h));exact .inr (.inr (.inr h)))),fun b hb=> ?_,f2,fun b hb=>⟨fun e=> ?_,(d1 b hb).2⟩,fun b hb=>⟨(d2 b hb).1,fun e=> ?_⟩,fun b hb=> ?_⟩,by simp;omega,lp,gh,fun b h1 h2 h3=> ?_,lt⟩
 ·obtain ⟨k1,k2,_⟩:=C1.before rfl
  exact ⟨k1.keep fun b hb=>hk b (lv b (.inl hb)),k2,fun _=>⟨h.next,rfl,Heap.A9 _ _,rfl⟩⟩
 ·rcases hb with hb|hb
  ·exact f1 b (.inl hb)
  ·subst hb;exact ⟨ω,ω,fun hF=>by have:=lt _ hF;omega⟩
 ·have:=lv b (.inl hb);omega
 ·have:=lv b (.inr (.inr (.inl hb)));omega
 ·rcases hb with hb|hb|hb|hb
  ·have:=lv b (.inl hb);simp;omega
  ·subst hb;simp
  ·have:=lv b (.inr (.inr (.inl hb)));simp;omega
  ·have:=lv b (.inr (.inr (.inr hb)));simp;omega
 ·rw [hk b ω];exact gt b h1 h2 h3
theorem TwoJ.app1 {P:Program} {t xt:TypeId} (ha:apT P t xt=true) (hwa:w1.atom=true) (hn:l1.length < 2 ^ 40) (T:TwoJ sb base F h0 l1 l2 w1 w2 x1 x2 true false false b2 a2 s2 vb1 va1 vb2 va2 h) (hb0:base≤h0.next) (hsb:sb < h0.next) :
  ∃ x' h',Bm P h t xt x1 vb1=some (x',h')∧TwoJ sb base F h0 l1 l2 w1 w2 x1 x2 true true false b2 a2 s2 vb1 x' vb2 va2 h':=by
 obtain ⟨⟨c1,c2,G1,G2,H1,H2,g,C1,C2,f1,f2,d1,d2,lv⟩,nx,lp,gh,gt,lt⟩:=T
 obtain ⟨k1,k2,k3⟩:=C1.before rfl
 obtain ⟨B,rfl,kB,hB⟩:=k3 rfl
 obtain ⟨x',h',G',e,q1,q2,q3,q4,q5,q6,q7⟩:=U6 (P:=P) (t:=t) (xt:=xt) ha hwa kB k1 hn
 have hne:∀ b,b < h.next→¬G1 b→h'.get b=h.get b:=q3
 have hG':∀ b,G' b→b < h'.next:=fun b hb=>q1.live hb
 have hsl:sb < h.next:=by omega
 have hs1:¬G1 sb:=fun hg=>(f1 sb (.inl hg)).2.1 rfl
 refine ⟨x',h',e,⟨c1,c2,G',G2,H1,H2,by rw [hne sb hsl hs1];exact g,⟨fun e=>(by cases e),fun _=>⟨q1,q7⟩,fun e=>(by cases e),C1.old⟩,
  C2.keep fun b hb=>hne b (lv b (by rcases hb with h|h;exact .inr (.inr (.inl h));exact .inr (.inr (.inr h)))) (fun hg=>by rcases hb with h|h;exact (d1 b hg).2.1 h;exact (d1 b hg).2.2 h),
  fun b hb=> ?_,f2,fun b hb=> ?_,fun b hb=>d2 b hb,fun b hb=> ?_⟩,ω,q5.trans lp,q6.trans gh,fun b h1 h2 h3=> ?_,lt⟩
 ·rcases hb with hb|hb
  ·rcases q2 b hb with hb|hb
   ·exact f1 b (.inl hb)
   ·subst hb;exact ⟨ω,ω,fun hF=>by have:=lt _ hF;omega⟩
  ·exact f1 b (.inr hb)
 ·rcases q2 b hb with hb|hb
  ·exact d1 b hb
  ·subst hb
   exact ⟨fun h=>by have:=lv _ (.inr (.inl h));omega,fun h=>by have:=lv _ (.inr (.inr (.inl h)));omega,fun h=>by have:=lv _ (.inr (.inr (.inr h)));omega⟩
 ·rcases hb with hb|hb|hb|hb
  ·exact hG' b hb
  ·have:=lv b (.inr (.inl hb));omega
  ·have:=lv b (.inr (.inr (.inl hb)));omega
  ·have:=lv b (.inr (.inr (.inr hb)));omega
 ·rw [hne b ω (fun hg=>by rcases h1 with h1|h1;have:=(f1 b (.inl hg)).1;omega;exact (f1 b (.inl hg)).2.2 h1)];exact gt b h1 h2 h3
theorem TwoJ.st1 (T:TwoJ sb base F h0 l1 l2 w1 w2 x1 x2 b1 true s1 b2 a2 s2 vb1 va1 vb2 va2 h) (hsb:sb < h0.next):∃ c2,h.get sb=some [if s1 then va1 else x1,c2]∧va1.atom=true∧TwoJ sb base F h0 l1 l2 w1 w2 x1 x2 b1 true true b2 a2 s2 vb1 va1 vb2 va2 (h.put sb [va1,c2]):=by
 obtain ⟨⟨c1,c2,G1,G2,H1,H2,g,C1,C2,f1,f2,d1,d2,lv⟩,nx,lp,gh,gt,lt⟩:=T
 have hsl:sb < h.next:=by omega
 have hk:∀ b,b≠sb→(h.put sb [va1,c2]).get b=h.get b:=fun b hb=>by rw [Heap.Ad _ _ _ _ hsl,if_neg hb]
 refine ⟨c2,?_,(C1.after rfl).2,⟨va1,c2,G1,G2,H1,H2,by rw [Heap.Ad _ _ _ _ hsl,if_pos rfl],⟨fun e=>(by cases e),fun _=>⟨(C1.after rfl).1.keep fun b hb=>hk b (f1 b (.inl hb)).2.1,(C1.after rfl).2⟩,fun _=>rfl,fun e=>(by cases e)⟩,
  C2.keep fun b hb=>hk b (f2 b hb).2.1,f1,f2,d1,d2,fun b hb=>by simpa using lv b hb⟩,by simpa using nx,lp,gh,fun b h1 h2 h3=>by rw [hk b h3];exact gt b h1 h2 h3,lt⟩
 rw [g]
 cases s1 with
 | true=>rw [C1.stored rfl];rfl
 | false=>rw [C1.old rfl];rfl
theorem TwoJ.build2 (T:TwoJ sb base F h0 l1 l2 w1 w2 x1 x2 b1 a1 s1 false false false vb1 va1 vb2 va2 h) (hb0:base≤h0.next) (hsb:sb < h0.next):TwoJ sb base F h0 l1 l2 w1 w2 x1 x2 b1 a1 s1 true false false vb1 va1 (.sl h.next 0 1 1 1) va2 (h.alloc [w2]):=by
 obtain ⟨⟨c1,c2,G1,G2,H1,H2,g,C1,C2,f1,f2,d1,d2,lv⟩,nx,lp,gh,gt,lt⟩:=T
 have hk:∀ b,b < h.next→(h.alloc [w2]).get b=h.get b:=fun b hb=>by rw [Heap.Aa,if_neg ω]
 refine ⟨⟨c1,c2,G1,G2,H1,fun b=>b=h.next,by rw [hk sb ω];exact g,C1.keep fun b hb=>hk b (lv b (by rcases hb with h|h;exact .inl h;exact .inr (.inl h))),⟨fun _=> ?_,fun e=>(by cases e),fun e=>(by cases e),C2.old⟩,f1,fun b hb=> ?_,fun b hb=>⟨(d1 b hb).1,(d1 b hb).2.1,fun e=> ?_⟩,fun b hb=>⟨fun e=> ?_,(d2 b hb).2⟩,fun b hb=> ?_⟩,by simp;omega,lp,gh,fun b h1 h2 h3=> ?_,lt⟩
 ·obtain ⟨k1,k2,_⟩:=C2.before rfl
  exact ⟨k1.keep fun b hb=>hk b (lv b (.inr (.inr (.inl hb)))),k2,fun _=>⟨h.next,rfl,Heap.A9 _ _,rfl⟩⟩
 ·rcases hb with hb|hb
  ·exact f2 b (.inl hb)
  ·subst hb;exact ⟨ω,ω,fun hF=>by have:=lt _ hF;omega⟩
 ·have:=lv b (.inl hb);omega
 ·have:=lv b (.inr (.inr (.inl hb)));omega
 ·rcases hb with hb|hb|hb|hb
  ·have:=lv b (.inl hb);simp;omega
  ·have:=lv b (.inr (.inl hb));simp;omega
  ·have:=lv b (.inr (.inr (.inl hb)));simp;omega
  ·subst hb;simp
 ·rw [hk b ω];exact gt b h1 h2 h3
theorem TwoJ.app2 {P:Program} {t xt:TypeId} (ha:apT P t xt=true) (hwa:w2.atom=true) (hn:l2.length < 2 ^ 40) (T:TwoJ sb base F h0 l1 l2 w1 w2 x1 x2 b1 a1 s1 true false false vb1 va1 vb2 va2 h) (hb0:base≤h0.next) (hsb:sb < h0.next) :
  ∃ x' h',Bm P h t xt x2 vb2=some (x',h')∧TwoJ sb base F h0 l1 l2 w1 w2 x1 x2 b1 a1 s1 true true false vb1 va1 vb2 x' h':=by
 obtain ⟨⟨c1,c2,G1,G2,H1,H2,g,C1,C2,f1,f2,d1,d2,lv⟩,nx,lp,gh,gt,lt⟩:=T
 obtain ⟨k1,k2,k3⟩:=C2.before rfl
 obtain ⟨B,rfl,kB,hB⟩:=k3 rfl
 obtain ⟨x',h',G',e,q1,q2,q3,q4,q5,q6,q7⟩:=U6 (P:=P) (t:=t) (xt:=xt) ha hwa kB k1 hn
 have hne:∀ b,b < h.next→¬G2 b→h'.get b=h.get b:=q3
 have hG':∀ b,G' b→b < h'.next:=fun b hb=>q1.live hb
 have hsl:sb < h.next:=by omega
 have hs1:¬G2 sb:=fun hg=>(f2 sb (.inl hg)).2.1 rfl
 refine ⟨x',h',e,⟨c1,c2,G1,G',H1,H2,by rw [hne sb hsl hs1];exact g,
  C1.keep fun b hb=>hne b (lv b (by rcases hb with h|h;exact .inl h;exact .inr (.inl h))) (fun hg=>by rcases hb with h|h;exact (d1 b h).2.1 hg;exact (d2 b hg).2 h),
  ⟨fun e=>(by cases e),fun _=>⟨q1,q7⟩,fun e=>(by cases e),C2.old⟩,f1,
  fun b hb=> ?_,fun b hb=>⟨(d1 b hb).1,fun h=> ?_,(d1 b hb).2.2⟩,fun b hb=> ?_,fun b hb=> ?_⟩,ω,q5.trans lp,q6.trans gh,fun b h1 h2 h3=> ?_,lt⟩
 ·rcases hb with hb|hb
  ·rcases q2 b hb with hb|hb
   ·exact f2 b (.inl hb)
   ·subst hb;exact ⟨ω,ω,fun hF=>by have:=lt _ hF;omega⟩
  ·exact f2 b (.inr hb)
 ·rcases q2 b h with h2|h2
  ·exact (d1 b hb).2.1 h2
  ·have:=lv b (.inl hb);omega
 ·rcases q2 b hb with hb|hb
  ·exact d2 b hb
  ·subst hb
   exact ⟨fun h=>by have:=lv _ (.inr (.inr (.inr h)));omega,fun h=>by have:=lv _ (.inr (.inl h));omega⟩
 ·rcases hb with hb|hb|hb|hb
  ·have:=lv b (.inl hb);omega
  ·have:=lv b (.inr (.inl hb));omega
  ·exact hG' b hb
  ·have:=lv b (.inr (.inr (.inr hb)));omega
 ·rw [hne b ω (fun hg=>by rcases h1 with h1|h1;have:=(f2 b (.inl hg)).1;omega;exact (f2 b (.inl hg)).2.2 h1)];exact gt b h1 h2 h3
theorem TwoJ.st2 (T:TwoJ sb base F h0 l1 l2 w1 w2 x1 x2 b1 a1 s1 b2 true s2 vb1 va1 vb2 va2 h) (hsb:sb < h0.next):∃ c1,h.get sb=some [c1,if s2 then va2 else x2]∧va2.atom=true∧TwoJ sb base F h0 l1 l2 w1 w2 x1 x2 b1 a1 s1 b2 true true vb1 va1 vb2 va2 (h.put sb [c1,va2]):=by
 obtain ⟨⟨c1,c2,G1,G2,H1,H2,g,C1,C2,f1,f2,d1,d2,lv⟩,nx,lp,gh,gt,lt⟩:=T
 have hsl:sb < h.next:=by omega
 have hk:∀ b,b≠sb→(h.put sb [c1,va2]).get b=h.get b:=fun b hb=>by rw [Heap.Ad _ _ _ _ hsl,if_neg hb]
 refine ⟨c1,?_,(C2.after rfl).2,⟨c1,va2,G1,G2,H1,H2,by rw [Heap.Ad _ _ _ _ hsl,if_pos rfl],C1.keep fun b hb=>hk b (f1 b hb).2.1,⟨fun e=>(by cases e),fun _=>⟨(C2.after rfl).1.keep fun b hb=>hk b (f2 b (.inl hb)).2.1,(C2.after rfl).2⟩,fun _=>rfl,fun e=>(by cases e)⟩,
  f1,f2,d1,d2,fun b hb=>by simpa using lv b hb⟩,by simpa using nx,lp,gh,fun b h1 h2 h3=>by rw [hk b h3];exact gt b h1 h2 h3,lt⟩
 rw [g]
 cases s2 with
 | true=>rw [C2.stored rfl];rfl
 | false=>rw [C2.old rfl];rfl
theorem TwoJ.load1 (T:TwoJ sb base F h0 l1 l2 w1 w2 x1 x2 b1 a1 false b2 a2 s2 vb1 va1 vb2 va2 h):∃ c2,h.get sb=some [x1,c2]:=by
 obtain ⟨⟨c1,c2,G1,G2,H1,H2,g,C1,C2,f1,f2,d1,d2,lv⟩,nx,lp,gh,gt,lt⟩:=T
 exact ⟨c2,by rw [g,C1.old rfl]⟩
theorem TwoJ.load2 (T:TwoJ sb base F h0 l1 l2 w1 w2 x1 x2 b1 a1 s1 b2 a2 false vb1 va1 vb2 va2 h):∃ c1,h.get sb=some [c1,x2]:=by
 obtain ⟨⟨c1,c2,G1,G2,H1,H2,g,C1,C2,f1,f2,d1,d2,lv⟩,nx,lp,gh,gt,lt⟩:=T
 exact ⟨c1,by rw [g,C2.old rfl]⟩
theorem TwoJ.start {G1 G2:Nat→Prop} (g:h0.get sb=some [x1,x2]) (k1:CapA x1 l1 h0 G1) (k2:CapA x2 l2 h0 G2) (f1:∀ b,G1 b→base≤b∧b≠sb∧¬F b) (f2:∀ b,G2 b→base≤b∧b≠sb∧¬F b) (d1:∀ b,G1 b→¬G2 b) (lt:∀ b,F b→b < h0.next) :
  TwoJ sb base F h0 l1 l2 w1 w2 x1 x2 false false false false false false vb1 va1 vb2 va2 h0 :=
 ⟨⟨x1,x2,G1,G2,fun _=>False,fun _=>False,g,⟨fun _=>⟨k1,rfl,fun e=>(by cases e)⟩,fun e=>(by cases e),fun e=>(by cases e),fun _=>rfl⟩,⟨fun _=>⟨k2,rfl,fun e=>(by cases e)⟩,fun e=>(by cases e),fun e=>(by cases e),fun _=>rfl⟩,
  fun b hb=>f1 b (hb.resolve_right id),fun b hb=>f2 b (hb.resolve_right id),fun b hb=>⟨id,d1 b hb,id⟩,fun b hb=>⟨id,id⟩,fun b hb=>by
   rcases hb with hb|hb|hb|hb
   ·exact k1.live hb
   ·exact hb.elim
   ·exact k2.live hb
   ·exact hb.elim⟩,Nat.le_refl _,rfl,rfl,fun _ _ _ _=>rfl,lt⟩
theorem TwoJ.done (T:TwoJ sb base F h0 l1 l2 w1 w2 x1 x2 b1 true true b2 true true vb1 va1 vb2 va2 h):∃ G1 G2,h.get sb=some [va1,va2]∧CapA va1 (l1 ++ [w1]) h G1∧CapA va2 (l2 ++ [w2]) h G2∧(∀ b,G1 b→base≤b∧b≠sb∧¬F b)∧(∀ b,G2 b→base≤b∧b≠sb∧¬F b)∧(∀ b,G1 b→¬G2 b)∧va1.atom=true∧va2.atom=true:=by
 obtain ⟨⟨c1,c2,G1,G2,H1,H2,g,C1,C2,f1,f2,d1,d2,lv⟩,nx,lp,gh,gt,lt⟩:=T
 exact ⟨G1,G2,by rw [g,C1.stored rfl,C2.stored rfl],(C1.after rfl).1,(C2.after rfl).1,fun b hb=>f1 b (.inl hb),fun b hb=>f2 b (.inl hb),fun b hb=>(d1 b hb).2.1,(C1.after rfl).2,(C2.after rfl).2⟩
end
def St8V (sb bb:Nat) (x1 x2:AV) (tx:Txt) (ep:Int):Nat→AV→Prop
 | 0,v=>v = .ptr sb 0
 | 1,v=>v=x1
 | 2,v=>v = .ptr bb 4
 | 3,v=>v=S tx
 | 6,v=>v = .ptr sb 1
 | 7,v=>v=x2
 | 8,v=>v = .ptr bb 3
 | 9,v=>v = .int .i64 ep
 | 12,v=>v = .ptr sb 0
 | 14,v=>v = .ptr sb 1
 | _,_=>True
theorem st8 {c:Code} (hc:(Tryz.f47.body).bind (Fy 8)=some c) {r:Regs} {H0:Heap} {Q:Out→Regs→Heap→Prop} {sb bb base:Nat} {x1 x2 a0 a1 a2:AV} {l1 l2:List AV} {G1 G2:Nat→Prop} {tx:Txt} {ep:Int}
  (r5:rg r 5 = .ptr sb 0) (r7:rg r 7 = .ptr bb 0) (hbb:H0.get bb=some [a0,a1,a2,.int .i64 ep,S tx]) (hne:bb≠sb) (hb0:base≤H0.next) (g:H0.get sb=some [x1,x2]) (k1:CapA x1 l1 H0 G1) (k2:CapA x2 l2 H0 G2)
  (f1:∀ b,G1 b→base≤b∧b≠sb∧b≠bb) (f2:∀ b,G2 b→base≤b∧b≠sb∧b≠bb) (d1:∀ b,G1 b→¬G2 b) (hl1:l1.length < 2 ^ 40) (hl2:l2.length < 2 ^ 40)
  (hQ:∀ (r':Regs) (H':Heap) (y1 y2:AV) (G1' G2':Nat→Prop),(∀ d,d < 43→rg r' d=rg r d)→H'.get sb=some [y1,y2]→CapA y1 (l1 ++ [S tx]) H' G1'→CapA y2 (l2 ++ [I64 ep]) H' G2'→(∀ b,G1' b→base≤b∧b≠sb∧b≠bb)→(∀ b,G2' b→base≤b∧b≠sb∧b≠bb) →
   (∀ b,G1' b→¬G2' b)→y1.atom=true→y2.atom=true→H0.next≤H'.next→H'.lp=H0.lp→H'.gh=H0.gh→(∀ b,b < base→b < H0.next→b≠sb→H'.get b=H0.get b)→Q .norm r' H'):wpc Tryz.prog c Q r H0:=by
 simp [Tryz.f47,Fy] at hc
 subst hc
 have hsb:=Heap.Ah g
 refine Hx (fun L r h=>TwoJ sb base (fun b=>b=bb) H0 l1 l2 (S tx) (I64 ep) x1 x2 (L 4) (L 5) (L 13) (L 10) (L 11) (L 15) (rg r 47) (rg r 48) (rg r 53) (rg r 54) h) (St8V sb bb x1 x2 tx ep) κ
  (TwoJ.start g k1 k2 f1 f2 d1 (fun b hb=>by rw [hb];exact Heap.Ah hbb)) ?_ ?_
 ·intro L r1 H T cl hr
  have q5:rg r1 5 = .ptr sb 0:=(Dr hr κ).trans r5
  have q7:rg r1 7 = .ptr bb 0:=(Dr hr κ).trans r7
  have hbH:H.get bb=some [a0,a1,a2,.int .i64 ep,S tx]:=by rw [T.get bb (.inr rfl) (Heap.Ah hbb) hne];exact hbb
  refine ⟨?_,?_,?_,?_,?_,?_,?_,?_,?_,?_,?_,?_,?_,?_,?_,?_,trivial⟩
  all_goals (intro hL hd;simp [DepL,VL,St8V,Region.binds] at hd)
  ·simp [q5,A8,St8V,T]
  ·have h13:=cl 13 12 κ (cl 12 1 κ hL)
   rw [h13] at T
   obtain ⟨c2,hg⟩:=T.load1
   simp [hd,hg,St8V,h13,T]
  ·simp [q7,A8,St8V,T]
  ·simp [hd,hbH,St8V,T]
  ·have h5:=cl 5 4 κ hL
   have h13:=cl 13 12 κ (cl 12 4 κ hL)
   rw [hL,h5,h13] at T
   have T':=T.build1 hb0 hsb
   simp [hd,Bt (P:=Tryz.prog) (t:=51) (xt:=51) κ (Jk tx),St8V,h5,h13,T']
   exact ⟨_,rfl⟩
  ·obtain ⟨⟨e1,_⟩,e4⟩:=hd
   have h13:=cl 13 12 κ (cl 12 5 κ hL)
   rw [hL,e4,h13] at T
   obtain ⟨x',h',ea,T'⟩:=T.app1 (P:=Tryz.prog) (t:=51) (xt:=51) κ (Jk tx) hl1 hb0 hsb
   simp [e1,ea,St8V,h13,e4,T']
   exact ⟨_,rfl⟩
  ·simp [q5,A8,St8V,T]
  ·have h15:=cl 15 14 κ (cl 14 7 κ hL)
   rw [h15] at T
   obtain ⟨c2,hg⟩:=T.load2
   simp [hd,hg,St8V,h15,T]
  ·simp [q7,A8,St8V,T]
  ·simp [hd,hbH,St8V,T]
  ·have h11:=cl 11 10 κ hL
   have h15:=cl 15 14 κ (cl 14 10 κ hL)
   rw [hL,h11,h15] at T
   have T':=T.build2 hb0 hsb
   simp [hd,Bt (P:=Tryz.prog) (t:=74) (xt:=74) κ (show (AV.int .i64 ep).atom=true from rfl),St8V,h11,h15]
   exact ⟨⟨_,rfl⟩,T'⟩
  ·obtain ⟨⟨e1,_⟩,e10,_⟩:=hd
   have h15:=cl 15 14 κ (cl 14 11 κ hL)
   rw [hL,e10,h15] at T
   obtain ⟨x',h',ea,T'⟩:=T.app2 (P:=Tryz.prog) (t:=74) (xt:=74) κ (show (I64 ep).atom=true from rfl) hl2 hb0 hsb
   simp [e1,ea,St8V,h15,e10,T']
   exact ⟨_,rfl⟩
  ·simp [q5,A8,St8V,T]
  ·obtain ⟨⟨e12,_⟩,e5,_⟩:=hd
   rw [e5] at T
   obtain ⟨c2,hg,hat,T'⟩:=T.st1 hsb
   simp [e12,hg,hat,St8V,e5,T']
  ·simp [q5,A8,St8V,T]
  ·obtain ⟨⟨e14,_⟩,e11,_⟩:=hd
   rw [e11] at T
   obtain ⟨c1,hg,hat,T'⟩:=T.st2 hsb
   simp [e14,hg,hat,St8V,e11,T']
 ·intro L r1 H hall T hr hA
  rw [hall 5 ν,hall 13 ν,hall 11 ν,hall 15 ν] at T
  obtain ⟨G1',G2',t1,t2,t3,t4,t5,t6,t7,t8⟩:=T.done
  refine hQ r1 H _ _ G1' G2' (fun d hd=>hr d ?_) t1 t2 t3 t4 t5 t6 t7 t8 T.next T.lp T.gh (fun b h1 h2 h3=>T.get b (.inl h1) h2 h3)
  simp
  omega
theorem A4b (a:Arr) (id:Int) (c:Cfg) (n:Int) (k:Nat):stL a id c n (k+1)=stL a id c n k ++ [Cz a id c n k]:=by
 unfold stL
 rw [List.range_succ,List.map_append];rfl
theorem Ux (a:Arr) (id:Int) (c:Cfg) (n:Int) (k:Nat):(stL a id c n k).length=k:=by simp [stL]
structure StI (pv:Nat) (a:Arr) (id nn:Int) (c:Cfg) (h:Heap) (i:Nat) (r:Regs) (hp:Heap):Prop where
 le:i≤a.disks.length
 r0:rg r 0 = .ptr pv 0
 r1:rg r 1 = .int .i64 nn
 r4:rg r 4 = .ptr h.next 0
 r5:rg r 5 = .ptr (h.next+1) 0
 r13:rg r 13 = .int .i64 a.disks.length
 r14:rg r 14 = .int .i64 i
 E:Ext h hp
 res:∃ z,hp.get h.next=some z∧z.length=2
 two:∃ x1 x2 G1 G2,hp.get (h.next+1)=some [x1,x2]∧CapA x1 (((stL a id c nn i).map (·.1)).map S) hp G1∧CapA x2 (((stL a id c nn i).map (·.2)).map I64) hp G2 ∧
  (∀ b,G1 b→h.next+2≤b)∧(∀ b,G2 b→h.next+2≤b)∧(∀ b,G1 b→¬G2 b)∧x1.atom=true∧x2.atom=true
section
variable {pa q n:Nat} {cells:List AV} {ps:List Nat} {a:Arr} {R:Nat→Prop} {h:Heap} {pv:Nat} {c:Cfg} {id sq:Int}
def ArrS (a:Arr):Prop:= ∀ d p,(a.read d p).1.length < 2 ^ 40
theorem Qp {k:Nat} (hc:Ax c) (hv:h.get pv=some (volC pa c id sq)) (A:At (ArrI pa q n cells ps a) R h) (hB:ArrB k a) (hk:k < 2 ^ 30) (hS:ArrS a) (hlp:h.lp=none) (nn:Int) :
  CSem Tryz.prog 47 [.ptr pv 0,.int .i64 nn] h fun x h'=>x = .agg [SL (stS a id c nn),IL (stE a id c nn)]∧h'=h:=by
 refine CSem.frz (k:=3) (Q:=fun x=>x = .agg [SL (stS a id c nn),IL (stE a id c nn)]) ?_
 refine CSem.body hm Tryz.func47 rfl κ κ (by simp [Tryz.ntmps47]) ?_
 have hW:∀ d∈a.disks,d.waits.length < 2 ^ 40:=fun d hd=>by have:=(hB.disks d hd).few;omega
 have hfew:=hB.few
 have hzS:B7 Tryz.prog 76=some (.agg [.nilSl,.nilSl]):=by kernel_rfl
 have hz2:szT Tryz.prog 76=some 2:=by kernel_rfl
 have haggS:aggT Tryz.prog 76=some true:=by kernel_rfl
 have hzB:B7 Tryz.prog 113=some (.agg [.int .i64 0,.int .i64 0,.int .i64 0,.int .i64 0,S []]):=by kernel_rfl
 have hz5:szT Tryz.prog 113=some 5:=by kernel_rfl
 have haggB:aggT Tryz.prog 113=some true:=by kernel_rfl
 have haggC:aggT Tryz.prog 23=some true:=by kernel_rfl
 have hzC:szT Tryz.prog 23=some 5:=by kernel_rfl
 have hbld:Ct Tryz.prog 113 [(3,.int .i64 (-1))]=some (.agg [.int .i64 0,.int .i64 0,.int .i64 0,.int .i64 (-1),S []]):=by kernel_rfl
 simp [Tryz.f47,hzS,AV.cells]
 generalize hH:(h.alloc [.nilSl,.nilSl]).alloc [.nilSl,.nilSl]=H
 have E:Ext h H:=by rw [←hH];exact ((Ext.refl h).alloc _).alloc _
 have g0:H.get h.next=some [.nilSl,.nilSl]:=by rw [←hH];exact Heap.Ag (Heap.A9 _ _)
 have g1:H.get (h.next+1)=some [.nilSl,.nilSl]:=by rw [←hH];exact Heap.A9 _ _
 have hvH:=E.got hv
 have AH:At (ArrI pa q n cells ps a) R H:=A.ext (ArrI.loc pa q n cells ps a) E
 clear hH
 simp [A8,hvH,volC]
 refine (Fb AH).use ?_
 simp
 refine Ar (StI pv a id nn c h) (a.disks.length - ·) ?_ 0 ?_
 ·rintro i r hp ⟨le,r0,r1,r4,r5,r13,r14,Ep,⟨z,res,hzl⟩,x1,x2,G1,G2,gs,k1,k2,f1,f2,d1,at1,at2⟩
  rcases Nat.lt_or_eq_of_le le with hlt|heq
  ·have hlt':(i:Int) < a.disks.length:=by omega
   have hw1:IntKind.i64.wrap ((i:Int)+1)=(i:Int)+1:=wrap64 ω ω
   have hvp:=Ep.got hv
   have Ap:At (ArrI pa q n cells ps a) R hp:=A.ext (ArrI.loc pa q n cells ps a) Ep
   have hsl:=Heap.Ah gs
   simp [r0,r1,r4,r5,r13,r14,hlt',A8,hvp,volC,Ac haggC,hzC,takeN]
   refine (L6 hc nn hp).use ?_
   simp
   refine (A4a hvp Ap hW (by rw [Ep.lp];exact hlp) i (Au c nn) (by have:=hS i (Au c nn);omega)).use ?_
   have hst:Cz a id c nn i=if (Cn a id i (Au c nn)).2=true∧((Cn a id i (Au c nn)).1.tx.length:Int)=c.sh then ((Cn a id i (Au c nn)).1.tx,(Cn a id i (Au c nn)).1.ep) else ([],-1):=rfl
   simp only [A49]
   generalize Cn a id i (Au c nn)=g at hst
   obtain ⟨b,is⟩:=g
   simp only at hst
   simp [BlkA,hzB,AV.cells,Aj,hz5,putN,Heap.Aa,Heap.Ad]
   generalize hH1:Heap.put (Heap.alloc hp _) _ _=H1
   have E1:Ext hp H1:=by rw [←hH1];exact ((Ext.refl hp).alloc _).put (Nat.le_refl _) _
   have m1:H1.get hp.next=some [.int .i64 b.ar,.int .i64 b.dk,.int .i64 b.pl,.int .i64 b.ep,S b.tx]:=by rw [←hH1,Heap.Ad _ _ _ _ μ,if_pos rfl]
   have n1:H1.next=hp.next+1:=by rw [←hH1];rfl
   clear hH1
   have hv1:=E1.got hvp
   have gs1:=E1.got gs
   have rs1:=E1.got res
   refine Br 13 κ ?_
   have fin:∀ (r2:Regs) (H2:Heap) (tx:Txt) (ep:Int) (c8:Code),(Tryz.f47.body).bind (Fy 8)=some c8→(∃ a0 a1 a2,H2.get hp.next=some [a0,a1,a2,.int .i64 ep,S tx])→(tx,ep)=Cz a id c nn i→Ext hp H2→rg r2 0 = .ptr pv 0→rg r2 1 = .int .i64 nn→rg r2 4 = .ptr h.next 0→rg r2 5 = .ptr (h.next+1) 0 →
     rg r2 7 = .ptr hp.next 0→rg r2 13 = .int .i64 a.disks.length→rg r2 14 = .int .i64 i→∀ Q:Out→Regs→Heap→Prop,(∀ r3 H3,StI pv a id nn c h (i+1) (rset (rset r3 57 (.int .i64 (i+1))) 14 (.int .i64 (i+1))) H3→rg r3 14 = .int .i64 i→Q .norm r3 H3)→wpc Tryz.prog c8 Q r2 H2:=by
    intro r2 H2 tx ep c8 hc8 ⟨a0,a1,a2,m2⟩ hst2 E2 q0 q1 q4 q5 q7 q13 q14 Q hQ
    have n2:=Heap.Ah m2
    refine st8 hc8 q5 q7 m2 (base:=h.next+2) (sb:=h.next+1) ω (by have:=E2.next;omega) (E2.got gs) (k1.keep fun b hb=>E2.get b (k1.live hb)) (k2.keep fun b hb=>E2.get b (k2.live hb))
     (fun b hb=>by have:=f1 b hb;have:=k1.live hb;omega) (fun b hb=>by have:=f2 b hb;have:=k2.live hb;omega) d1 (by simp [Ux];omega) (by simp [Ux];omega) ?_
    intro r3 H3 y1 y2 G1' G2' rr gs3 k3 k4 f3 f4 d3 at3 at4 nx3 lp3 gh3 get3
    have hE3:Ext h H3:=⟨by have:=Ep.next;have:=E2.next;omega,lp3.trans (E2.lp.trans Ep.lp),gh3.trans (E2.gh.trans Ep.gh),fun b hb=>by
     rw [get3 b ω (by have:=E2.next;omega) ω,E2.get b ω];exact Ep.get b hb⟩
    refine hQ r3 H3 ⟨ω,by simp [rr,q0],by simp [rr,q1],by simp [rr,q4],by simp [rr,q5],by simp [rr,q13],μ,hE3,⟨z,by rw [get3 h.next ω (by have:=E2.next;omega) ω];exact E2.got res,hzl⟩,
     y1,y2,G1',G2',gs3,?_,?_,fun b hb=>(f3 b hb).1,fun b hb=>(f4 b hb).1,d3,at3,at4⟩ (by rw [rr 14 ω];exact q14)
    ·rw [A4b,←hst2]
     simpa using k3
    ·rw [A4b,←hst2]
     simpa using k4
   have hpl:hp.next < H1.next:=by omega
   cases is with
   | false =>
    have hst2:(([]:Txt),(-1:Int))=Cz a id c nn i:=by rw [hst];simp
    simp [hbld,Aj,hz5,putN,m1,hpl]
    refine fin _ _ [] (-1) _ κ ⟨_,_,_,by rw [Heap.Ad _ _ _ _ hpl,if_pos rfl]⟩ hst2 (E1.put (Nat.le_refl _) _) (by simp [r0]) (by simp [r1]) (by simp [r4]) (by simp [r5]) μ (by simp [r13]) (by simp [r14]) _ ?_
    intro r3 H3 hI h14
    simp [h14,hw1]
    exact ⟨i+1,ω,hI⟩
   | true =>
    by_cases hln:(b.tx.length:Int)=c.sh
    ·have hst2:(b.tx,b.ep)=Cz a id c nn i:=by rw [hst];simp [hln]
     simp [m1,r0,A8,hv1,volC,hln]
     refine fin _ _ b.tx b.ep _ κ ⟨_,_,_,m1⟩ hst2 E1 (by simp [r0]) (by simp [r1]) (by simp [r4]) (by simp [r5]) μ (by simp [r13]) (by simp [r14]) _ ?_
     intro r3 H3 hI h14
     simp [h14,hw1]
     exact ⟨i+1,ω,hI⟩
    ·have hst2:(([]:Txt),(-1:Int))=Cz a id c nn i:=by rw [hst];simp [hln]
     simp [m1,r0,A8,hv1,volC,hln,hbld,Aj,hz5,putN,hpl]
     refine fin _ _ [] (-1) _ κ ⟨_,_,_,by rw [Heap.Ad _ _ _ _ hpl,if_pos rfl]⟩ hst2 (E1.put (Nat.le_refl _) _) (by simp [r0]) (by simp [r1]) (by simp [r4]) (by simp [r5]) μ (by simp [r13]) (by simp [r14]) _ ?_
     intro r3 H3 hI h14
     simp [h14,hw1]
     exact ⟨i+1,ω,hI⟩
  ·subst heq
   simp [r0,r1,r4,r5,r13,r14,Ac haggS,hz2,takeN,gs]
   obtain ⟨z1,z2,rfl⟩:∃ z1 z2,z=[z1,z2]:=by
    match z,hzl with
    | [z1,z2],_=>exact ⟨_,_,rfl⟩
   have hrl:=Heap.Ah res
   simp [Aj,hz2,putN,res,hrl,at1,at2,Heap.Ad]
   have hgp:(hp.put h.next [x1,x2]).get h.next=some [x1,x2]:=by rw [Heap.Ad _ _ _ _ hrl,if_pos rfl]
   simp [r4,Ac haggS,hz2,takeN,hgp]
   refine ⟨Ep.put (Nat.le_refl _) _,?_⟩
   have hne:∀ b,h.next+2≤b→(hp.put h.next [x1,x2]).get b=hp.get b:=fun b hb=>by rw [Heap.Ad _ _ _ _ hrl,if_neg ω]
   have s1:=CapA.Aew (f:=S) (n:=h.next) (fun _ _=>rfl) (k1.keep fun b hb=>hne b (f1 b hb)) (fun b hb=>by have:=f1 b hb;omega)
   have s2:=CapA.Aew (f:=I64) (n:=h.next) (fun _ _=>rfl) (k2.keep fun b hb=>hne b (f2 b hb)) (fun b hb=>by have:=f2 b hb;omega)
   rw [s1,s2]
   rfl
 ·refine ⟨ω,μ,μ,μ,μ,μ,μ,E,⟨_,g0,rfl⟩,.nilSl,.nilSl,fun _=>False,fun _=>False,g1,.inl ⟨rfl,by simp [stL],fun _ h=>h⟩,.inl ⟨rfl,by simp [stL],fun _ h=>h⟩,fun _ h=>h.elim,fun _ h=>h.elim,fun _ h=>h.elim,rfl,rfl⟩
end
end Go.Proofs.YtmbndhciflilbaaGreatDoor.X
