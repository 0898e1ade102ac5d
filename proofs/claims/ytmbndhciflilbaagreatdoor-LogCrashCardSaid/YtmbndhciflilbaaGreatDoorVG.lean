/-
  Texts of a proof, as one: V64, V65, XRowV, V66.
-/
import Derived.Test.YtmbndhciflilbaaGreatDoorVF
import Derived.Test.YtmbndhciflilbaaGreatDoorPA
import Derived.Test.YtmbndhciflilbaaGreatDoorXRowC
import Derived.Test.YtmbndhciflilbaaGreatDoorVE
import Derived.Deep.Slices
namespace Go.Proofs.YtmbndhciflilbaaGreatDoor.X
open Go.RowKit F
set_option maxRecDepth 100000
set_option linter.unusedSimpArgs false
set_option linter.unusedVariables false
def SmL (c:Cfg):Prop:=Ax c∧c.k+c.m≤7∧c.sh≤16∧c.st≤6∧c.sl≤4
instance (c:Cfg):Decidable (SmL c):=by unfold SmL;exact inferInstance
theorem A7r (c:Cfg):As Tryz.prog 9 [CfA c] (.bool (decide (SmL c))):=by
 refine As.Ba (k:=1) ?_
 refine CSem.body hm Tryz.func9 rfl κ κ (by simp [Tryz.ntmps9]) ?_
 simp [Tryz.f9,CfA,AV.cells,Ac,takeN,Heap.Aa]
 refine (Mp c _).use ?_
 by_cases hC:Ax c
 rotate_left
 ·simp [hC,SmL]
 have hkm:IntKind.i64.wrap (c.k+c.m)=c.k+c.m:=by
  have h1:=hC.1
  exact wrap64 (by have:=h1.1;have:=h1.2.1;omega) (by have:=h1.2.2;omega)
 by_cases h1:c.k+c.m≤7
 rotate_left
 ·simp [hC,SmL,A8,Heap.Aa,hkm,h1]
 by_cases h2:c.sh≤16
 rotate_left
 ·simp [hC,SmL,A8,Heap.Aa,hkm,h1,h2]
 by_cases h3:c.st≤6
 ·simp [hC,SmL,A8,Heap.Aa,hkm,h1,h2,h3]
 ·simp [hC,SmL,A8,Heap.Aa,hkm,h1,h2,h3]
theorem A7s (c:Cfg) (h:Heap):CSem Tryz.prog 9 [CfA c] h fun x' h'=>x' = .bool (decide (SmL c))∧h'=h:=(A7r c).call (k:=2) (by simp [CfA])
def mdC (bl bb:Nat) (c:Cfg) (N n:Nat):List AV:=[.int .i64 c.k,.int .i64 c.m,.int .i64 c.sh,.int .i64 c.st,.int .i64 c.sl,.sl bl 0 N N 1,.sl bb 0 n n 1]
structure MdA (pm bl bb:Nat) (c:Cfg) (L:List Txt) (bad:List Bool) (h:Heap):Prop where
 gm:h.get pm=some (mdC bl bb c L.length bad.length)
 gl:h.get bl=some (L.map S)
 gb:h.get bb=some (bad.map AV.bool)
 n1:pm≠bl
 n2:pm≠bb
 n3:bl≠bb
section
variable {pm bl bb:Nat} {c:Cfg} {L:List Txt} {bad:List Bool} {h:Heap}
theorem MdA.keep {h':Heap} {R:Nat→Prop} (M:MdA pm bl bb c L bad h) (K:Keep R h h') (h1:R pm) (h2:R bl) (h3:R bb):MdA pm bl bb c L bad h' :=
 ⟨K.got h1 M.gm,K.got h2 M.gl,K.got h3 M.gb,M.n1,M.n2,M.n3⟩
theorem MdA.ext {h':Heap} (M:MdA pm bl bb c L bad h) (E:Ext h h'):MdA pm bl bb c L bad h':=⟨E.got M.gm,E.got M.gl,E.got M.gb,M.n1,M.n2,M.n3⟩
def NewV (h0:Heap) (c:Cfg):Nat→AV→Heap→Prop
 | 0,v,_=>v=CfA c
 | 1,v,_=>v = .ptr h0.next 3
 | 4,v,_=>v = .ptr h0.next 0
 | 6,v,_=>v = .ptr h0.next 1
 | 2,v,_=>v = .int .i64 c.st
 | 3,v,H=> ∃ b,v = .sl b 0 c.st.toNat c.st.toNat 1∧h0.next≤b∧H.get b=some ((List.replicate c.st.toNat ([]:Txt)).map S)
 | 5,v,_=>v = .int .i64 c.k
 | 7,v,_=>v = .int .i64 c.m
 | 8,v,_=>v = .int .i64 (c.k+c.m)
 | 9,v,H=> ∃ b,v = .sl b 0 (c.k+c.m).toNat (c.k+c.m).toNat 1∧h0.next≤b∧H.get b=some ((List.replicate (c.k+c.m).toNat false).map AV.bool)
 | 10,v,H=> ∃ bl bb,v = .agg (mdC bl bb c c.st.toNat (c.k+c.m).toNat)∧(h0.next≤bl∧H.get bl=some ((List.replicate c.st.toNat ([]:Txt)).map S))∧h0.next≤bb∧H.get bb=some ((List.replicate (c.k+c.m).toNat false).map AV.bool)
 | 11,v,H=> ∃ pm bl bb,v = .ptr pm 0∧h0.next≤pm∧h0.next≤bl∧h0.next≤bb∧MdA pm bl bb c (List.replicate c.st.toNat []) (List.replicate (c.k+c.m).toNat false) H
 | 12,v,H=> ∃ pm bl bb,v = .ptr pm 0∧h0.next≤pm∧h0.next≤bl∧h0.next≤bb∧MdA pm bl bb c (List.replicate c.st.toNat []) (List.replicate (c.k+c.m).toNat false) H
 | _,v,_=>True
theorem NewV.mono {h0:Heap} {c:Cfg} (j:Nat) (v:AV) (h h':Heap) (E:Ext h h') (hv:NewV h0 c j v h):NewV h0 c j v h':=by
 unfold NewV at hv ⊢
 split at hv
 all_goals first
  | exact hv
  | (obtain ⟨q,h1,h2,h3⟩:=hv;exact ⟨q,h1,h2,E.got h3⟩)
  | (obtain ⟨q,x,h1,⟨h2,h3⟩,h4,h5⟩:=hv;exact ⟨q,x,h1,⟨h2,E.got h3⟩,h4,E.got h5⟩)
  | (obtain ⟨p,q,x,h1,h2,h3,h4,h5⟩:=hv;exact ⟨p,q,x,h1,h2,h3,h4,h5.ext E⟩)
end
open Go.ChangeShapes Go.WideShapes Go.Deep
section
variable {H:Type} {enc:TypeId×Value→H} {P:Program} {W:World} {t:TypeId} {v:Value} {d:DataW H} {p:List MemPlace} {ts:List TypeId} {ds:List (DataW H)} {j:Nat}
structure CfT (P:Program) (t:TypeId) (f0 f1 f2 f3 f4:Field):Prop where
 hu:P.underlying t=some (.struct #[f0,f1,f2,f3,f4])
 hof:f0.offset=0∧f1.offset=1∧f2.offset=2∧f3.offset=3∧f4.offset=4
 hcs:P.cellsOf f0.type=1∧P.cellsOf f1.type=1∧P.cellsOf f2.type=1∧P.cellsOf f3.type=1∧P.cellsOf f4.type=1∧P.cellsOf t=5
 h0:P.underlying f0.type=some (.int .i64)
 h1:P.underlying f1.type=some (.int .i64)
 h2:P.underlying f2.type=some (.int .i64)
 h3:P.underlying f3.type=some (.int .i64)
 h4:P.underlying f4.type=some (.int .i64)
theorem Aj6 {f0 f1 f2 f3 f4:Field} (T:CfT P t f0 f1 f2 f3 f4) {fuel:Nat} {cs:List Value} {x:DataW H×List MemPlace} (hf:DataW.trod enc P W 0 (fun _=>true) true fuel t cs=some x) :
  ∃ c:Cfg,cs=[.int .i64 c.k,.int .i64 c.m,.int .i64 c.sh,.int .i64 c.st,.int .i64 c.sl]∧CfW c:=by
 obtain ⟨hu,hof,hcs,h0,h1,h2,h3,h4⟩:=T
 obtain ⟨xs,n,rfl,hx,hl,hxl,hfs⟩:=DataW.trod_struct hu hf
 obtain ⟨c0,c1,c2,c3,c4,rfl⟩:∃ c0 c1 c2 c3 c4,cs=[c0,c1,c2,c3,c4]:=by
  rw [hcs.2.2.2.2.2] at hl
  match cs,hl with
  | [a,b,c,d,e],_=>exact ⟨a,b,c,d,e,rfl⟩
 have g0:=hfs 0 f0 rfl
 have g1:=hfs 1 f1 rfl
 have g2:=hfs 2 f2 rfl
 have g3:=hfs 3 f3 rfl
 have g4:=hfs 4 f4 rfl
 rw [hof.1,hcs.1] at g0
 rw [hof.2.1,hcs.2.1] at g1
 rw [hof.2.2.1,hcs.2.2.1] at g2
 rw [hof.2.2.2.1,hcs.2.2.2.1] at g3
 rw [hof.2.2.2.2,hcs.2.2.2.2.1] at g4
 simp only [List.drop_zero,List.drop_succ_cons,List.take_succ_cons,List.take_zero] at g0 g1 g2 g3 g4
 have hx5:xs.length=5:=by simpa using hxl
 match xs,hx5,hx,g0,g1,g2,g3,g4 with
 | [y0,y1,y2,y3,y4],_,hx,g0,g1,g2,g3,g4 =>
  simp only [List.getElem?_cons_zero,List.getElem?_cons_succ] at g0 g1 g2 g3 g4
  obtain ⟨a0,q0,_,w0⟩:=DataW.trod_int h0 g0
  obtain ⟨a1,q1,_,w1⟩:=DataW.trod_int h1 g1
  obtain ⟨a2,q2,_,w2⟩:=DataW.trod_int h2 g2
  obtain ⟨a3,q3,_,w3⟩:=DataW.trod_int h3 g3
  obtain ⟨a4,q4,_,w4⟩:=DataW.trod_int h4 g4
  simp only [List.cons.injEq,and_true] at q0 q1 q2 q3 q4
  subst q0 q1 q2 q3 q4
  exact ⟨⟨a0,a1,a2,a3,a4⟩,rfl,w0,w1,w2,w3,w4⟩
def CfC (c:Cfg):List AV:=[.int .i64 c.k,.int .i64 c.m,.int .i64 c.sh,.int .i64 c.st,.int .i64 c.sl]
theorem Aff {I:Nat→Prop} {ρ : BMap} (c:Cfg):Cells W I ρ (CfC c) [.int .i64 c.k,.int .i64 c.m,.int .i64 c.sh,.int .i64 c.st,.int .i64 c.sl] :=
 Cells.cons (.int _ _) (Cells.cons (.int _ _) (Cells.cons (.int _ _) (Cells.cons (.int _ _) (Cells.cons (.int _ _) Cells.nil))))
structure OpD where
 o:Int
 d:Int
 n:Int
 s:List UInt8
structure OpT (P:Program) (t:TypeId) (f0 f1 f2 f3:Field):Prop where
 hu:P.underlying t=some (.struct #[f0,f1,f2,f3])
 hof:f0.offset=0∧f1.offset=1∧f2.offset=2∧f3.offset=3
 hcs:P.cellsOf f0.type=1∧P.cellsOf f1.type=1∧P.cellsOf f2.type=1∧P.cellsOf f3.type=1∧P.cellsOf t=4
 h0:P.underlying f0.type=some (.int .i64)
 h1:P.underlying f1.type=some (.int .i64)
 h2:P.underlying f2.type=some (.int .i64)
 h3:P.underlying f3.type=some .string
theorem VR.Aj7 {α:Type} {g:α→List AV} {z:Nat} (hz:∀ x,(g x).length=z) (hz0:0 < z) {l:List α} {a:Addr} {cap:Nat} (hl:l.length≤cap)
  (h:∀ i (hi:i < l.length),∃ cs',W.cells? 0 (a.add (i * z)) z=some cs'∧∀ I ρ,Cells W I ρ (g l[i]) cs'):VR W (fun B=>B < W.heap.size) Gn (TR g l) (.slice (some a) l.length cap):=by
 have hlen:=Es hz l
 have key:∀ k,k < l.length * z→∃ u,W.cell? (a.add k)=some u∧∀ I ρ (hk:k < (l.map g).flatten.length),VR W I ρ (l.map g).flatten[k] u:=by
  intro k hk
  have hi:k / z < l.length:=by rw [Nat.div_lt_iff_lt_mul hz0];exact hk
  have hr:k % z < z:=Nat.mod_lt _ hz0
  obtain ⟨cs',h1,h2⟩:=h (k / z) hi
  obtain ⟨_,hl1,hc1⟩:=World.cells?_some h1
  have e:k / z * z+k % z=k:=by rw [Nat.mul_comm];exact Nat.div_add_mod k z
  have hc:=hc1 (k % z) hr
  rw [add_add,e,List.getElem?_eq_getElem ω] at hc
  refine ⟨_,hc,fun I ρ hk'=> ?_⟩
  have hg:=A4k hz hi
  have e2:(l.map g).flatten[k]=(g l[k / z])[k % z]'(by rw [hz];exact hr):=by
   have h3:((l.map g).flatten.drop (k / z * z))[k % z]? = some (l.map g).flatten[k]:=by rw [List.getElem?_drop,e,List.getElem?_eq_getElem hk']
   have h4:(((l.map g).flatten.drop (k / z * z)).take z)[k % z]? = some (l.map g).flatten[k]:=by rw [List.getElem?_take,if_pos hr,h3]
   rw [hg,List.getElem?_eq_getElem (by rw [hz];exact hr)] at h4
   exact (Option.some.inj h4).symm
  rw [e2]
  exact (h2 I ρ).ok (k % z) _ _ (List.getElem?_eq_getElem (by rw [hz];exact hr)) (List.getElem?_eq_getElem ω)
 by_cases h0:l.length * z=0
 ·have hl0:l.length=0:=by
   rcases Nat.mul_eq_zero.1 h0 with h|h
   ·exact h
   ·omega
  have:l=[]:=List.eq_nil_of_length_eq_zero hl0
  subst this
  exact .vec0 a cap
 ·obtain ⟨u,hu⟩:=choose_lt (α:=Value) (p:=fun k u=>W.cell? (a.add k)=some u∧∀ I ρ (hk:k < (l.map g).flatten.length),VR W I ρ (l.map g).flatten[k] u) key
  obtain ⟨B,o,cs,e,fz,rfl,hB,hc⟩:=A4z (Nat.pos_of_ne_zero h0) fun i hi=>(hu i hi).1
  exact .vec _ _ B o cap cs e fz u (Array.getElem?_eq_some_iff.1 hB).1 hB hl (fun i hi=>hc i (by rw [hlen] at hi;exact hi)) fun i hi=>(hu i (by rw [hlen] at hi;exact hi)).2 _ _ hi
end
theorem A3s {c:Cfg} (hC:Ax c) (hs:c.k+c.m≤7):ArrQ 0 (Le c):=by
 have h0:=Bd hC
 exact ArrQ.new ω ω ⟨ω,ω,by have:=hC.2.2.1.1;have:=Int.mul_nonneg (show 0≤c.k by omega) (show 0≤c.sh by omega);omega,ω⟩
structure LawH (b p q nb:Nat) (cells:List AV) (ps:List Nat) (pv pm bl bb:Nat) (c:Cfg) (k:Nat) (a:Arr) (sq:Int) (L:List Txt) (bd:List Bool) (hp:Heap):Prop where
 gc:hp.get b=some [.int .i64 c.k,.int .i64 c.m,.int .i64 c.sh,.int .i64 c.st,.int .i64 c.sl]
 gv:hp.get pv=some (volC p c 7 sq)
 md:MdA pm bl bb c L bd hp
 at_:At (ArrI p q nb cells ps a) (fun x=>x=b∨x=pv∨x=pm∨x=bl∨x=bb) hp
 lp:hp.lp=none
 q:ArrQ k a
 len:(a.disks.length:Int)=c.k+c.m
 n1:b≠pv∧b≠pm∧b≠bl∧b≠bb
 n2:pv≠pm∧pv≠bl∧pv≠bb
section
variable {b p q nb:Nat} {cells:List AV} {ps:List Nat} {pv pm bl bb:Nat} {c:Cfg} {k:Nat} {a:Arr} {sq:Int} {L:List Txt} {bd:List Bool} {hp:Heap}
theorem LawH.write (H:LawH b p q nb cells ps pv pm bl bb c k a sq L bd hp) (hC:Ax c) (hk:k < 2 ^ 27) (hs0:0≤sq) (hs1:sq < 2 ^ 61) (n:Int) (t:Txt) :
  CSem Tryz.prog 59 [.ptr pv 0,.int .i64 n,S t] hp fun x h'=>x = .int .i64 (Am a 7 c sq n t).2.2∧LawH b p q nb cells ps pv pm bl bb c (k+2 * a.disks.length) (Am a 7 c sq n t).1 (Am a 7 c sq n t).2.1 L bd h':=by
 have B:VolB k a c:=⟨hC,H.q,ω⟩
 have h0:=Bd hC
 refine (Wy B H.len hk ν H.gv H.at_ (.inr (.inl rfl)) hs0 hs1 H.lp n t).mono ?_
 rintro x h' ⟨rfl,A,K,gv⟩
 have Q:=A3k H.q 7 c sq n t
 have hl:=H.len
 have hal:=D5 a (c.m+1).toNat
 refine ⟨rfl,K.got ⟨.inl rfl,H.n1.1⟩ H.gc,gv,H.md.keep K ⟨.inr (.inr (.inl rfl)),Ne.symm H.n2.1⟩ ⟨.inr (.inr (.inr (.inl rfl))),Ne.symm H.n2.2.1⟩ ⟨.inr (.inr (.inr (.inr rfl))),Ne.symm H.n2.2.2⟩,A,K.lp.trans H.lp,Q.mono ω,by rw [Wq];exact hl,H.n1,H.n2⟩
theorem LawH.vol (H:LawH b p q nb cells ps pv pm bl bb c k a sq L bd hp) (hC:Ax c) (hk:k < 2 ^ 27):VolB k a c:=⟨hC,H.q,ω⟩
end
section
variable {p q nb:Nat} {cells:List AV} {ps:List Nat} {c:Cfg} {k:Nat} {a:Arr} {sq:Int} {L:List Txt} {h:Heap} {R:Nat→Prop} {bad:Nat→Prop}
end
end Go.Proofs.YtmbndhciflilbaaGreatDoor.X
