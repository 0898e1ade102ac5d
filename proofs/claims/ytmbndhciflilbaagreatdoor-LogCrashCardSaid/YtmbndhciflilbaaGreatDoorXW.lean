/-
  Texts of a proof, as one: XLoop, XGh, XWp, XCall, XSim.
-/
import Derived.Test.YtmbndhciflilbaaGreatDoorXA
import Derived.RangeFuncRecord
import Derived.Below
import Derived.Scope
import Derived.LoopNIn
import Derived.OrdersIn
import Derived.TacticsIn
import Derived.RangeFuncCalls
namespace Go.Proofs.YtmbndhciflilbaaGreatDoor.X
open Go.RowKit
set_option linter.unusedSimpArgs false
set_option linter.unusedVariables false
def Out.code? : Out→Option Code
 | .norm=>none
 | .exit id=>some (.exit id)
 | .ret=>some .ret
def LSt.state:LSt→LoopState
 | .ready=> .ready
 | .busy=> .busy
 | .done _=> .done
def LSt.pend:LSt→Option Code
 | .done o=>o.code?
 | _=>none
def Lp.core (lp:Lp):Lp:= { lp with st:= .ready }
def Lp.loop (lp:Lp) (fn:FuncId) (tmps:Array Value) (D:Nat):Loop :=
 { state:=lp.st.state,pending:=lp.st.pend,fn,tmps,params:=lp.ps,assign:=lp.assign,body:=lp.body,defers:=D }
def okc (N:Nat):Code→Bool
 | .region _ ops _=>ops.all fun o=>match o.dst with
  | some d=>decide (d < N)
  | none=>true
 | .seq a b=>okc N a && okc N b
 | .cond _ a b=>okc N a && okc N b
 | .block _ b=>okc N b
 | .loop b=>okc N b
 | .scope b=>okc N b
 | .rangeFunc _ ps a b=>ps.all (fun p=>decide (p < N)) && okc N a && okc N b
 | _=>true
structure LpOk (I:Nat→Prop) (ρ : BMap) (w:World) (lp:Lp):Prop where
 lies:∃ (fn:FuncId) (tmps:Array Value) (D:Nat),w.heap[lp.id]? = some (.loop (lp.loop fn tmps D))∧(∀ t,VR w I ρ (rg lp.r t) (tmps.getD t undef)) ∧
  okc tmps.size lp.assign=true∧okc tmps.size lp.body=true∧lp.ps.all (fun p=>decide (p < tmps.size))=true
 imm:¬I lp.id
structure EOk (w:World) (I:Nat→Prop) (ρ : BMap) (e:AV×AV×Nat) (m:MapEntry):Prop where
 key:VR w I ρ e.1 m.key
 val:VR w I ρ e.2.1 m.val
 born:m.born=e.2.2
def bytC (l:List UInt8):List Value:=l.map fun b=> .int .u8 b.toNat
def bufV (n:Nat):Option (Nat×Nat)→Value
 | none=> .slice none 0 0
 | some (g,cap)=> .slice (some ⟨g,0,none⟩) n cap
def GOk (I:Nat→Prop) (ρ : BMap) (w:World) (B:Nat):GO→Prop
 | .map es clock=> ∃ ms:Array MapEntry,w.heap[B]? = some (.map ms clock)∧ms.size=es.length∧∀ (i:Nat) (e:AV×AV×Nat) (m:MapEntry),es[i]? = some e→ms[i]? = some m→EOk w I ρ e m
 | .iter m since seen last=>w.heap[B]? = some (.mapIter (some m) since seen.toArray last)
 | .text s pos=>w.heap[B]? = some (.stringIter s pos)
 | .bld T _ txt row=>(row=none→txt=[])∧∃ p:Value,(p = .pointer none∨p = .pointer (some ⟨B,0,none⟩))∧w.heap[B]? = some (.cells #[p,bufV txt.length row] T (0,0))
 | .brow e txt cap=> ∃ (cur:Array Value) (fz:Nat×Nat),w.heap[B]? = some (.cells cur e fz)∧fz.2≤txt.length∧txt.length≤cap∧cap≤maxLen∧cur.size=cap∧cur.toList.take txt.length=bytC txt
def GO.plain:GO→Bool
 | .map _ _ | .iter _ _ _ _ | .text _ _=>true
 | _=>false
def Obj.ghost:Obj→Bool
 | .map _ _ | .mapIter _ _ _ _ | .stringIter _ _=>true
 | _=>false
theorem GOk.obj0 {I:Nat→Prop} {ρ : BMap} {w:World} {B:Nat} {g:GO} (h:GOk I ρ w B g) (hp:g.plain=true):∃ o,w.heap[B]? = some o∧Obj.ghost o=true:=by
 cases g with
 | map es clock=>obtain ⟨ms,h1,_⟩:=h;exact ⟨_,h1,rfl⟩
 | iter m since seen last=>exact ⟨_,h,rfl⟩
 | text s pos=>exact ⟨_,h,rfl⟩
 | bld T e txt row=>cases hp
 | brow e txt cap=>cases hp
theorem GOk.obj {I:Nat→Prop} {ρ : BMap} {w:World} {B:Nat} {g:GO} (h:GOk I ρ w B g):∃ o,w.heap[B]? = some o∧(Obj.ghost o=true∨∃ cs e fz,o = .cells cs e fz):=by
 cases g with
 | map es clock=>obtain ⟨ms,h1,_⟩:=h;exact ⟨_,h1,.inl rfl⟩
 | iter m since seen last=>exact ⟨_,h,.inl rfl⟩
 | text s pos=>exact ⟨_,h,.inl rfl⟩
 | bld T e txt row=>obtain ⟨_,p,_,h1⟩:=h;exact ⟨_,h1,.inr ⟨_,_,_,rfl⟩⟩
 | brow e txt cap=>obtain ⟨cur,fz,h1,_⟩:=h;exact ⟨_,h1,.inr ⟨_,_,_,rfl⟩⟩
structure RelL (I:Nat→Prop) (ρ : BMap) (w:World) (h:Heap):Prop where
 rel:Rel I ρ w h
 lp:∀ lp,h.lp=some lp→LpOk I ρ w lp
 gh:∀ B g,h.gh B=some g→GOk I ρ w B g∧¬I B∧¬C9 ρ h B
def LpAt (h:Heap) (B:Nat):Prop:= ∃ lp,h.lp=some lp∧lp.id=B
def GhAt (h:Heap) (B:Nat):Prop:= ∃ g,h.gh B=some g
structure Cb (I:Nat→Prop) (ρ : BMap) (w:World) (h:Heap) (I':Nat→Prop) (ρ':BMap) (w':World) (h':Heap):Prop where
 os:w'.os=w.os
 tape:w'.tape=w.tape
 output:w'.output=w.output
 size:w.heap.size≤w'.heap.size
 next:h.next≤h'.next
 imm:∀ B,I B→I' B
 map:∀ k x, ρ k=some x→ρ' k=some x
 block:∀ B,B < w.heap.size→¬C9 ρ h B→¬LpAt h B→¬GhAt h B→w'.heap[B]? = w.heap[B]?
 cells:∀ (B:Nat) (cs:Array Value) (e:TypeId) (fz:Nat×Nat),w.heap[B]? = some (Obj.cells cs e fz)→∃ (cs':Array Value) (e':TypeId) (fz':Nat×Nat),w'.heap[B]? = some (Obj.cells cs' e' fz')∧cs'.size=cs.size
 owned:∀ B,C9 ρ' h' B→C9 ρ h B∨w.heap.size≤B
 inew:∀ B,I' B→I B∨w.heap.size≤B
 lp:h'.lp.map Lp.core=h.lp.map Lp.core
 gh:∀ B,GhAt h' B→GhAt h B∨w.heap.size≤B
section
variable {P:Program} {I I':Nat→Prop} {ρ ρ':BMap} {w w':World} {h h':Heap}
theorem Grow.toL (g:Grow I ρ w h I' ρ' w' h') (hl:h'.lp=h.lp) (hg:h'.gh=h.gh):Cb I ρ w h I' ρ' w' h' :=
 ⟨g.os,g.tape,g.output,g.size,g.next,g.imm,g.map,fun B h1 h2 _ _=>g.block B h1 h2,g.cells,g.owned,g.inew,by rw [hl],fun B hB=> .inl (by unfold GhAt at hB ⊢;rw [hg] at hB;exact hB)⟩
theorem Cb.refl (I:Nat→Prop) (ρ : BMap) (w:World) (h:Heap):Cb I ρ w h I ρ w h:=(Grow.refl I ρ w h).toL rfl rfl
theorem LpAt.core (hl:h'.lp.map Lp.core=h.lp.map Lp.core) {B:Nat} (hb:LpAt h' B):LpAt h B:=by
 obtain ⟨lp,h1,rfl⟩:=hb
 rw [h1] at hl
 cases hh:h.lp with
 | none=>rw [hh] at hl;cases hl
 | some lp2 =>
  rw [hh] at hl
  have:Lp.core lp=Lp.core lp2:=by simpa using hl
  exact ⟨lp2,hh,(congrArg Lp.id this).symm⟩
theorem Cb.trans {I1 I2:Nat→Prop} {ρ1 ρ2:BMap} {w1 w2:World} {h1 h2:Heap} (a:Cb I ρ w h I1 ρ1 w1 h1) (b:Cb I1 ρ1 w1 h1 I2 ρ2 w2 h2) :
  Cb I ρ w h I2 ρ2 w2 h2 where
 os:=b.os.trans a.os
 tape:=b.tape.trans a.tape
 output:=b.output.trans a.output
 size:=Nat.le_trans a.size b.size
 next:=Nat.le_trans a.next b.next
 imm:=fun B h=>b.imm B (a.imm B h)
 map:=fun k x h=>b.map k x (a.map k x h)
 block:=fun B hB hn hl hg=>by
  have h1:¬C9 ρ1 h1 B:=fun ho=>(a.owned B ho).elim hn (fun h=>by omega)
  rw [b.block B (Nat.lt_of_lt_of_le hB a.size) h1 (fun hl'=>hl (hl'.core a.lp)) (fun hg'=>(a.gh B hg').elim hg (fun h=>by omega)),a.block B hB hn hl hg]
 cells:=fun B cs e fz hg=>by
  obtain ⟨cs',e',fz',h1,hs⟩:=a.cells B cs e fz hg
  obtain ⟨cs'',e'',fz'',h2,hs'⟩:=b.cells B cs' e' fz' h1
  exact ⟨cs'',e'',fz'',h2,hs'.trans hs⟩
 owned:=fun B ho=>(b.owned B ho).elim (a.owned B) (fun h=> .inr (Nat.le_trans a.size h))
 inew:=fun B ho=>(b.inew B ho).elim (a.inew B) (fun h=> .inr (Nat.le_trans a.size h))
 lp:=b.lp.trans a.lp
 gh:=fun B ho=>(b.gh B ho).elim (a.gh B) (fun h=> .inr (Nat.le_trans a.size h))
theorem Rel.A0s (R:Rel I ρ w h) {B:Nat} {o:Obj} (hg:w.heap[B]? = some o) (ho:∀ cs e fz,o≠.cells cs e fz):¬C9 ρ h B:=by
 rintro ⟨k,cs,o',hk,hρ⟩
 obtain ⟨ds,e,fz,g1,_⟩:=R.cont k cs B o' hk hρ
 rw [hg] at g1
 exact ho _ _ _ (Option.some.inj g1)
theorem Cb.keeps (g:Cb I ρ w h I' ρ' w' h') (R:RelL I ρ w h):E7 I ρ w I' ρ' w' :=
 ⟨fun B hB=>⟨g.imm B hB,g.block B (R.rel.imm B hB).1 (R.rel.imm B hB).2 (by rintro ⟨lp,h1,rfl⟩;exact (R.lp lp h1).imm hB) (by rintro ⟨go,h1⟩;exact (R.gh B go h1).2.1 hB)⟩,g.map,g.cells⟩
theorem VR.A9k {x:AV} {v:Value} (hv:VR w I ρ x v) (g:Cb I ρ w h I' ρ' w' h') (R:RelL I ρ w h):VR w' I' ρ' x v:=hv.keep (g.keeps R)
theorem Ce {w:World} {B:Nat} {o:Obj} (hg:w.heap[B]? = some o):B < w.heap.size:=(Array.getElem?_eq_some_iff.1 hg).1
theorem Cb.deferred (g:Cb I ρ w h I' ρ' w' h') (R:RelL I ρ w h) {D:Nat} {ds:Option (List Deferred)} (hg:w.heap[D]? = some (.deferred ds)):w'.heap[D]? = some (.deferred ds):=by
 rw [g.block D (Ce hg) (R.rel.A0s hg (by rintro _ _ _ ⟨⟩)) ?_ ?_]
 ·exact hg
 ·rintro ⟨lp,h1,rfl⟩
  obtain ⟨fn,tmps,D',k1,_⟩:=(R.lp lp h1).lies
  rw [hg] at k1
  cases k1
 ·rintro ⟨go,h1⟩
  obtain ⟨o,h2,h3⟩:=(R.gh D go h1).1.obj
  rw [hg] at h2
  cases h2
  rcases h3 with h3|⟨_,_,_,h3⟩<;>cases h3
theorem LpOk.step {lp:Lp} (o:LpOk I ρ w lp) (K:E7 I ρ w I' ρ' w') (hi:∀ B,I' B→I B∨w.heap.size≤B)
  (hb:∀ (B:Nat) (l:Loop),w.heap[B]? = some (.loop l)→w'.heap[B]? = some (.loop l)):LpOk I' ρ' w' lp:=by
 obtain ⟨⟨fn,tmps,D,k1,k3,k4,k5⟩,k6⟩:=o
 refine ⟨⟨fn,tmps,D,hb _ _ k1,fun t=>(k3 t).keep K,k4,k5⟩,fun hi'=> ?_⟩
 rcases hi _ hi' with h1|h1
 ·exact k6 h1
 ·have:=Ce k1;omega
theorem GOk.step {B:Nat} {g:GO} (o:GOk I ρ w B g) (K:E7 I ρ w I' ρ' w') (hb:w'.heap[B]? = w.heap[B]?):GOk I' ρ' w' B g:=by
 cases g with
 | map es clock =>
  obtain ⟨ms,h1,h2,h3⟩:=o
  exact ⟨ms,by rw [hb];exact h1,h2,fun i e m he hm=>⟨(h3 i e m he hm).key.keep K,(h3 i e m he hm).val.keep K,(h3 i e m he hm).born⟩⟩
 | iter m since seen last=>exact hb.trans o
 | text s pos=>exact hb.trans o
 | bld T e txt row=>obtain ⟨h0,p,h1,h2⟩:=o;exact ⟨h0,p,h1,hb.trans h2⟩
 | brow e txt cap=>obtain ⟨cur,fz,h1,h2⟩:=o;exact ⟨cur,fz,hb.trans h1,h2⟩
theorem GOk.lt {B:Nat} {g:GO} (o:GOk I ρ w B g):B < w.heap.size:=by
 obtain ⟨o,h1,_⟩:=o.obj
 exact Ce h1
theorem RelL.step (R:RelL I ρ w h) (R':Rel I' ρ' w' h') (g:Grow I ρ w h I' ρ' w' h') (hl:h'.lp=h.lp) (hg:h'.gh=h.gh):RelL I' ρ' w' h' :=
 ⟨R',fun lp h1=>(R.lp lp (hl ▸ h1)).step (g.keeps R.rel) g.inew (fun B l hg=>by rw [g.block B (Ce hg) (R.rel.A0s hg (by rintro _ _ _ ⟨⟩))];exact hg),
  fun B go h1=>by
   rw [hg] at h1
   obtain ⟨k1,k2,k3⟩:=R.gh B go h1
   exact ⟨k1.step (g.keeps R.rel) (g.block B k1.lt k3),fun hi=>(g.inew B hi).elim k2 (fun h=>by have:=k1.lt;omega),fun ho=>(g.owned B ho).elim k3 (fun h=>by have:=k1.lt;omega)⟩⟩
theorem RelL.Ajv (R:Rel I ρ w h) (hl:h.lp=none) (hg:∀ B,h.gh B=none):RelL I ρ w h:=⟨R,fun lp h1=>(by rw [hl] at h1;cases h1),fun B g h1=>(by rw [hg] at h1;cases h1)⟩
theorem RelL.newG (R:RelL I ρ w h) {o:Obj} {g:GO} (hn:h.gh w.heap.size=none) (hgo:∀ w',E7 I ρ w I ρ w'→w'.heap[w.heap.size]? = some o→GOk I ρ w' w.heap.size g) :
  RelL I ρ (w.alloc o) (h.setG w.heap.size g)∧Cb I ρ w h I ρ (w.alloc o) (h.setG w.heap.size g):=by
 have hb:Below w.heap.size w (w.alloc o):=(Below.refl _ w).alloc (Nat.le_refl _) _
 have old:∀ B,B < w.heap.size→(w.alloc o).heap[B]? = w.heap[B]? := hb.block
 have K:E7 I ρ w I ρ (w.alloc o):=⟨fun B hB=>⟨hB,old B (R.rel.imm B hB).1⟩,fun _ _ h=>h,fun B cs e fz hc=>⟨cs,e,fz,by rw [old B (Ce hc)];exact hc,rfl⟩⟩
 refine ⟨⟨⟨R.rel.dom,fun k cells B o hk hρ => ?_,R.rel.inj,fun B hB=>⟨Nat.lt_of_lt_of_le (R.rel.imm B hB).1 hb.size,(R.rel.imm B hB).2⟩⟩,fun lp hl=>(R.lp lp hl).step K (fun _ h=> .inl h) (fun B l hg=>by rw [old B (Ce hg)];exact hg),fun B go h1=> ?_⟩,
  ⟨hb.os,hb.tape,hb.output,hb.size,Nat.le_refl _,fun _ h=>h,fun _ _ h=>h,fun B hB _ _ _=>old B hB,K.cells,fun B h=> .inl h,fun _ h=> .inl h,rfl,fun B hB=> ?_⟩⟩
 ·obtain ⟨cs,e,fz,g1,g2,g3⟩:=R.rel.cont k cells B o hk hρ
  exact ⟨cs,e,fz,by rw [old B (Ce g1)];exact g1,g2,g3.keep K⟩
 ·rw [Heap.Uz] at h1
  split at h1
  ·rename_i he
   cases h1
   subst he
   exact ⟨hgo _ K (World.alloc_heap_new w o),fun hi=>by have:=(R.rel.imm _ hi).1;omega,fun ⟨k,cs,o',hk,hρ⟩=>by obtain ⟨ds,e,fz,g1,_⟩:=R.rel.cont k cs _ o' hk hρ;have:=Ce g1;omega⟩
  ·obtain ⟨k1,k2⟩:=R.gh B go h1
   exact ⟨k1.step K (old B k1.lt),k2⟩
 ·obtain ⟨go,h1⟩:=hB
  rw [Heap.Uz] at h1
  split at h1
  ·rename_i he;exact .inr ω
  ·exact .inl ⟨go,h1⟩
theorem RelL.setG (R:RelL I ρ w h) {B:Nat} {g0 g:GO} {o:Obj} (h0:h.gh B=some g0) (hp:g0.plain=true) (hgo:∀ w',E7 I ρ w I ρ w'→w'.heap[B]? = some o→GOk I ρ w' B g) :
  RelL I ρ (w.putObj B o) (h.setG B g)∧Cb I ρ w h I ρ (w.putObj B o) (h.setG B g):=by
 obtain ⟨k1,k2,k3⟩:=R.gh B g0 h0
 obtain ⟨ob,ho1,ho2⟩:=k1.obj0 hp
 have hlt:=Ce ho1
 have other:∀ C,C≠B→(w.putObj B o).heap[C]? = w.heap[C]? := fun C hC=>World.putObj_heap_other hC
 have same:(w.putObj B o).heap[B]? = some o:=World.putObj_heap_same hlt
 have K:E7 I ρ w I ρ (w.putObj B o):=⟨fun C hC=>⟨hC,other C (fun e=>k2 (e ▸ hC))⟩,fun _ _ h=>h,fun C cs e fz hc=>⟨cs,e,fz,by rw [other C (by rintro rfl;rw [ho1] at hc;cases hc;cases ho2)];exact hc,rfl⟩⟩
 refine ⟨⟨⟨R.rel.dom,fun k cells C o' hk hρ => ?_,R.rel.inj,fun C hC=>⟨by simpa using (R.rel.imm C hC).1,(R.rel.imm C hC).2⟩⟩,fun lp hl=>(R.lp lp hl).step K (fun _ h=> .inl h) (fun C l hcl=>by rw [other C (by rintro rfl;rw [ho1] at hcl;cases hcl;cases ho2)];exact hcl),fun C go h1=> ?_⟩,
  ⟨rfl,rfl,rfl,μ,Nat.le_refl _,fun _ h=>h,fun _ _ h=>h,fun C hC _ _ hn=>other C (by rintro rfl;exact hn ⟨g0,h0⟩),K.cells,fun B h=> .inl h,fun _ h=> .inl h,rfl,fun C hC=> ?_⟩⟩
 ·obtain ⟨cs,e,fz,g1,g2,g3⟩:=R.rel.cont k cells C o' hk hρ
  exact ⟨cs,e,fz,by rw [other C (by rintro rfl;rw [ho1] at g1;cases g1;cases ho2)];exact g1,g2,g3.keep K⟩
 ·rw [Heap.Uz] at h1
  split at h1
  ·rename_i he
   cases h1
   subst he
   exact ⟨hgo _ K same,k2,k3⟩
  ·rename_i he
   obtain ⟨j1,j2⟩:=R.gh C go h1
   exact ⟨j1.step K (other C he),j2⟩
 ·obtain ⟨go,h1⟩:=hC
  rw [Heap.Uz] at h1
  split at h1
  ·rename_i he;subst he;exact .inl ⟨g0,h0⟩
  ·exact .inl ⟨go,h1⟩
theorem opX_lp {r:Regs} {op:Op} {x:AV} (hx:opX P r h op=some (x,h')):h'.lp=h.lp∧h'.gh=h.gh:=by
 have apz:∀ {e xt:TypeId} {z b:Nat} {s x y:AV} {h':Heap},Ja P h e xt z b s x=some (y,h')→h'.lp=h.lp∧h'.gh=h.gh:=by
  intro e xt z b s x y h' hx
  unfold Ja Qa at hx
  repeat' split at hx
  all_goals first|(cases hx;done)|(cases hx;exact ⟨rfl,rfl⟩)|skip
  all_goals
   simp only [Option.map_eq_some_iff] at hx
   obtain ⟨cs',_,e⟩:=hx
   cases e
   exact ⟨rfl,rfl⟩
 have app:∀ {t xt:TypeId} {s x y:AV} {h':Heap},Bm P h t xt s x=some (y,h')→h'.lp=h.lp∧h'.gh=h.gh:=by
  intro t xt s x y h' hx
  unfold Bm at hx
  repeat' split at hx
  all_goals first|(cases hx;done)|(cases hx;exact ⟨rfl,rfl⟩)|exact apz hx|skip
  all_goals
   rename_i cs _ _
   simp only [Option.map_eq_some_iff] at hx
   obtain ⟨cs',_,e⟩:=hx
   cases e
   exact ⟨rfl,rfl⟩
 have cv:∀ {s d:TypeId} {x y:AV} {h':Heap},Kf P h s d x=some (y,h')→h'.lp=h.lp∧h'.gh=h.gh:=by
  intro s d x y h' hx
  unfold Kf at hx
  repeat' split at hx
  all_goals first|(cases hx;done)|(cases hx;exact ⟨rfl,rfl⟩)
 have bs:∀ {t:TypeId} {n:Nat} {ps:List (Nat×AV)} {y:AV} {h':Heap},C8 P h t n ps=some (y,h')→h'.lp=h.lp∧h'.gh=h.gh:=by
  intro t n ps y h' hx
  unfold C8 at hx
  repeat' split at hx
  all_goals first|(cases hx;done)|(cases hx;exact ⟨rfl,rfl⟩)
 have ms:∀ {t:TypeId} {l c y:AV} {h':Heap},Ee P h t l c=some (y,h')→h'.lp=h.lp∧h'.gh=h.gh:=by
  intro t l c y h' hx
  unfold Ee at hx
  repeat' split at hx
  all_goals first|(cases hx;done)|(cases hx;exact ⟨rfl,rfl⟩)
 have st:∀ {t:TypeId} {a v:AV} {h':Heap},Hh P h t a v=some h'→h'.lp=h.lp∧h'.gh=h.gh:=by
  intro t a v h' hx
  unfold Hh at hx
  repeat' split at hx
  all_goals first|(cases hx;done)|skip
  all_goals
   simp only [Option.map_eq_some_iff] at hx
   obtain ⟨cs',_,e⟩:=hx
   cases e
   exact ⟨rfl,rfl⟩
 have cl:∀ {t:TypeId} {x y:AV} {h':Heap},Qr P h t x=some (y,h')→h'.lp=h.lp∧h'.gh=h.gh:=by
  intro t x y h' hx
  unfold Qr at hx
  repeat' split at hx
  all_goals first|(cases hx;done)|(cases hx;exact ⟨rfl,rfl⟩)|skip
  all_goals
   simp only [Option.map_eq_some_iff] at hx
   obtain ⟨cs',_,e⟩:=hx
   cases e
   exact ⟨rfl,rfl⟩
 have cp:∀ {t:TypeId} {d s y:AV} {h':Heap},Rs P h t d s=some (y,h')→h'.lp=h.lp∧h'.gh=h.gh:=by
  intro t d s y h' hx
  unfold Rs at hx
  repeat' split at hx
  all_goals first|(cases hx;done)|(cases hx;exact ⟨rfl,rfl⟩)|skip
  all_goals
   simp only [Option.map_eq_some_iff] at hx
   obtain ⟨cs',_,e⟩:=hx
   cases e
   exact ⟨rfl,rfl⟩
 unfold opX at hx
 split at hx
 all_goals (repeat' split at hx)
 all_goals first
  | (cases hx;done)
  | (cases hx;exact ⟨rfl,rfl⟩)
  | exact app hx
  | exact cv hx
  | exact bs hx
  | exact ms hx
  | exact cl hx
  | exact cp hx
  | (cases hx;exact st ‹_›)
end
def Nq (kd:Nat) (key:AV):List (AV×AV×Nat)→Nat→Option (Option (Nat×AV))
 | [],_=>some none
 | e :: es,i=>match eq1 kd key e.1 with
  | some true=>some (some (i,e.2.1))
  | some false=>Nq kd key es (i+1)
  | none=>none
def mapT (P:Program) (t:TypeId):Option (Nat×TypeId):=match P.underlying t with
 | some (.map k e)=>if Lr P k=1∨Lr P k=2 then some (Lr P k,e) else none
 | _=>none
def Nr (es:List (AV×AV×Nat)) (clock:Nat) (key v:AV):Option (Nat×AV)→GO
 | some (i,_)=> .map (es.modify i fun e=>(key,v,e.2.2)) clock
 | none=> .map (es ++ [(key,v,clock)]) (clock+1)
def Xm (r:Regs):Option Operand→Bool
 | none=>true
 | some x=>match Ae r x with
  | some (.int _ _)=>true
  | _=>false
def ghO (P:Program) (op:Op) (K:AV→Heap→Prop) (r:Regs) (h:Heap):Prop:=match op with
 | .makeMap t hint=>Xm r hint=true∧(mapT P t).isSome=true∧∀ B,h.gh B=none→K (.gmp B) (h.setG B (.map [] 0))
 | .mapUpdate t m k x | .insert t m k x=> ∃ B key v es clock kd e q,Ae r m=some (.gmp B)∧Ae r k=some key∧Ae r x=some v∧h.gh B=some (.map es clock)∧mapT P t=some (kd,e) ∧
   Nq kd key es 0=some q∧K (.tup []) (h.setG B (Nr es clock key v q))
 | .lookup t m k ok=> ∃ B key es clock kd e q,Ae r m=some (.gmp B)∧Ae r k=some key∧h.gh B=some (.map es clock)∧mapT P t=some (kd,e)∧Nq kd key es 0=some q ∧
   match q with
   | some (_,v)=>K (if ok then .tup [v,.bool true] else v) h
   | none=> ∃ z,B7 P e=some z∧K (if ok then .tup [z,.bool false] else z) h
 | .range t x=>(∃ s,Ae r x=some (.str s)∧P.underlying t=some .string∧∀ B,h.gh B=none→K (.gpt B) (h.setG B (.text s 0))) ∨
   (∃ M es clock,Ae r x=some (.gmp M)∧(mapT P t).isSome=true∧h.gh M=some (.map es clock)∧∀ B,h.gh B=none→K (.gpt B) (h.setG B (.iter M clock [] clock)))
 | .next it isStr=> ∃ B,Ae r it=some (.gpt B)∧match isStr,h.gh B with
  | true,some (.text s pos)=>(pos < s.size→K (.tup [.bool true,.int .i64 pos,.int .i32 (Utf8.decode s pos).1]) (h.setG B (.text s (pos+(Utf8.decode s pos).2))))∧(¬pos < s.size→K (.tup [.bool false]) h)
  | false,some (.iter M since seen last)=> ∃ es clock,h.gh M=some (.map es clock)∧(∀ e∈es,e.2.2 < last)∧since=last ∧
    ((∀ e∈es,e.2.2∈seen)→K (.tup [.bool false]) h)∧∀ e∈es,e.2.2 ∉ seen→K (.tup [.bool true,e.1,e.2.1]) (h.setG B (.iter M since (seen ++ [e.2.2]) clock))
  | _,_=>False
 | .alloc t=>B7 P t=some (.agg [.nilPtr,.nilSl])∧∃ e,∀ B,h.gh B=none→K (.gpt B) (h.setG B (.bld t e [] none))
 | .entry it=> ∃ B M since seen last es st e,Ae r it=some (.gpt B)∧h.gh B=some (.iter M since seen last)∧h.gh M=some (.map es last)∧seen.getLast? = some st∧es.find? (fun e=>e.2.2 == st)=some e∧K (.tup [e.1,e.2.1]) h
 | _=>False
theorem A5r {r r':Regs} {o:Option Operand} (hx:∀ x∈o.toArray,Ae r x=Ae r' x):Xm r o=Xm r' o:=by
 cases o with
 | none=>rfl
 | some x=>simp only [Xm];rw [hx x μ]
theorem Ace {P:Program} {op:Op} {K:AV→Heap→Prop} {r r':Regs} {h:Heap} (hx:∀ x∈op.operands,Ae r x=Ae r' x):ghO P op K r h=ghO P op K r' h:=by
 unfold ghO
 split
 ·rw [A5r (by simpa [Op.operands] using hx)]
 ·simp [Op.operands] at hx;obtain ⟨h1,h2,h3⟩:=hx;rw [h1,h2,h3]
 ·simp [Op.operands] at hx;obtain ⟨h1,h2,h3⟩:=hx;rw [h1,h2,h3]
 ·simp [Op.operands] at hx;obtain ⟨h1,h2⟩:=hx;rw [h1,h2]
 ·simp [Op.operands] at hx;rw [hx]
 ·simp [Op.operands] at hx;rw [hx]
 ·rfl
 ·simp [Op.operands] at hx;rw [hx]
 ·rfl
theorem Ag7 {P:Program} {op:Op} {K K':AV→Heap→Prop} {r:Regs} {h:Heap} (hk:∀ v h',K v h'→K' v h') (hq:ghO P op K r h):ghO P op K' r h:=by
 unfold ghO at hq ⊢
 split at hq
 ·exact ⟨hq.1,hq.2.1,fun B hB=>hk _ _ (hq.2.2 B hB)⟩
 ·obtain ⟨B,key,v,es,clock,kd,e,q,h1,h2,h3,h4,h5,h7,h8⟩:=hq
  exact ⟨B,key,v,es,clock,kd,e,q,h1,h2,h3,h4,h5,h7,hk _ _ h8⟩
 ·obtain ⟨B,key,v,es,clock,kd,e,q,h1,h2,h3,h4,h5,h7,h8⟩:=hq
  exact ⟨B,key,v,es,clock,kd,e,q,h1,h2,h3,h4,h5,h7,hk _ _ h8⟩
 ·obtain ⟨B,key,es,clock,kd,e,q,h1,h2,h3,h4,h6,h7⟩:=hq
  refine ⟨B,key,es,clock,kd,e,q,h1,h2,h3,h4,h6,?_⟩
  cases q with
  | none=>obtain ⟨z,z1,z2⟩:=h7;exact ⟨z,z1,hk _ _ z2⟩
  | some q=>exact hk _ _ h7
 ·rcases hq with ⟨s,h1,h2,h3⟩|⟨M,es,clock,h1,h2,h3,h4⟩
  ·exact .inl ⟨s,h1,h2,fun B hB=>hk _ _ (h3 B hB)⟩
  ·exact .inr ⟨M,es,clock,h1,h2,h3,fun B hB=>hk _ _ (h4 B hB)⟩
 ·obtain ⟨B,h1,h2⟩:=hq
  refine ⟨B,h1,?_⟩
  split at h2
  ·exact ⟨fun hp=>hk _ _ (h2.1 hp),fun hp=>hk _ _ (h2.2 hp)⟩
  ·obtain ⟨es,clock,k1,k2,k3,k4,k5⟩:=h2
   exact ⟨es,clock,k1,k2,k3,fun hp=>hk _ _ (k4 hp),fun e he hs=>hk _ _ (k5 e he hs)⟩
  ·exact h2.elim
 ·obtain ⟨q1,e,q2⟩:=hq
  exact ⟨q1,e,fun B hB=>hk _ _ (q2 B hB)⟩
 ·obtain ⟨B,M,since,seen,last,es,st,e,h1,h2,h3,h4,h5,h6⟩:=hq
  exact ⟨B,M,since,seen,last,es,st,e,h1,h2,h3,h4,h5,hk _ _ h6⟩
 ·exact hq.elim
section
variable {P:Program} {w:World} {I:Nat→Prop} {ρ : BMap} {h:Heap}
theorem Sn {t:TypeId} {kd:Nat} {e:TypeId} (hm:mapT P t=some (kd,e)):∃ k,P.underlying t=some (.map k e)∧Lr P k=kd∧(kd=1∨kd=2):=by
 unfold mapT at hm
 split at hm
 ·split at hm
  ·cases hm;exact ⟨_, ‹_›,rfl, ‹_›⟩
  ·cases hm
 ·cases hm
theorem Pv {k:TypeId} {kd:Nat} (hf:Lr P k=kd) (hk:kd=1∨kd=2):∃ d,P.underlying k=some d∧((kd=1∧∃ i,d = .int i)∨(kd=2∧d = .string)):=by
 unfold Lr at hf
 split at hf
 ·exact ⟨_, ‹_›,.inl ⟨hf.symm,_,rfl⟩⟩
 ·exact ⟨_, ‹_›,.inr ⟨hf.symm,rfl⟩⟩
 ·omega
 ·omega
theorem A5s {k:TypeId} {kd:Nat} (hf:Lr P k=kd) (hk:kd=1∨kd=2) {d:TypeDesc} (hd:P.underlying k=some d) {x y:AV} {b:Bool} (h:eq1 kd x y=some b) {u v:Value} (hx:VR w I ρ x u) (hy:VR w I ρ y v) :
  Instr.sameNow d u v=some b∧(b=true→Instr.sameBits 10000 v u=true):=by
 obtain ⟨d',hd',hc⟩:=Pv hf hk
 rw [hd] at hd'
 cases hd'
 rcases hc with ⟨rfl,i,rfl⟩|⟨rfl,rfl⟩
 ·unfold eq1 at h
  split at h
  ·cases hx;cases hy
   split at h
   ·rename_i hkk;subst hkk;cases h
    refine ⟨by simp [Instr.sameNow],fun hb=> ?_⟩
    have:_=_:=eq_of_beq hb
    simp [Instr.sameBits,this]
   ·cases h
  ·omega
  ·omega
  ·cases h
 ·unfold eq1 at h
  split at h
  ·omega
  ·cases hx;cases hy;cases h
   have e:∀ a b:ByteArray,(a == b)=J7 a b:=fun a b=>by rw [beq_toListBytes];simp [J7,toList_eq]
   refine ⟨by simp [Instr.sameNow,e],fun hb=> ?_⟩
   have h2:∀ a b:ByteArray,J7 a b=true→J7 b a=true:=fun a b hh=>by simp only [J7,beq_iff_eq] at hh ⊢;exact hh.symm
   simp [Instr.sameBits,e,h2 _ _ hb]
  ·omega
  ·cases h
theorem A2e {k:TypeId} {kd:Nat} (hf:Lr P k=kd) (hk:kd=1∨kd=2) {d:TypeDesc} (hd:P.underlying k=some d) {x:AV} {u:Value} (hx:VR w I ρ x u):∀ (es:List (AV×AV×Nat)) (ms:List MapEntry) (n:Nat) (q:Option (Nat×AV)),
  es.length=ms.length→(∀ (i:Nat) (e:AV×AV×Nat) (m:MapEntry),es[i]? = some e→ms[i]? = some m→EOk w I ρ e m)→Nq kd x es n=some q →
  ∃ q',Instr.findNow d u ms n=some q'∧match q,q' with
   | none,none=>True
   | some (i,y),some (i',v)=>i=i'∧n≤i∧VR w I ρ y v∧∃ e m,es[i - n]? = some e∧ms[i - n]? = some m∧Instr.sameBits 10000 m.key u=true
   | _,_=>False
 | [],[],n,q,_,_,hq=>by cases hq;exact ⟨none,rfl,trivial⟩
 | e :: es,m :: ms,n,q,hl,he,hq=>by
  have h0:=he 0 e m rfl rfl
  unfold Nq at hq
  split at hq
  ·rename_i hb
   cases hq
   obtain ⟨s1,s2⟩:=A5s (P:=P) hf hk hd hb hx h0.key
   refine ⟨some (n,m.val),by simp [Instr.findNow,s1],rfl,Nat.le_refl _,h0.val,e,m,μ,μ,s2 rfl⟩
  ·rename_i hb
   obtain ⟨s1,-⟩:=A5s (P:=P) hf hk hd hb hx h0.key
   obtain ⟨q',h1,h2⟩:=A2e hf hk hd hx es ms (n+1) q (by simpa using hl) (fun i e m h1 h2=>he (i+1) e m (by simpa using h1) (by simpa using h2)) hq
   refine ⟨q',by simp [Instr.findNow,s1,h1],?_⟩
   match q,q',h2 with
   | none,none,_=>trivial
   | some (i,y),some (i',v),⟨a1,a2,a3,e',m',a4,a5,a6⟩ =>
    refine ⟨a1,ω,a3,e',m',?_,?_,a6⟩
    ·rw [show i - n=(i - (n+1))+1 by omega];simpa using a4
    ·rw [show i - n=(i - (n+1))+1 by omega];simpa using a5
  ·cases hq
theorem La {k:TypeId} {kd:Nat} (hf:Lr P k=kd) (hk:kd=1∨kd=2) (b:Bool) (v:Value) (w1:World):(Instr.checkKey b 10000 k v).run P w1 = .ok () w1:=by
 obtain ⟨d,hd,hc⟩:=Pv hf hk
 rw [show (10000:Nat)=9999+1 from rfl,Instr.checkKey]
 simp only [Sem.run_bind,Az hd,Result.andThen_ok]
 rcases hc with ⟨_,i,rfl⟩|⟨_,rfl⟩<;>cases v<;>rfl
theorem Y3 {k:TypeId} {d:TypeDesc} (hd:P.underlying k=some d) {u:Value} {ms:List MapEntry} {q':Option (Nat×Value)} (h:Instr.findNow d u ms 0=some q') (w1:World):(Instr.findKey k u ms).run P w1 = .ok q' w1:=by
 simp only [Instr.findKey,Sem.run_bind,Az hd,Result.andThen_ok,h,Sem.run_pure]
theorem Fg {B:Nat} {o:Obj} (h:w.heap[B]? = some o) (hg:Obj.ghost o=true):(getObj B).run P w = .ok o w:=by
 cases o<;>first|(cases hg;done)|simp [getObj,Sem.run,h]
theorem Sp {B:Nat} {o0 o:Obj} (h:w.heap[B]? = some o0) (hg:Obj.ghost o0=true):(setObj B o).run P w = .ok () (w.putObj B o):=by
 cases o0<;>first|(cases hg;done)|simp [setObj,Sem.run,h,World.putObj]
theorem Y4 (st:Nat):∀ (es:List (AV×AV×Nat)) (ms:List MapEntry),es.length=ms.length→(∀ (i:Nat) (e:AV×AV×Nat) (m:MapEntry),es[i]? = some e→ms[i]? = some m→EOk w I ρ e m)→∀ e,es.find? (fun e=>e.2.2 == st)=some e →
  ∃ m,ms.find? (fun m=>m.born == st)=some m∧EOk w I ρ e m
 | [],[],_,_,e,hf=>by cases hf
 | x :: es,m :: ms,hl,he,e,hf=>by
  have h0:=he 0 x m rfl rfl
  rw [List.find?_cons] at hf ⊢
  rw [h0.born]
  cases hb:(x.2.2 == st) with
  | true=>rw [hb] at hf;cases hf;exact ⟨m,rfl,h0⟩
  | false=>rw [hb] at hf;exact Y4 st es ms (by simpa using hl) (fun i e m h1 h2=>he (i+1) e m (by simpa using h1) (by simpa using h2)) e hf
theorem ghO_ok (R:RelL I ρ w h) {r:Regs} {a:Act} (RR:∀ t,VR w I ρ (rg r t) (a.tmps.getD t undef)) {o:Oper} {K:AV→Heap→Prop} (hq:ghO P o.op K r h) :
  ∃ v w' x h',((execOp a.eval o).run P w = .ok (.value v) w'∨((execOp a.eval o).run P w = .ok .skip w'∧v=undef))∧K x h'∧RelL I ρ w' h'∧Cb I ρ w h I ρ w' h'∧VR w' I ρ x v:=by
 obtain ⟨dst,op,type,pos,after,guard⟩:=o
 simp only at hq
 have lit:∀ {s:Sem Value} {v:Value} {w':World},s.run P w = .ok v w'→(do pure (Next.value (←s)):Sem Next).run P w = .ok (.value v) w':=by
  intro s v w' hs;simp [hs]
 have unt:∀ {s:Sem Unit} {w':World},s.run P w = .ok () w'→(do s;pure Next.skip:Sem Next).run P w = .ok .skip w':=by
  intro s w' hs;simp [hs]
 have fresh:h.gh w.heap.size=none:=by
  cases hg:h.gh w.heap.size with
  | none=>rfl
  | some g=>have:=(R.gh _ g hg).1.lt;omega
 have upd:∀ {t:TypeId} {m k x:Operand},(∃ B key v es clock kd e q,Ae r m=some (.gmp B)∧Ae r k=some key∧Ae r x=some v∧h.gh B=some (.map es clock)∧mapT P t=some (kd,e) ∧
   Nq kd key es 0=some q∧K (.tup []) (h.setG B (Nr es clock key v q)))→∃ w' h',(Instr.mapUpdate t (a.eval m) (a.eval k) (a.eval x)).run P w = .ok () w'∧K (.tup []) h'∧RelL I ρ w' h'∧Cb I ρ w h I ρ w' h':=by
  rintro t m k x ⟨B,key,v,es,clock,kd,e,q,h1,h2,h3,h4,h5,h7,h8⟩
  obtain ⟨kt,m1,m2,m3⟩:=Sn h5
  obtain ⟨d,hd,hdc⟩:=Pv m2 m3
  have v1:=B6 RR h1
  have v2:=B6 RR h2
  have v3:=B6 RR h3
  obtain ⟨g1,g2⟩:=R.gh B _ h4
  obtain ⟨ms,g3,g4,g5⟩:=g1
  generalize hu:a.eval m=um at v1
  cases v1
  obtain ⟨q',f1,f2⟩:=A2e (P:=P) m2 m3 hd v2 es ms.toList 0 q (by simpa using g4.symm) (fun i e m h1 h2=>g5 i e m h1 (by simpa using h2)) h7
  have fk:=Y3 hd f1 w
  match q,q',f2 with
  | none,none,_ =>
   obtain ⟨R',G'⟩:=R.setG (o:= .map (ms.push { key:=a.eval k,val:=a.eval x,born:=clock }) (clock+1)) (g:= .map (es ++ [(key,v,clock)]) (clock+1)) h4 rfl (by
    intro w' K' hw'
    refine ⟨_,hw',by simp [g4],fun i e m he hm=> ?_⟩
    by_cases hi:i < es.length
    ·rw [List.getElem?_append_left hi] at he
     rw [Array.getElem?_push,if_neg ω] at hm
     have:=g5 i e m he hm
     exact ⟨this.key.keep K',this.val.keep K',this.born⟩
    ·rw [List.getElem?_append_right ω] at he
     have:i=es.length:=by
      have:=(List.getElem?_eq_some_iff.1 he).1
      simp at this;omega
     subst this
     simp at he
     rw [Array.getElem?_push,if_pos ω] at hm
     cases hm
     subst he
     exact ⟨v2.keep K',v3.keep K',rfl⟩)
   refine ⟨_,_,?_,h8,R',G'⟩
   simp only [Instr.mapUpdate,Sem.run_bind,Az m1,Result.andThen_ok,Fg g3 rfl,La m2 m3,fk]
   simp [Sp g3 rfl]
  | some (i,y),some (i',v'),⟨hii,_,b3,e',m',b4,b5,b6⟩ =>
   subst hii
   simp only [Nat.sub_zero] at b4 b5
   have b5':ms[i]? = some m':=by simpa using b5
   obtain ⟨R',G'⟩:=R.setG (o:= .map (ms.modify i fun e=> { e with key:=a.eval k,val:=a.eval x }) clock) (g:= .map (es.modify i fun e=>(key,v,e.2.2)) clock) h4 rfl (by
    intro w' K' hw'
    refine ⟨_,hw',by simp [g4],fun j e m he hm=> ?_⟩
    rw [List.getElem?_modify] at he
    rw [Array.getElem?_modify] at hm
    by_cases hij:i=j
    ·subst hij
     rw [b4] at he
     rw [if_pos rfl,b5'] at hm
     simp at he hm
     subst he;subst hm
     have:=g5 i e' m' b4 b5'
     exact ⟨v2.keep K',v3.keep K',this.born⟩
    ·rw [if_neg hij] at hm
     cases hes:es[j]? with
     | none=>rw [hes] at he;simp at he
     | some e2 =>
      rw [hes] at he
      simp [hij] at he
      subst he
      have:=g5 j e2 m hes hm
      exact ⟨this.key.keep K',this.val.keep K',this.born⟩)
   refine ⟨_,_,?_,h8,R',G'⟩
   simp only [Instr.mapUpdate,Sem.run_bind,Az m1,Result.andThen_ok,Fg g3 rfl,La m2 m3,fk]
   have hks:(Instr.keyThatStays (((ms[i]?).map (·.key)).getD (a.eval k)) (a.eval k)).run P w = .ok (a.eval k) w:=by
    rw [b5']
    simp [Instr.keyThatStays,b6]
   simp [hks,Sp g3 rfl]
 unfold ghO at hq
 split at hq
 ·rename_i t hint
  obtain ⟨q1,q2,q3⟩:=hq
  obtain ⟨R',G'⟩:=R.newG (o:= .map #[] 0) (g:= .map [] 0) fresh (fun w' K' hw'=>⟨#[],hw',rfl,μ⟩)
  refine ⟨_,_,_,_,.inl (lit (v:= .map (some w.heap.size)) (w':=w.alloc (.map #[] 0)) ?_),q3 _ fresh,R',G',.gmp _⟩
  obtain ⟨⟨kd,e⟩,hm⟩:=Option.isSome_iff_exists.1 q2
  obtain ⟨kt,m1,m2,m3⟩:=Sn hm
  cases hint with
  | none=>simp [Instr.makeMap,run_newObj_alloc]
  | some x =>
   cases he:Ae r x with
   | none=>simp [Xm,he] at q1
   | some y =>
    cases y<;>simp [Xm,he] at q1
    have:=(B6 RR he).A99
    simp [Instr.makeMap,Az m1,this,asInt,asIntOf,run_newObj_alloc]
 ·rename_i t m k x
  obtain ⟨w',h',u1,u2,u3,u4⟩:=upd hq
  exact ⟨undef,w',.tup [],h',.inr ⟨unt u1,rfl⟩,u2,u3,u4,.tup [] #[] rfl μ⟩
 ·rename_i t m k x
  obtain ⟨w',h',u1,u2,u3,u4⟩:=upd hq
  exact ⟨undef,w',.tup [],h',.inr ⟨unt u1,rfl⟩,u2,u3,u4,.tup [] #[] rfl μ⟩
 ·rename_i t m k ok
  obtain ⟨B,key,es,clock,kd,e,q,h1,h2,h4,h5,h7,h8⟩:=hq
  obtain ⟨kt,m1,m2,m3⟩:=Sn h5
  obtain ⟨d,hd,hdc⟩:=Pv m2 m3
  have v1:=B6 RR h1
  have v2:=B6 RR h2
  obtain ⟨g1,g2⟩:=R.gh B _ h4
  obtain ⟨ms,g3,g4,g5⟩:=g1
  generalize hu:a.eval m=um at v1
  cases v1
  obtain ⟨q',f1,f2⟩:=A2e (P:=P) m2 m3 hd v2 es ms.toList 0 q (by simpa using g4.symm) (fun i e m h1 h2=>g5 i e m h1 (by simpa using h2)) h7
  have fk:=Y3 hd f1 w
  have pair:∀ {x:AV} {v:Value} {b:Bool},VR w I ρ x v→VR w I ρ (if ok then .tup [x,.bool b] else x) (if ok then .tuple #[v,.bool b] else v):=by
   intro x v b hx
   cases ok
   ·exact hx
   ·exact hx.pair
  match q,q',f2 with
  | none,none,_ =>
   obtain ⟨z,z1,z2⟩:=h8
   obtain ⟨i,zv,k1,k2,k3⟩:=Dp z1
   refine ⟨_,w,_,h,.inl (lit ?_),z2,R,Cb.refl _ _ _ _,pair (k3 w I ρ)⟩
   simp [Instr.lookup,Az m1,hu,Fg g3 rfl,La m2 m3,fk,Gw k1 k2]
  | some (i,y),some (i',v'),⟨hii,_,b3,_⟩ =>
   subst hii
   refine ⟨_,w,_,h,.inl (lit ?_),h8,R,Cb.refl _ _ _ _,pair b3⟩
   simp [Instr.lookup,Az m1,hu,Fg g3 rfl,La m2 m3,fk]
 ·rename_i t x
  rcases hq with ⟨s,h1,h2,h3⟩|⟨M,es,clock,h1,h2,h3,h4⟩
  ·have v1:=(B6 RR h1).Aj8
   obtain ⟨R',G'⟩:=R.newG (o:= .stringIter s 0) (g:= .text s 0) fresh (fun w' K' hw'=>hw')
   refine ⟨_,_,_,_,.inl (lit (v:= .pointer (some ⟨w.heap.size,0,none⟩)) (w':=w.alloc (.stringIter s 0)) ?_),h3 _ fresh,R',G',.gpt _⟩
   simp [Instr.range,Az h2,v1,run_newObj_alloc]
  ·have v1:=B6 RR h1
   obtain ⟨⟨kd,e⟩,hm⟩:=Option.isSome_iff_exists.1 h2
   obtain ⟨kt,m1,m2,m3⟩:=Sn hm
   obtain ⟨g1,g2⟩:=R.gh M _ h3
   obtain ⟨ms,g3,g4,g5⟩:=g1
   generalize hu:a.eval x=um at v1
   cases v1
   obtain ⟨R',G'⟩:=R.newG (o:= .mapIter (some M) clock #[] clock) (g:= .iter M clock [] clock) fresh (fun w' K' hw'=>hw')
   refine ⟨_,_,_,_,.inl (lit (v:= .pointer (some ⟨w.heap.size,0,none⟩)) (w':=w.alloc (.mapIter (some M) clock #[] clock)) ?_),h4 _ fresh,R',G',.gpt _⟩
   simp [Instr.range,Az m1,hu,Fg g3 rfl,run_newObj_alloc]
 ·rename_i it isStr
  obtain ⟨B,h1,h2⟩:=hq
  have v1:=B6 RR h1
  generalize hu:a.eval it=um at v1
  cases v1
  split at h2
  ·rename_i s pos hg
   obtain ⟨g1,g2⟩:=R.gh B _ hg
   by_cases hp:pos < s.size
   ·obtain ⟨R',G'⟩:=R.setG (o:= .stringIter s (pos+(Utf8.decode s pos).2)) (g:= .text s (pos+(Utf8.decode s pos).2)) hg rfl (fun w' K' hw'=>hw')
    refine ⟨_,_,_,_,.inl (lit (v:= .tuple #[.bool true,.int .i64 pos,.int .i32 (Utf8.decode s pos).1]) (w':=w.putObj B (.stringIter s (pos+(Utf8.decode s pos).2))) ?_),h2.1 hp,R',G',?_⟩
    ·have g1':w.heap[B]? = some (.stringIter s pos):=g1
     simp [Instr.next,hu,Fg g1' rfl,hp,Sp g1' rfl,goInt]
    ·have:=(Cells.cons (.bool true) (Cells.cons (.int .i64 (pos:Int)) (Cells.cons (.int .i32 ((Utf8.decode s pos).1:Int)) Cells.nil)):Cells (w.putObj B (.stringIter s (pos+(Utf8.decode s pos).2))) I ρ _ _).arr
     exact .tup _ _ this.1 this.2
   ·refine ⟨_,w,_,h,.inl (lit (v:= .tuple #[.bool false]) ?_),h2.2 hp,R,Cb.refl _ _ _ _,?_⟩
    ·have g1':w.heap[B]? = some (.stringIter s pos):=g1
     simp [Instr.next,hu,Fg g1' rfl,hp]
    ·have:=(Cells.cons (.bool false) Cells.nil:Cells w I ρ _ _).arr
     exact .tup _ _ this.1 this.2
  ·rename_i M since seen last hg
   obtain ⟨es,clock,k1,k2,k3,k4,k5⟩:=h2
   obtain ⟨g1,g2⟩:=R.gh B _ hg
   obtain ⟨j1,j2⟩:=R.gh M _ k1
   obtain ⟨ms,j3,j4,j5⟩:=j1
   have g1':w.heap[B]? = some (.mapIter (some M) since seen.toArray last):=g1
   have born:∀ m∈ms,∃ e∈es,EOk w I ρ e m:=by
    intro m hm
    obtain ⟨i,hi,rfl⟩:=Array.mem_iff_getElem.1 hm
    have hie:i < es.length:=by omega
    exact ⟨es[i],List.getElem_mem hie,j5 i _ _ (List.getElem?_eq_getElem hie) (by simp [hi])⟩
   have old:∀ m∈ms,m.born < since:=fun m hm=>by obtain ⟨e,he,hk⟩:=born m hm;rw [hk.born,k3];exact k2 e he
   have c0:(!(seen.toArray.isEmpty) && !(ms.isEmpty) && ms.all (fun e=>decide (e.born ≥ last)))=false:=by
    by_cases hms:ms = #[]
    ·subst hms;simp
    ·have:ms.all (fun e=>decide (e.born ≥ last))=false:=by
      rw [Bool.eq_false_iff]
      intro hall
      rw [Array.all_eq_true'] at hall
      obtain ⟨m,hm⟩:∃ m,m∈ms:=by
       have:0 < ms.size:=by
        rcases Nat.eq_zero_or_pos ms.size with h0|h0
        ·exact absurd (Array.eq_empty_of_size_eq_zero h0) hms
        ·exact h0
       exact ⟨ms[0],Array.getElem_mem this⟩
      have:=of_decide_eq_true (hall m hm)
      have:=old m hm
      omega
     rw [this];simp
   obtain ⟨lf,hlf⟩:∃ lf,lf=ms.filter (fun e => !seen.toArray.contains e.born):=⟨_,rfl⟩
   have e1:lf.filter (fun e=>decide (e.born < since))=lf:=by
    rw [Array.filter_eq_self]
    intro m hm
    rw [hlf,Array.mem_filter] at hm
    simpa using old m hm.1
   have e2:lf.filter (fun e=>decide (e.born ≥ since)) = #[]:=by
    rw [Array.filter_eq_empty_iff]
    intro m hm
    rw [hlf,Array.mem_filter] at hm
    have:=old m hm.1
    simp;omega
   obtain ⟨cand,hcand⟩:∃ cand,cand=(if lf.isEmpty then #[none] else #[]) ++ (lf ++ #[]).map some:=⟨_,rfl⟩
   have run:(Instr.next (.pointer (some ⟨B,0,none⟩)) false type).run P w=((do
     match cand[←choose (.mapNext cand.size)]? with
     | some (some e)=>do
      setObj B (.mapIter (some M) since (seen.toArray.push e.born) clock)
      pure (.tuple #[.bool true,e.key,e.val])
     | some none=>pure (.tuple #[.bool false])
     | none => stuck "Next: no such candidate" : Sem Value)).run P w := by
    simp only [Instr.next,Sem.run_bind,Fg g1' rfl,Result.andThen_ok,Fg j3 rfl,c0,Bool.false_eq_true,if_false]
    rw [←hlf,e1,e2,←hcand]
    rfl
   have hne:0 < cand.size:=by
    rw [hcand]
    by_cases hl:lf.isEmpty=true
    ·simp [hl];omega
    ·have:lf.size≠0:=fun h0=>hl (by simp [Array.isEmpty,h0])
     simp;omega
   obtain ⟨i,w1,c1,c2,c3⟩:∃ i w1,(choose (.mapNext cand.size)).run P w = .ok i w1∧i < cand.size∧(w1=w∨w1 = { w with drawn:=w.drawn+1 }):=by
    rw [run_choose]
    split
    ·exact ⟨0,w,rfl,hne,.inl rfl⟩
    ·exact ⟨_,_,rfl,Nat.mod_lt _ hne,.inr rfl⟩
   have bw:Below w.heap.size w w1:=by
    rcases c3 with rfl|rfl
    ·exact Below.refl _ _
    ·exact ⟨rfl,rfl,rfl,Nat.le_refl _,fun _ _=>rfl⟩
   have hw1:w1.heap=w.heap:=by rcases c3 with rfl|rfl<;>rfl
   have R1:RelL I ρ w1 h∧Cb I ρ w h I ρ w1 h:=by
    obtain ⟨R',G'⟩:=R.rel.same (w1:=w1) hw1 bw.os bw.tape bw.output
    exact ⟨R.step R' G' rfl rfl,G'.toL rfl rfl⟩
   obtain ⟨c,hc⟩:∃ c,cand[i]? = some c:=⟨cand[i],by simp [c2]⟩
   have hcm:c∈cand:=Array.mem_of_getElem? hc
   cases c with
   | none =>
    have hlf0:lf.isEmpty=true:=by
     rw [hcand] at hcm
     by_cases hl:lf.isEmpty=true
     ·exact hl
     ·simp [hl] at hcm
    have hall:∀ e∈es,e.2.2∈seen:=by
     intro e he
     obtain ⟨i,hi,rfl⟩:=List.mem_iff_getElem.1 he
     have him:i < ms.size:=by omega
     have hk:=j5 i _ ms[i] (List.getElem?_eq_getElem hi) (by simp [him])
     by_cases hs:es[i].2.2∈seen
     ·exact hs
     ·exfalso
      have:ms[i]∈lf:=by
       rw [hlf,Array.mem_filter]
       refine ⟨Array.getElem_mem him,?_⟩
       simp [hk.born,hs]
      rw [Array.isEmpty_iff.1 hlf0] at this
      simp at this
    refine ⟨_,w1,_,h,.inl (lit (v:= .tuple #[.bool false]) ?_),k4 hall,R1.1,R1.2,?_⟩
    ·rw [hu,run]
     simp only [Sem.run_bind,c1,Result.andThen_ok,hc,Sem.run_pure]
    ·have:=(Cells.cons (.bool false) Cells.nil:Cells w1 I ρ _ _).arr
     exact .tup _ _ this.1 this.2
   | some m =>
    have hm:m∈lf:=by
     rw [hcand] at hcm
     simp at hcm
     by_cases hl:lf = #[]
     ·simp [hl] at hcm
     ·simpa [hl] using hcm
    rw [hlf,Array.mem_filter] at hm
    obtain ⟨e,he,hk⟩:=born m hm.1
    have hs:e.2.2 ∉ seen:=by
     have:=hm.2
     simp [hk.born] at this
     exact this
    obtain ⟨R2,G2⟩:=R1.1.setG (o:= .mapIter (some M) since (seen.toArray.push m.born) clock) (g:= .iter M since (seen ++ [e.2.2]) clock) hg rfl (fun w' K' hw'=>by
     show w'.heap[B]? = _
     rw [hw',hk.born];simp)
    refine ⟨_,_,_,_,.inl (lit (v:= .tuple #[.bool true,m.key,m.val]) (w':=w1.putObj B (.mapIter (some M) since (seen.toArray.push m.born) clock)) ?_),k5 e he hs,R2,R1.2.trans G2,?_⟩
    ·rw [hu,run]
     simp only [Sem.run_bind,c1,Result.andThen_ok,hc,Sem.run_pure]
     simp [Sp (w:=w1) (by rw [hw1];exact g1') rfl]
    ·have GG:=R1.2.trans G2
     have:=(Cells.cons (.bool true) (Cells.cons (hk.key.A9k GG R) (Cells.cons (hk.val.A9k GG R) Cells.nil)):Cells (w1.putObj B (.mapIter (some M) since (seen.toArray.push m.born) clock)) I ρ _ _).arr
     exact .tup _ _ this.1 this.2
  ·exact h2.elim
 ·rename_i t
  obtain ⟨q1,e,q2⟩:=hq
  obtain ⟨i,zv,k1,k2,k3⟩:=Dp q1
  have hz:zv.cells = #[.pointer none,.slice none 0 0]:=by
   obtain ⟨vs,rfl,hc⟩:=Cells.Tq (k3 w I ρ)
   obtain ⟨vl⟩:=vs
   match vl,hc with
   | [a,b],hc =>
    have ha:=hc.ok 0 _ _ rfl rfl
    have hb:=hc.ok 1 _ _ rfl rfl
    cases ha
    cases hb
    rfl
   | [],hc=>have:=hc.len;simp at this
   | [a],hc=>have:=hc.len;simp at this
   | a :: b :: c :: l,hc=>have:=hc.len;simp at this
  obtain ⟨R',G'⟩:=R.newG (o:= .cells #[.pointer none,.slice none 0 0] t (0,0)) (g:= .bld t e [] none) fresh (fun w' K' hw'=>⟨fun _=>rfl,.pointer none,.inl rfl,hw'⟩)
  refine ⟨_,_,_,_,.inl ?_,q2 _ fresh,R',G',.gpt _⟩
  simp [execOp,Instr.alloc,Gw k1 k2,newVar,newRow,hz]
 ·rename_i it
  obtain ⟨B,M,since,seen,last,es,st,e,h1,h2,h3,h4,h5,h6⟩:=hq
  have v1:=B6 RR h1
  generalize hu:a.eval it=um at v1
  cases v1
  obtain ⟨g1,g2⟩:=R.gh B _ h2
  obtain ⟨j1,j2⟩:=R.gh M _ h3
  obtain ⟨ms,j3,j4,j5⟩:=j1
  have g1':w.heap[B]? = some (.mapIter (some M) since seen.toArray last):=g1
  obtain ⟨m,m1,m2⟩:=Y4 st es ms.toList (by simpa using j4.symm) (fun i e m h1 h2=>j5 i e m h1 (by simpa using h2)) e h5
  have m1':ms.find? (fun m=>m.born == st)=some m:=by rw [←Array.find?_toList];exact m1
  have hb:seen.toArray.back? = some st:=by simpa using h4
  refine ⟨_,w,_,h,.inl (lit (v:= .tuple #[m.key,m.val]) ?_),h6,R,Cb.refl _ _ _ _,?_⟩
  ·simp [Instr.entry,hu,Fg g1' rfl,hb,Fg j3 rfl,m1']
  ·have:=(Cells.cons m2.key (Cells.cons m2.val Cells.nil)).arr
   exact .tup _ _ this.1 this.2
 ·exact hq.elim
end
def Out.Ag8:Out→Exit
 | .norm=> .normal
 | .exit id=> .exit id
 | .ret=> .ret
def FW (ro:Option Nat):Fence:= { fn:=fun _=>True,depth:=none,alive:=false,round:=ro }
def isFn (P:Program) (f:FuncId):Bool:=match P.funcs[f]? with
 | some fn => fn.body.isSome && !(fn.name == "runtime.NumGoroutine")
 | none=>false
def CSem (P:Program) (f:FuncId) (args:List AV) (h:Heap) (Q:AV→Heap→Prop):Prop :=
 isFn P f=true∧∀ (I:Nat→Prop) (ρ : BMap) (w:World) (cargs:List Value),RelL I ρ w h→Cells w I ρ args cargs →
  Calls P f cargs.toArray w fun e w'=> ∃ (v:Value) (x:AV) (h':Heap) (I':Nat→Prop) (ρ':BMap),e = .returned v∧Q x h'∧RelL I' ρ' w' h'∧VR w' I' ρ' x v∧Cb I ρ w h I' ρ' w' h'
def YSem (P:Program) (l:Nat) (args:List AV) (h:Heap) (Q:AV→Heap→Prop):Prop :=
 ∀ (I:Nat→Prop) (ρ : BMap) (w:World) (cargs:List Value),RelL I ρ w h→Cells w I ρ args cargs →
  ∃ (fn:FuncId) (tmps:Array Value) (assign body:Code),(Instr.yield l cargs.toArray).run P w = .ok (.round l fn tmps assign body) w ∧
   RoundIn (FW none) 0 P l fn tmps assign body w fun e w'=> ∃ (v:Value) (x:AV) (h':Heap) (I':Nat→Prop) (ρ':BMap),e = .returned v∧Q x h'∧RelL I' ρ' w' h'∧VR w' I' ρ' x v∧Cb I ρ w h I' ρ' w' h'
def Av (r:Regs) (dst:Option Tmp) (v:AV):Regs:=match dst with
 | some d=>rset r d v
 | none=>r
def Ch (ops:Array Oper) (r:Regs) (o:Oper):Option Bool :=
 match o.guard with
 | none=>some true
 | some (j,want)=>match (ops[j]?).bind (·.dst) with
  | none=>some false
  | some t=>match rg r t with
   | .bool b=>some (b == want)
   | .tup _=>some false
   | _=>none
def Ay (r:Regs):Op→Option (Option (FuncId×List AV))
 | .call { callee:= .value f,args,.. } => match Ae r f,Bh r args.toList with
  | some (.fn g a b),some vs=>some (some (g,a ++ vs ++ b))
  | _,_=>some none
 | _=>none
def yldX (r:Regs):Op→Option (Nat×List AV)
 | .call { callee:= .value f,args,.. } => match Ae r f,Bh r args.toList with
  | some (.yld l),some vs=>some (l,vs)
  | _,_=>none
 | _=>none
def Zn (P:Program) (t:TypeId) (m:String):Option FuncId:=match P.info? t with
 | some i=>match i.methods.find? (·.name == m) with
  | some mm=>match mm.func,P.underlying t with
   | some (f,true),some (.pointer _)=>if mm.path.isEmpty=true then some f else none
   | some (_,false),some (.pointer _)=>none
   | some (f,false),some _=>if mm.path.isEmpty=true then some f else none
   | _,_=>none
  | none=>none
 | none=>none
def spO (P:Program) (op:Op) (K:AV→Heap→Prop) (r:Regs) (h:Heap):Prop:=match op with
 | .call { callee:= .invoke x m,args,.. } => ∃ t v f vs,Ae r x=some (.iface t v)∧Bh r args.toList=some vs∧Zn P t m=some f∧CSem P f (v :: vs) h K
 | op=>ghO P op K r h
def wpO (P:Program) (o:Oper) (K:Regs→Heap→Prop) (r:Regs) (h:Heap):Prop :=
 match Ay r o.op with
 | some (some (g,vs))=>CSem P g vs h fun v h'=>K (Av r o.dst v) h'
 | some none=> ∃ l vs,yldX r o.op=some (l,vs)∧YSem P l vs h fun v h'=>K (Av r o.dst v) h'
 | none=>(∃ v h',opB P r h o.op=some (v,h')∧K (Av r o.dst v) h')∨spO P o.op (fun v h'=>K (Av r o.dst v) h') r h
def wpOs (P:Program) (ops:Array Oper) (K:Regs→Heap→Prop):List Oper→Regs→Heap→Prop
 | [],r,h=>K r h
 | o :: rest,r,h=> ∃ b,Ch ops r o=some b∧(b=true→wpO P o (wpOs P ops K rest) r h)∧(b=false→wpOs P ops K rest (Av r o.dst (.tup [])) h)
def Bn (P:Program) (ops:Array Oper) (K:Regs→Heap→Prop):Nat→Array Bool→Regs→Heap→Prop
 | 0,listed,r,h=>Region.ready .any ops listed=[]∧K r h
 | f+1,listed,r,h=>(Region.ready .any ops listed=[]→K r h)∧∀ i∈Region.ready .any ops listed,match ops[i]? with
  | none=>Bn P ops K f (listed.setIfInBounds i true) r h
  | some o=> ∃ b,Ch ops r o=some b∧(b=true→wpO P o (Bn P ops K f (listed.setIfInBounds i true)) r h)∧(b=false→Bn P ops K f (listed.setIfInBounds i true) (Av r o.dst (.tup [])) h)
def U9 (F:(Out→Regs→Heap→Prop)→Regs→Heap→Prop) (Q:Out→Regs→Heap→Prop):Nat→Regs→Heap→Prop
 | 0,_,_=>False
 | n+1,r,h=>F (fun o r' h'=>match o with
  | .norm=>U9 F Q n r' h'
  | o=>Q o r' h') r h
def Vu (Q:Out→Regs→Heap→Prop) (r:Regs):AV→Heap→Prop:=fun _ h'=> ∃ lp,h'.lp=some lp∧match lp.st with
 | .ready=>Q .norm r { h' with lp:=none }
 | .done .ret=>Q .ret r { h' with lp:=none }
 | .done (.exit id)=>Q (.exit id) r { h' with lp:=none }
 | _=>False
def Ag9 (P:Program) (g:Operand) (ps:Array Tmp) (assign body:Code) (Q:Out→Regs→Heap→Prop) (r:Regs) (h:Heap):Prop :=
 h.lp=none∧∃ gf a b,Ae r g=some (.fn gf a b)∧∀ id,CSem P gf (a ++ [.yld id] ++ b) { h with lp:=some ⟨id,.ready,r,ps,assign,body⟩ } (Vu Q r)
def wpc (P:Program):Code→(Out→Regs→Heap→Prop)→Regs→Heap→Prop
 | .skip,Q,r,h=>Q .norm r h
 | .label _,Q,r,h=>Q .norm r h
 | .region _ ops false,Q,r,h=>wpOs P ops (Q .norm) ops.toList r h
 | .region _ ops true,Q,r,h=>Bn P ops (Q .norm) ops.size (Array.replicate ops.size false) r h
 | .seq a b,Q,r,h=>wpc P a (fun o r' h'=>match o with
  | .norm=>wpc P b Q r' h'
  | o=>Q o r' h') r h
 | .cond c a b,Q,r,h=> ∃ t,Ae r c=some (.bool t)∧(t=true→wpc P a Q r h)∧(t=false→wpc P b Q r h)
 | .block id b,Q,r,h=>wpc P b (fun o r' h'=>match o with
  | .exit i=>if i=id then Q .norm r' h' else Q (.exit i) r' h'
  | o=>Q o r' h') r h
 | .loop b,Q,r,h=> ∃ n,U9 (wpc P b) Q n r h
 | .exit id,Q,r,h=>Q (.exit id) r h
 | .scope b,Q,r,h=>wpc P b Q r h
 | .ret,Q,r,h=>Q .ret r h
 | .rangeFunc g ps assign body,Q,r,h=>Ag9 P g ps assign body Q r h
 | _,_,_,_=>False
def Marks (I:Nat→Prop) (n0:Nat) (w:World) (ds:List Deferred):Prop:= ∃ Ds:List Nat,ds=Ds.map (fun D=> { target:= .collected D,args := #[] })∧Ds.Nodup∧∀ D∈Ds,w.heap[D]? = some (.deferred (some []))∧n0≤D∧¬I D
structure Frm (N n0:Nat) (I:Nat→Prop) (ρ : BMap) (w:World) (r:Regs) (a:Act):Prop where
 regs:∀ t,VR w I ρ (rg r t) (a.tmps.getD t undef)
 size:a.tmps.size=N
 defers:Marks I n0 w a.defers
 base:n0≤w.heap.size
def Post (N n0:Nat) (I:Nat→Prop) (ρ : BMap) (w:World) (h:Heap) (Q:Out→Regs→Heap→Prop):Exit→Act→World→Prop :=
 fun e a w'=> ∃ o r' h' I' ρ',Q o r' h'∧e=o.Ag8∧RelL I' ρ' w' h'∧Frm N n0 I' ρ' w' r' a∧Cb I ρ w h I' ρ' w' h'
section
variable {P:Program} {N n0:Nat} {w:World} {I:Nat→Prop} {ρ : BMap} {h:Heap} {ro:Option Nat}
theorem Marks.nil:Marks I n0 w []:=⟨[],rfl,List.nodup_nil,μ⟩
theorem Post.trans {w1:World} {I1:Nat→Prop} {ρ1:BMap} {h1:Heap} (g:Cb I ρ w h I1 ρ1 w1 h1) {Q:Out→Regs→Heap→Prop} {e:Exit} {a:Act} {w':World} (p:Post N n0 I1 ρ1 w1 h1 Q e a w'):Post N n0 I ρ w h Q e a w':=by
 obtain ⟨o,r',h',I', ρ',a1,a2,a3,a4,a5⟩:=p
 exact ⟨o,r',h',I', ρ',a1,a2,a3,a4,g.trans a5⟩
theorem A0t {I':Nat→Prop} {ρ':BMap} {w':World} {h':Heap} (R:RelL I ρ w h) (g:Cb I ρ w h I' ρ' w' h') {D:Nat} (hd:w.heap[D]? = some (.deferred (some []))∧n0≤D∧¬I D) :
  w'.heap[D]? = some (.deferred (some []))∧n0≤D∧¬I' D:=by
 refine ⟨g.deferred R hd.1,hd.2.1,fun hi=> ?_⟩
 rcases g.inew D hi with h4|h4
 ·exact hd.2.2 h4
 ·have:=Ce hd.1;omega
theorem Marks.grow {I':Nat→Prop} {ρ':BMap} {w':World} {h':Heap} {ds:List Deferred} (f:Marks I n0 w ds) (R:RelL I ρ w h) (g:Cb I ρ w h I' ρ' w' h'):Marks I' n0 w' ds:=by
 obtain ⟨Ds,h1,h2,h3⟩:=f
 exact ⟨Ds,h1,h2,fun D hD=>A0t R g (h3 D hD)⟩
theorem Frm.grow {I':Nat→Prop} {ρ':BMap} {w':World} {h':Heap} {r:Regs} {a:Act} (f:Frm N n0 I ρ w r a) (R:RelL I ρ w h) (g:Cb I ρ w h I' ρ' w' h'):Frm N n0 I' ρ' w' r a :=
 ⟨fun t=>(f.regs t).A9k g R,f.size,f.defers.grow R g,Nat.le_trans f.base g.size⟩
theorem A80:VR w I ρ (.tup []) undef:= .tup [] #[] rfl μ
theorem Frm.put {r:Regs} {a:Act} (f:Frm N n0 I ρ w r a) {dst:Option Tmp} (hd:∀ d,dst=some d→d < N) {x:AV} {v:Value} (hv:VR w I ρ x v):Frm N n0 I ρ w (Av r dst x) (a.put dst v):=by
 cases dst with
 | none=>exact f
 | some d =>
  refine ⟨fun t=> ?_,by simpa [Act.put] using f.size,f.defers,f.base⟩
  have hdn:=hd d rfl
  simp only [Av,Ec,Act.put]
  by_cases ht:t=d
  ·subst ht
   have:t < a.tmps.size:=by rw [f.size];exact hdn
   simpa [this] using hv
  ·rw [if_neg ht]
   have:=f.regs t
   simp only [Array.getD_eq_getD_getElem?] at this ⊢
   rw [Array.getElem?_setIfInBounds_ne (Ne.symm ht)]
   exact this
theorem A0u {ops:Array Oper} {r:Regs} {a:Act} (RR:∀ t,VR w I ρ (rg r t) (a.tmps.getD t undef)) {o:Oper} {b:Bool} (hw:Ch ops r o=some b):Region.wanted o (yielded ops a.tmps)=b:=by
 unfold Ch at hw
 unfold Region.wanted
 split at hw
 ·rename_i hg;rw [hg];cases hw;rfl
 ·rename_i j want hg
  rw [hg]
  simp only
  split at hw
  ·rename_i hd
   cases hw
   simp [yielded,hd]
  ·rename_i t hd
   have ht:=RR t
   simp only [Array.getD_eq_getD_getElem?] at ht
   split at hw
   ·rename_i b' hb
    cases hw
    rw [hb] at ht
    have:=ht.Sc
    cases hq:a.tmps[t]? with
    | none=>rw [hq] at this;cases this
    | some v =>
     rw [hq] at this
     simp only [Option.getD_some] at this
     simp [yielded,hd,hq,this]
   ·rename_i vs hb
    cases hw
    rw [hb] at ht
    obtain ⟨us,hu,_⟩:=Cells.A27 ht
    cases hq:a.tmps[t]? with
    | none=>simp [yielded,hd,hq]
    | some v =>
     rw [hq] at hu
     simp only [Option.getD_some] at hu
     simp [yielded,hd,hq,hu]
   ·cases hw
theorem Ach {r:Regs} {a:Act} (RR:∀ t,VR w I ρ (rg r t) (a.tmps.getD t undef)) {o:Oper} {g:FuncId} {vs:List AV} (hc:Ay r o.op=some (some (g,vs))) (hf:isFn P g=true) :
  ∃ cargs:List Value,(∀ w1,(execOp a.eval o).run P w1 = .ok (.enter g cargs.toArray) w1)∧Cells w I ρ vs cargs:=by
 obtain ⟨dst,op,type,pos,after,guard⟩:=o
 simp only at hc
 unfold Ay at hc
 split at hc
 ·rename_i f args ts
  split at hc
  ·rename_i g' fa fb us he hs
   simp only [Option.some.injEq,Prod.mk.injEq] at hc
   obtain ⟨rfl,rfl⟩:=hc
   have hv:=B6 RR he
   have hargs:=D9 RR args.toList us hs
   generalize hu:a.eval f=u at hv
   cases hv with
   | fn _ _ _ x1 x2 h1 h2 h3 h4 =>
    refine ⟨x1.toList ++ args.toList.map a.eval ++ x2.toList,fun w1=> ?_,((Cells.Kg h1 h3).append hargs).append (Cells.Kg h2 h4)⟩
    unfold isFn at hf
    cases hp:P.funcs[g']? with
    | none=>rw [hp] at hf;cases hf
    | some fn =>
     rw [hp] at hf
     simp only [Bool.and_eq_true,Bool.not_eq_true'] at hf
     have hb:¬fn.body=none:=by cases hfb:fn.body<;>simp_all
     have hn : ¬ fn.name = "runtime.NumGoroutine" := by simpa using hf.2
     have e:(x1 ++ (Array.map a.eval args ++ x2))=(x1.toList ++ (List.map a.eval args.toList ++ x2.toList)).toArray:=by
      apply Array.ext';simp
     simp [execOp,resolve,Deferred.ofValue,invoke,callFunc,hu,hp,hn,hb,e]
  ·cases hc
 ·cases hc
theorem yld_ok {r:Regs} {a:Act} (RR:∀ t,VR w I ρ (rg r t) (a.tmps.getD t undef)) {o:Oper} {l:Nat} {vs:List AV} (hc:yldX r o.op=some (l,vs)) :
  ∃ cargs:List Value,(∀ w1,(execOp a.eval o).run P w1=(Instr.yield l cargs.toArray).run P w1)∧Cells w I ρ vs cargs:=by
 obtain ⟨dst,op,type,pos,after,guard⟩:=o
 simp only at hc
 unfold yldX at hc
 split at hc
 ·rename_i f args ts
  split at hc
  ·rename_i l' us he hs
   cases hc
   have hv:=B6 RR he
   have hargs:=D9 RR args.toList _ hs
   generalize hu:a.eval f=u at hv
   cases hv
   refine ⟨args.toList.map a.eval,fun w1=> ?_,hargs⟩
   have e:Array.map a.eval args=(List.map a.eval args.toList).toArray:=by
    apply Array.ext';simp
   simp [execOp,resolve,Deferred.ofValue,invoke,hu,e]
  ·cases hc
 ·cases hc
theorem Lw {r:Regs} {op:Op} {q:Option (FuncId×List AV)} (hc:Ay r op=some q):∀ c,op≠.defer c:=by
 rintro c rfl;cases hc
theorem Yr {r:Regs} {op:Op} {q:AV×Heap} (hc:opX P r h op=some q):∀ c,op≠.defer c:=by
 rintro c rfl;cases hc
theorem Ajw {t:TypeId} {m:String} {f:FuncId} (hm:Zn P t m=some f) (v:Value) (args:Array Value) (w1:World) (hf:isFn P f=true):(callMethod (.iface t v) m args).run P w1 = .ok (.enter f (#[v] ++ args)) w1:=by
 unfold Zn at hm
 split at hm
 ·rename_i i hi
  split at hm
  ·rename_i mm hmm
   have hf':∀ as:Array Value,(callFunc f as).run P w1 = .ok (.enter f as) w1:=by
    intro as
    unfold isFn at hf
    cases hp:P.funcs[f]? with
    | none=>rw [hp] at hf;cases hf
    | some fn =>
     rw [hp] at hf
     simp only [Bool.and_eq_true,Bool.not_eq_true'] at hf
     have hb:¬fn.body=none:=by cases hfb:fn.body<;>simp_all
     have hn : ¬ fn.name = "runtime.NumGoroutine" := by simpa using hf.2
     simp [callFunc,hp,hn,hb]
   have hfu:P.types.size+Made.depth=(P.types.size+99)+1:=rfl
   split at hm
   ·rename_i f' e hfn hu
    split at hm
    ·rename_i hpe
     cases hm
     have hpl:mm.path.toList=[]:=by simpa [Array.isEmpty_iff] using hpe
     simp only [callMethod,Sem.run_bind,run_program,Result.andThen_ok]
     rw [hfu]
     unfold method
     simp only [Sem.run_bind,Sem.run_pure,Result.andThen_ok,Xu hi,hmm,hpl,follow,Sem.run_pure,hfn,receiverAt,Az hu,Place.get,hf']
    ·cases hm
   ·cases hm
   ·rename_i d hnp' _ hu
    split at hm
    ·rename_i hpe
     cases hm
     have hfn:mm.func=some (f,false):=by assumption
     have hnp:∀ e,d≠.pointer e:=fun e he=>hnp' e he
     have hpl:mm.path.toList=[]:=by simpa [Array.isEmpty_iff] using hpe
     simp only [callMethod,Sem.run_bind,run_program,Result.andThen_ok]
     rw [hfu]
     unfold method
     simp only [Sem.run_bind,Sem.run_pure,Result.andThen_ok,Xu hi,hmm,hpl,follow,hfn,receiverAt,Az hu,Place.get,hf']
    ·cases hm
   ·cases hm
  ·cases hm
 ·cases hm
theorem Qw {n:Nat} {f:FuncId} {args:Array Value} {R:Ending→World→Prop} (hc:Calls P f args w R):CallsIn (FW ro) n P f args w R :=
 (callsIn_wide.2 hc:CallsIn Fence.wide n P f args w R)
theorem A81 {n l:Nat} {f:FuncId} {tmps:Array Value} {as bd:Code} {R:Ending→World→Prop} (hc:RoundIn (FW none) n P l f tmps as bd w R):RoundIn (FW ro) n P l f tmps as bd w R:=hc
theorem Sr:(FW ro).depth.isSome=true→1≤0:=by intro hh;cases hh
theorem op_ok {I0:Nat→Prop} {ρ0:BMap} {w0:World} {h0:Heap} {ops:Array Oper} {Q:Out→Regs→Heap→Prop} {o:Oper} (hdo:∀ d,o.dst=some d→d < N) {K:Regs→Heap→Prop} {K':Act→World→Prop}
  {I:Nat→Prop} {ρ : BMap} {w:World} {r:Regs} {h:Heap} {a:Act} {b:Bool} (hw:Ch ops r o=some b) (hq1:b=true→wpO P o K r h) (hq2:b=false→K (Av r o.dst (.tup [])) h) (R:RelL I ρ w h) (F:Frm N n0 I ρ w r a) (G0:Cb I0 ρ0 w0 h0 I ρ w h)
  (hK:∀ (I':Nat→Prop) (ρ':BMap) (w':World) (r':Regs) (h':Heap) (a':Act),K r' h'→RelL I' ρ' w' h'→Frm N n0 I' ρ' w' r' a'→Cb I0 ρ0 w0 h0 I' ρ' w' h'→K' a' w') :
  if Region.wanted o (yielded ops a.tmps) then o.wpIn (FW ro) 0 P a w K' (Post N n0 I0 ρ0 w0 h0 Q) else (∀ f,o.about P w a.eval=some f→(FW ro).fn f)∧K' (a.put o.dst undef) w:=by
 cases b with
 | true =>
  have hq:=hq1 rfl
  rw [if_pos (A0u F.regs hw)]
  refine ⟨fun _ _=>trivial,?_⟩
  have next:∀ (x:AV) (h':Heap) (I':Nat→Prop) (ρ':BMap) (w':World) (v:Value),K (Av r o.dst x) h'→RelL I' ρ' w' h'→VR w' I' ρ' x v→Cb I ρ w h I' ρ' w' h'→K' (a.put o.dst v) w':=by
   intro x h' I' ρ' w' v hq' R' hv G
   exact hK I' ρ' w' _ h' _ hq' R' ((F.grow R G).put hdo hv) (G0.trans G)
  unfold wpO at hq
  split at hq
  ·rename_i g vs hc
   obtain ⟨hf,hcall⟩:=hq
   obtain ⟨cargs,hrun,hcells⟩:=Ach F.regs hc hf
   rw [Oper.semAt_eq _ _ _ (Lw hc),hrun w,Oper.uponIn_enter]
   refine ⟨Sr,Qw ((hcall I ρ w cargs R hcells).mono ?_)⟩
   rintro e w' ⟨v,x,h',I', ρ',rfl,hq',R',hv,G⟩
   exact next x h' I' ρ' w' v hq' R' hv G
  ·rename_i hc
   obtain ⟨l,vs,hy,hq⟩:=hq
   obtain ⟨cargs,hrun,hcells⟩:=yld_ok (P:=P) F.regs hy
   obtain ⟨fn,tmps,as,bd,h1,h2⟩:=hq I ρ w cargs R hcells
   rw [Oper.semAt_eq _ _ _ (Lw hc),hrun w,h1,Oper.uponIn_round]
   refine ⟨Sr,A81 (h2.mono ?_)⟩
   rintro e w' ⟨v,x,h',I', ρ',rfl,hq',R',hv,G⟩
   exact next x h' I' ρ' w' v hq' R' hv G
  ·rcases hq with ⟨x,h',hx,hq⟩|hq
   ·have hx:=A9d hx
    obtain ⟨v,w',hrun, ρ',R',G,hv⟩:=opX_ok (o:=o) R.rel F.regs hx
    obtain ⟨hl,hg⟩:=opX_lp hx
    rw [Oper.semAt_eq _ _ _ (Yr hx)]
    rcases hrun with hrun|⟨hrun,rfl⟩
    ·rw [hrun,Oper.uponIn_value];exact next x h' I ρ' w' v hq (R.step R' G hl hg) hv (G.toL hl hg)
    ·rw [hrun,Oper.uponIn_skip];exact next x h' I ρ' w' undef hq (R.step R' G hl hg) hv (G.toL hl hg)
   ·unfold spO at hq
    split at hq
    ·rename_i recv m args ts hop
     obtain ⟨t,v,f,vs,e1,e2,e3,hf,hcall⟩:=hq
     have hv:=B6 F.regs e1
     have hargs:=D9 F.regs args.toList vs e2
     generalize hu:a.eval recv=u at hv
     cases hv with
     | iface _ _ v' hv =>
     have hcells:=Cells.cons hv hargs
     have hrun:(execOp a.eval o).run P w = .ok (.enter f (v' :: args.toList.map a.eval).toArray) w:=by
      have e:(#[v'] ++ args.map a.eval:Array Value)=(v' :: args.toList.map a.eval).toArray:=by apply Array.ext';simp
      have hme:=Ajw e3 v' (args.map a.eval) w hf
      rw [e] at hme
      have hx:(#[Value.iface t v'] ++ args.map a.eval).extract 1 (#[Value.iface t v'] ++ args.map a.eval).size=args.map a.eval:=by
       apply Array.ext'
       simp
       rw [List.take_of_length_le μ]
      simp only [execOp,hop,resolve,Sem.run_bind,Sem.run_pure,Result.andThen_ok,hu,invoke]
      have h0:(#[Value.iface t v'] ++ args.map a.eval)[0]? = some (.iface t v'):=by rw [Array.getElem?_append_left μ];rfl
      simp only [h0,hx,hme]
     rw [Oper.semAt_eq _ _ _ (by rintro c hc;rw [hop] at hc;cases hc),hrun,Oper.uponIn_enter]
     refine ⟨Sr,Qw ((hcall I ρ w _ R hcells).mono ?_)⟩
     rintro e w' ⟨v,x,h',I', ρ',rfl,hq',R',hv,G⟩
     exact next x h' I' ρ' w' v hq' R' hv G
    ·have hq0:=hq
     obtain ⟨v,w',x,h',hrun,hq,R',G,hv⟩:=ghO_ok (o:=o) R F.regs hq
     have hnd:∀ c,o.op≠.defer c:=by
      rintro c hc
      rw [hc] at hq0
      exact hq0.elim
     rw [Oper.semAt_eq _ _ _ hnd]
     rcases hrun with hrun|⟨hrun,rfl⟩
     ·rw [hrun,Oper.uponIn_value];exact next x h' I ρ w' v hq R' hv G
     ·rw [hrun,Oper.uponIn_skip];exact next x h' I ρ w' undef hq R' hv G
 | false =>
  have:=A0u F.regs hw
  rw [if_neg (by rw [this];simp)]
  exact ⟨fun _ _=>trivial,hK I ρ w _ h _ (hq2 rfl) R (F.put hdo A80) G0⟩
theorem ops_ok {I0:Nat→Prop} {ρ0:BMap} {w0:World} {h0:Heap} {ops:Array Oper} {Q:Out→Regs→Heap→Prop} : ∀ (l:List Oper),(∀ o∈l,∀ d,o.dst=some d→d < N)→∀ (I:Nat→Prop) (ρ : BMap) (w:World) (r:Regs) (h:Heap) (a:Act),
  wpOs P ops (Q .norm) l r h→RelL I ρ w h→Frm N n0 I ρ w r a→Cb I0 ρ0 w0 h0 I ρ w h→wpListIn (FW ro) 0 P ops (Post N n0 I0 ρ0 w0 h0 Q) l a w:=by
 intro l
 induction l with
 | nil=>intro _ I ρ w r h a hq R F G;exact ⟨.norm,r,h,I, ρ,hq,rfl,R,F,G⟩
 | cons o l ih =>
  intro hd I ρ w r h a hq R F G0
  have hdo:=fun d=>hd o μ d
  have ih':=ih (fun o' ho'=>hd o' (by simp [ho']))
  obtain ⟨b,hw,hq1,hq2⟩:=hq
  unfold wpListIn
  exact op_ok hdo hw hq1 hq2 R F G0 (fun I' ρ' w' r' h' a' k R' F' G'=>ih' I' ρ' w' r' h' a' k R' F' G')
theorem any_ok {I0:Nat→Prop} {ρ0:BMap} {w0:World} {h0:Heap} {ops:Array Oper} {Q:Out→Regs→Heap→Prop} (hd:∀ o∈ops.toList,∀ d,o.dst=some d→d < N):∀ (f:Nat) (listed:Array Bool) (I:Nat→Prop) (ρ : BMap) (w:World) (r:Regs) (h:Heap) (a:Act),
  Bn P ops (Q .norm) f listed r h→RelL I ρ w h→Frm N n0 I ρ w r a→Cb I0 ρ0 w0 h0 I ρ w h→wpAnyIn (FW ro) 0 P .any ops (Post N n0 I0 ρ0 w0 h0 Q) f listed a w:=by
 intro f
 induction f with
 | zero=>intro listed I ρ w r h a hq R F G;exact ⟨hq.1,.norm,r,h,I, ρ,hq.2,rfl,R,F,G⟩
 | succ f ih =>
  intro listed I ρ w r h a hq R F G
  refine ⟨fun he=>⟨.norm,r,h,I, ρ,hq.1 he,rfl,R,F,G⟩,fun i hi=> ?_⟩
  have:=hq.2 i hi
  unfold wpOpIn
  split at this
  ·rename_i hn;rw [hn];exact ih _ I ρ w r h a this R F G
  ·rename_i o ho
   rw [ho]
   obtain ⟨b,hw,hq1,hq2⟩:=this
   exact op_ok (hd o (by simpa using Array.mem_of_getElem? ho)) hw hq1 hq2 R F G (fun I' ρ' w' r' h' a' k R' F' G'=>ih _ I' ρ' w' r' h' a' k R' F' G')
theorem Rel.below (R:Rel I ρ w h) {w':World} (b:Below w.heap.size w w'):Rel I ρ w' h∧Grow I ρ w h I ρ w' h:=by
 have old:∀ B,B < w.heap.size→w'.heap[B]? = w.heap[B]? := b.block
 have K:E7 I ρ w I ρ w':=⟨fun B hB=>⟨hB,old B (R.imm B hB).1⟩,fun _ _ h=>h,fun B cs e fz hg=>⟨cs,e,fz,by rw [old B (Array.getElem?_eq_some_iff.1 hg).1];exact hg,rfl⟩⟩
 refine ⟨⟨R.dom,fun k cells B o hg hk=> ?_,R.inj,fun B hB=>⟨Nat.lt_of_lt_of_le (R.imm B hB).1 b.size,(R.imm B hB).2⟩⟩,
  ⟨b.os,b.tape,b.output,b.size,Nat.le_refl _,fun _ h=>h,fun _ _ h=>h,fun B hB _=>old B hB,K.cells,fun B h=> .inl h,fun _ h=> .inl h⟩⟩
 obtain ⟨cs,e,fz,g1,g2,g3⟩:=R.cont k cells B o hg hk
 exact ⟨cs,e,fz,by rw [old B (Array.getElem?_eq_some_iff.1 g1).1];exact g1,g2,g3.keep K⟩
theorem RelL.below (R:RelL I ρ w h) {w':World} (b:Below w.heap.size w w'):RelL I ρ w' h∧Cb I ρ w h I ρ w' h:=by
 obtain ⟨R',G⟩:=R.rel.below b
 exact ⟨R.step R' G rfl rfl,G.toL rfl rfl⟩
theorem A82 {ops:Array Oper} (hk:(ops.all fun o=>match o.dst with|some d=>decide (d < N)|none=>true)=true):∀ o∈ops.toList,∀ d,o.dst=some d→d < N:=by
 intro o ho d hd
 have:=Array.all_eq_true'.1 hk o (by simpa using ho)
 rw [hd] at this
 simpa using this
theorem A5t {b:Frame} {a:Act} {k:List Item} {cs:List Frame} {c:Code} : step P (lone (b.atR a (.code (.scope c) :: k)) cs w) = .next (lone (b.atR a (.code c :: .inScope c :: k)) cs w) :=
 step_lone_go (by simp [stepG,stepG.exec,Frame.atR])
theorem Ys {b:Frame} {a:Act} {k:List Item} {cs:List Frame} {c:Code} : step P (lone (b.atR a (.inScope c :: k)) cs w) = .next (lone (b.atR a k) cs w) :=
 step_lone_go (by simp [stepG,stepG.exec,Frame.atR])
theorem Pw {F:Fence} {n:Nat} {c:Code} {Q:Exit→Act→World→Prop} {a:Act} (h:c.wpIn F n P (Exit.noGoto Q) a w):(Code.scope c).wpIn F n P Q a w:=by
 intro b k cs hro hb hr
 obtain ⟨e,a₁,w₁,hq,harr⟩:=h b (.inScope c :: k) cs hro hb hr
 have s0:=StepsIn.one (I:=Machine.fenced P F) (fenced_calm (fr:=b.atR a (.code (.scope c) :: k)) hb hr rfl) (A5t (P:=P) (b:=b) (a:=a) (k:=k) (cs:=cs) (w:=w) (c:=c))
 cases e with
 | normal=>exact ⟨.normal,a₁,w₁,hq,.of_steps s0 (StepsIn.trans harr (.one (fenced_calm hb hr rfl) Ys))⟩
 | exit id =>
  have hx:exitTo id (.inScope c :: k)=exitTo id k:=by simp [exitTo]
  exact ⟨.exit id,a₁,w₁,hq,.of_steps s0 ⟨fun k' hk=>harr.1 k' (by rw [hx];exact hk),fun hr' hk=>harr.2 hr' (by rw [hx];exact hk)⟩⟩
 | goto l=>exact hq.elim
 | ret=>exact ⟨_,a₁,w₁,hq,.of_steps s0 harr⟩
 | panic ch=>exact ⟨_,a₁,w₁,hq,.of_steps s0 harr⟩
 | outgrown=>exact ⟨_,a₁,w₁,hq,.of_steps s0 harr⟩
def Rok (ro:Option Nat) (h:Heap):Prop:=ro=none∨h.lp≠none
theorem Rok.grow {I':Nat→Prop} {ρ':BMap} {w':World} {h':Heap} (k:Rok ro h) (g:Cb I ρ w h I' ρ' w' h'):Rok ro h':=by
 refine k.imp id fun h1 h2=>h1 ?_
 have:=g.lp
 rw [h2] at this
 cases hh:h.lp with
 | none=>rfl
 | some x=>rw [hh] at this;cases this
theorem Rel.A9m (R:Rel I ρ w h) {l:Nat} {r:Loop} (hg:w.heap[l]? = some (.loop r)) (hi:¬I l) (r':Loop) :
  Rel I ρ (w.putObj l (.loop r')) h∧E7 I ρ w I ρ (w.putObj l (.loop r')):=by
 have K:E7 I ρ w I ρ (w.putObj l (.loop r')):=by
  refine ⟨fun B hB=>⟨hB,World.putObj_heap_other (fun e=>hi (e ▸ hB))⟩,fun _ _ h=>h,fun B cs e fz hc=>⟨cs,e,fz,?_,rfl⟩⟩
  rw [World.putObj_heap_other (by rintro rfl;rw [hg] at hc;cases hc)];exact hc
 refine ⟨⟨R.dom,fun k cells B o hk hρ => ?_,R.inj,fun B hB=>⟨by simpa using (R.imm B hB).1,(R.imm B hB).2⟩⟩,K⟩
 obtain ⟨cs,e,fz,g1,g2,g3⟩:=R.cont k cells B o hk hρ
 exact ⟨cs,e,fz,by rw [World.putObj_heap_other (by rintro rfl;rw [hg] at g1;cases g1)];exact g1,g2,g3.keep K⟩
def Heap.Bp (h:Heap) (lp:Option Lp):Heap:= { h with lp:=lp }
theorem Rel.Bp (R:Rel I ρ w h) (lp:Option Lp):Rel I ρ w (h.Bp lp):=⟨R.dom,R.cont,R.inj,R.imm⟩
theorem RelL.turn (R:RelL I ρ w h) {lp:Lp} (hl:h.lp=some lp) (st:LSt):∃ (fn:FuncId) (tmps:Array Value) (D:Nat),w.heap[lp.id]? = some (.loop (lp.loop fn tmps D)) ∧
  RelL I ρ (w.putObj lp.id (.loop (({ lp with st:=st } : Lp).loop fn tmps D))) (h.Bp (some { lp with st:=st })) ∧
  Cb I ρ w h I ρ (w.putObj lp.id (.loop (({ lp with st:=st } : Lp).loop fn tmps D))) (h.Bp (some { lp with st:=st })):=by
 obtain ⟨⟨fn,tmps,D,k1,k3,k4,k5,k6⟩,k7⟩:=R.lp lp hl
 obtain ⟨R',K⟩:=R.rel.A9m k1 k7 (({ lp with st:=st } : Lp).loop fn tmps D)
 refine ⟨fn,tmps,D,k1,⟨R'.Bp _,?_,fun B g hg=> ?_⟩,⟨rfl,rfl,rfl,μ,Nat.le_refl _,fun _ h=>h,fun _ _ h=>h,fun B hB _ hn _=> ?_,K.cells,fun B h=> .inl h,fun _ h=> .inl h,?_,fun B h=> .inl h⟩⟩
 ·rintro lp' e
  cases e
  exact ⟨⟨fn,tmps,D,World.putObj_heap_same (Ce k1),fun t=>(k3 t).keep K,k4,k5,k6⟩,k7⟩
 ·obtain ⟨j1,j2⟩:=R.gh B g hg
  refine ⟨j1.step K (World.putObj_heap_other ?_),j2⟩
  rintro rfl
  obtain ⟨o,o1,o2⟩:=j1.obj
  rw [k1] at o1
  cases o1
  rcases o2 with o2|⟨_,_,_,o2⟩<;>cases o2
 ·exact World.putObj_heap_other (fun e=>hn ⟨lp,hl,e.symm⟩)
 ·rw [hl];rfl
def A0v:List Tmp→List AV→Regs→Regs
 | p :: ps,v :: vs,r=>A0v ps vs (rset r p v)
 | _,_,r=>r
theorem Aga:∀ (ps:List Tmp) (vs:List AV) (cs:List Value) (r:Regs) (tmps:Array Value),Cells w I ρ vs cs→(∀ p∈ps,p < tmps.size)→(∀ t,VR w I ρ (rg r t) (tmps.getD t undef)) →
  ((ps.zip cs).foldl (fun tmps (t,a)=>tmps.setIfInBounds t a) tmps).size=tmps.size∧∀ t,VR w I ρ (rg (A0v ps vs r) t) (((ps.zip cs).foldl (fun tmps (t,a)=>tmps.setIfInBounds t a) tmps).getD t undef):=by
 intro ps
 induction ps with
 | nil=>intro vs cs r tmps _ _ h;exact ⟨rfl,by cases vs<;>exact h⟩
 | cons p ps ih =>
  intro vs cs r tmps hc hp h
  match vs,cs,hc.len with
  | [],[],_=>exact ⟨rfl,h⟩
  | v :: vs,c :: cs,_ =>
   have h1:VR w I ρ v c:=hc.ok 0 v c rfl rfl
   have h2:Cells w I ρ vs cs:=⟨by have:=hc.len;simpa using this,fun i z u hz hu=>hc.ok (i+1) z u (by simpa using hz) (by simpa using hu)⟩
   have hpn:=hp p μ
   obtain ⟨e1,e2⟩:=ih vs cs (rset r p v) (tmps.setIfInBounds p c) h2 (fun q hq=>by simpa using hp q (by simp [hq])) (fun t=>by
    rw [Ec]
    by_cases ht:t=p
    ·subst ht;simpa [hpn] using h1
    ·rw [if_neg ht]
     have:=h t
     simp only [Array.getD_eq_getD_getElem?] at this ⊢
     rw [Array.getElem?_setIfInBounds_ne (Ne.symm ht)]
     exact this)
   exact ⟨by simpa using e1,e2⟩
def Qx (lp:Lp) (K:AV→Heap→Prop):Out→Regs→Heap→Prop:=fun o _ h=>h.lp=some { lp with st:= .busy } ∧ match o with
 | .norm=>K (.bool true) (h.Bp (some lp))
 | o=>K (.bool false) (h.Bp (some { lp with st:= .done o }))
def roundX (P:Program) (lp:Lp) (vs:List AV) (h:Heap) (K:AV→Heap→Prop):Prop :=
 wpc P lp.assign (fun o r1 h1=>o = .norm∧h1.lp=some lp∧wpc P lp.body (Qx lp K) r1 (h1.Bp (some { lp with st:= .busy }))) (A0v lp.ps.toList vs lp.r) h
def Sound (P:Program):Prop:= ∀ (c:Code) (N n0:Nat) (ro:Option Nat) (Q:Out→Regs→Heap→Prop) (I:Nat→Prop) (ρ : BMap) (w:World) (r:Regs) (h:Heap) (a:Act),
  wpc P c Q r h→okc N c=true→RelL I ρ w h→Frm N n0 I ρ w r a→Rok ro h→c.wpIn (FW ro) 0 P (Post N n0 I ρ w h Q) a w
theorem YSem.Agb (hs:Sound P) {lp:Lp} (hl:h.lp=some lp) (hst:lp.st = .ready) {vs:List AV} (hsz:vs.length=lp.ps.size) {K:AV→Heap→Prop} (hw:roundX P lp vs h K):YSem P lp.id vs h K:=by
 intro I ρ w cargs R hc
 obtain ⟨⟨fn,tmps,D,k1,k3,k4,k5,k6⟩,k7⟩:=R.lp lp hl
 have hlp:lp = { lp with st:= .ready } := by cases lp;simp only at hst;subst hst;rfl
 refine ⟨fn,(lp.ps.zip cargs.toArray).foldl (fun tmps (t,a)=>tmps.setIfInBounds t a) tmps,lp.assign,lp.body,?_,?_⟩
 ·exact run_yield (r:=lp.loop fn tmps D) k1 (by simpa [hc.len,Lp.loop] using hsz)
 have hz:(lp.ps.zip cargs.toArray).foldl (fun tmps (t,a)=>tmps.setIfInBounds t a) tmps=(lp.ps.toList.zip cargs).foldl (fun tmps (t,a)=>tmps.setIfInBounds t a) tmps:=by
  rw [←Array.foldl_toList,Array.toList_zip]
 obtain ⟨f1,f2⟩:=Aga lp.ps.toList vs cargs lp.r tmps hc (fun p hp=>by simpa using Array.all_eq_true'.1 k6 p (by simpa using hp)) k3
 rw [hz]
 refine roundIn_of_wpIn trivial ?_
 show lp.assign.wpIn (FW (some lp.id)) 0 P _ _ w
 refine wpIn_mono (hs lp.assign tmps.size 0 (some lp.id) _ I ρ w (A0v lp.ps.toList vs lp.r) h _ hw k4 R ⟨f2,f1,Marks.nil,Nat.zero_le _⟩ (.inr (by rw [hl];exact Option.some_ne_none _))) ?_
 rintro e a1 w1 ⟨o,r1,h1,I1, ρ1,⟨rfl,hl1,hb⟩,rfl,R1,F1,G1⟩
 obtain ⟨fn1,tmps1,D1,m1,R2,G2⟩:=R1.turn hl1 .busy
 refine ⟨w1.putObj lp.id (.loop (({ lp with st:= .busy } : Lp).loop fn1 tmps1 D1)),?_,?_⟩
 ·have:=run_beginRound (P:=P) m1 (by show lp.st.state = .ready;rw [hst];rfl)
  rw [this,hlp]
  rfl
 have F2:=F1.grow R1 G2
 refine wpIn_mono (hs lp.body tmps.size 0 (some lp.id) _ I1 ρ1 _ r1 _ a1 hb k5 R2 F2 (.inr (Option.some_ne_none _))) ?_
 rintro e a3 w3 ⟨o,r3,h3,I3, ρ3,⟨hl3,hK⟩,rfl,R3,F3,G3⟩
 have G03:=(G1.trans G2).trans G3
 cases o with
 | norm =>
  obtain ⟨fn3,tmps3,D3,m3,R4,G4⟩:=R3.turn hl3 .ready
  refine ⟨_,_,run_endRound none m3,_,.bool true,_,I3, ρ3,rfl,?_,R4,.bool true,G03.trans G4⟩
  rw [hlp] at hK
  exact hK
 | ret =>
  obtain ⟨fn3,tmps3,D3,m3,R4,G4⟩:=R3.turn hl3 (.done .ret)
  exact ⟨_,_,run_endRound (some .ret) m3,_,.bool false,_,I3, ρ3,rfl,hK,R4,.bool false,G03.trans G4⟩
 | exit id =>
  obtain ⟨fn3,tmps3,D3,m3,R4,G4⟩:=R3.turn hl3 (.done (.exit id))
  exact ⟨_,_,run_endRound (some (.exit id)) m3,_,.bool false,_,I3, ρ3,rfl,hK,R4,.bool false,G03.trans G4⟩
theorem Agc {g:Operand} {ps:Array Tmp} {assign body:Code} {Q:Out→Regs→Heap→Prop} {r:Regs} {a:Act} (hq:Ag9 P g ps assign body Q r h) (hk:okc N (.rangeFunc g ps assign body)=true)
  (R:RelL I ρ w h) (F:Frm N n0 I ρ w r a) (hro:Rok ro h):(Code.rangeFunc g ps assign body).wpIn (FW ro) 0 P (Post N n0 I ρ w h Q) a w:=by
 obtain ⟨hl,gf,as,bs,he,hcall⟩:=hq
 obtain rfl:ro=none:=hro.resolve_right (fun h1=>h1 hl)
 simp only [okc,Bool.and_eq_true] at hk
 obtain ⟨⟨hk1,hk2⟩,hk3⟩:=hk
 have hv:=B6 F.regs he
 generalize hu:a.eval g=u at hv
 cases hv with
 | fn _ _ _ x1 x2 h1 h2 h3 h4 =>
 refine wpIn_rangeFunc fun fn _=> ?_
 obtain ⟨rec,hrec⟩:∃ rec:Loop,rec = { state:= .ready,pending:=none,fn,tmps:=a.tmps,params:=ps,assign,body,defers:=w.heap.size } := ⟨_,rfl⟩
 obtain ⟨W1,hW1⟩:∃ W1,(w.alloc (.deferred (some []))).alloc (.loop rec)=W1:=⟨_,rfl⟩
 have hL1:W1.heap[w.heap.size+1]? = some (.loop rec):=by
  rw [←hW1];have:=World.alloc_heap_new (w.alloc (.deferred (some []))) (.loop rec);rwa [World.size_alloc] at this
 have hD1:W1.heap[w.heap.size]? = some (.deferred (some [])):=by
  rw [←hW1];exact (Below.heap_alloc _ _ _ μ).trans (World.alloc_heap_new w _)
 have hb1:Below w.heap.size w W1:=by
  rw [←hW1];exact ((Below.refl _ w).alloc (Nat.le_refl _) _).alloc μ _
 obtain ⟨R1,G1⟩:=R.rel.below hb1
 obtain ⟨lp0,hlp0⟩:∃ lp0:Lp,lp0=⟨w.heap.size+1,.ready,r,ps,assign,body⟩:=⟨_,rfl⟩
 have R1L:RelL I ρ W1 (h.Bp (some lp0)):=by
  refine ⟨R1.Bp _,?_,fun B g hg=> ?_⟩
  rotate_left
  ·obtain ⟨j1,j2⟩:=R.gh B g hg
   exact ⟨j1.step (G1.keeps R.rel) (hb1.block B j1.lt),j2⟩
  rintro lp e
  cases e
  subst hlp0
  refine ⟨⟨fn,a.tmps,w.heap.size,by rw [hL1,hrec];rfl,fun t=>(F.regs t).keep (G1.keeps R.rel),by rw [F.size];exact hk2,by rw [F.size];exact hk3,by rw [F.size];exact hk1⟩,fun hi=> ?_⟩
  have:=(R.rel.imm _ hi).1
  simp at this
  omega
 have hcall:=hcall (w.heap.size+1)
 rw [show ({ h with lp:=some ⟨w.heap.size+1,.ready,r,ps,assign,body⟩ } : Heap)=h.Bp (some lp0) by rw [hlp0];rfl] at hcall
 obtain ⟨hfn,hcall⟩:=hcall
 refine ⟨w.heap.size+1,[{ target:= .collected w.heap.size,args := #[] }],W1, { target:= .fn (.func gf) x2,args:=x1 ++ #[Value.func (.yield (w.heap.size+1)) #[] #[]] },W1,gf,
  (x1.toList ++ [Value.func (.yield (w.heap.size+1)) #[] #[]] ++ x2.toList).toArray,W1,?_,?_,fun _ _=>trivial,?_,Sr,?_⟩
 ·rw [←hW1,hrec];exact run_enterLoop_outer _ _ _ _ _
 ·simp only [resolve,hu];simp [Deferred.ofValue,Act.eval]
 ·unfold isFn at hfn
  cases hp:P.funcs[gf]? with
  | none=>rw [hp] at hfn;cases hfn
  | some fn' =>
   rw [hp] at hfn
   simp only [Bool.and_eq_true,Bool.not_eq_true'] at hfn
   have hb:¬fn'.body=none:=by cases hfb:fn'.body<;>simp_all
   have hn : ¬ fn'.name = "runtime.NumGoroutine" := by simpa using hfn.2
   have e:(x1 ++ #[Value.func (.yield (w.heap.size+1)) #[] #[]] ++ x2)=(x1.toList ++ [Value.func (.yield (w.heap.size+1)) #[] #[]] ++ x2.toList).toArray:=by
    apply Array.ext';simp
   simp only [invoke,callFunc]
   rw [e]
   simp [hp,hn,hb]
 have K1:=G1.keeps R.rel
 have hcells:Cells W1 I ρ (as ++ [.yld (w.heap.size+1)] ++ bs) (x1.toList ++ [Value.func (.yield (w.heap.size+1)) #[] #[]] ++ x2.toList) :=
  (((Cells.Kg h1 h3).keep K1).append (Cells.cons (.yld _) Cells.nil)).append ((Cells.Kg h2 h4).keep K1)
 refine Qw ((hcall I ρ W1 _ R1L hcells).mono ?_)
 rintro e W3 ⟨v,x,h3,I3, ρ3,rfl,⟨lp3,hl3,hQ⟩,R3,hv3,G3⟩
 obtain ⟨⟨fn3,tmps3,D3,m3,-,-,-,-⟩,m7⟩:=R3.lp lp3 hl3
 have hid:lp3.id=w.heap.size+1:=by
  have:=G3.lp
  rw [hl3] at this
  have:=congrArg Lp.id (Option.some.inj this)
  rw [show lp3.id=lp3.core.id from rfl,this,hlp0]
  rfl
 obtain ⟨rec3,hrec3⟩:∃ rec3:Loop,rec3 = { lp3.loop fn3 tmps3 D3 with state:= .exhausted } := ⟨_,rfl⟩
 obtain ⟨R4,K4⟩:=R3.rel.A9m m3 m7 rec3
 have G:Cb I ρ w h I3 ρ3 (W3.putObj lp3.id (.loop rec3)) (h3.Bp none):=by
  refine ⟨G3.os.trans G1.os,G3.tape.trans G1.tape,G3.output.trans G1.output,by have:=G1.size;have:=G3.size;simp;omega,G3.next,fun B hB=>G3.imm B hB,fun k x hk=>G3.map k x hk,fun B hB hn _ hg=> ?_,
   fun B cs e fz hg=> ?_,fun B hB=> ?_,fun B hB=> ?_,?_,fun B hB=>(G3.gh B hB).imp id (fun h5=>Nat.le_trans G1.size h5)⟩
  ·rw [World.putObj_heap_other ω,G3.block B (Nat.lt_of_lt_of_le hB G1.size) hn ?_ hg,G1.block B hB hn]
   rintro ⟨lp,e,rfl⟩
   cases e
   rw [hlp0] at hB
   simp at hB
   omega
  ·obtain ⟨cs1,e1,fz1,c1,c2⟩:=G1.cells B cs e fz hg
   obtain ⟨cs2,e2,fz2,c3,c4⟩:=G3.cells B cs1 e1 fz1 c1
   obtain ⟨cs3,e3,fz3,c5,c6⟩:=K4.cells B cs2 e2 fz2 c3
   exact ⟨cs3,e3,fz3,c5,ω⟩
  ·rcases G3.owned B hB with h5|h5
   ·exact .inl h5
   ·exact .inr (Nat.le_trans G1.size h5)
  ·rcases G3.inew B hB with h5|h5
   ·exact .inl h5
   ·exact .inr (Nat.le_trans G1.size h5)
  ·rw [hl];rfl
 have RL:RelL I3 ρ3 (W3.putObj lp3.id (.loop rec3)) (h3.Bp none):=by
  refine ⟨R4.Bp none,fun lp h1=>(by cases h1),fun B g hg=> ?_⟩
  obtain ⟨j1,j2⟩:=R3.gh B g hg
  refine ⟨j1.step K4 (World.putObj_heap_other ?_),j2⟩
  rintro rfl
  obtain ⟨o,o1,o2⟩:=j1.obj
  rw [m3] at o1
  cases o1
  rcases o2 with o2|⟨_,_,_,o2⟩<;>cases o2
 have FF:Frm N n0 I3 ρ3 (W3.putObj lp3.id (.loop rec3)) r { a with defers:=[{ target:= .collected w.heap.size,args := #[] }] ++ a.defers } := by
  refine ⟨fun t=>(F.regs t).A9k G R,F.size,?_,Nat.le_trans F.base G.size⟩
  obtain ⟨Ds,d1,d2,d3⟩:=F.defers
  refine ⟨w.heap.size :: Ds,by rw [d1];rfl,List.nodup_cons.2 ⟨fun hm=> ?_,d2⟩,fun D hD=> ?_⟩
  ·have:=Ce (d3 _ hm).1;omega
  ·rcases List.mem_cons.1 hD with rfl|hD
   ·refine ⟨?_,F.base,fun hi=> ?_⟩
    ·rw [World.putObj_heap_other ω]
     exact G3.deferred R1L hD1
    ·rcases G3.inew _ hi with h5|h5
     ·have:=(R.rel.imm _ h5).1;omega
     ·have:=Ce hD1;omega
   ·exact A0t R G (d3 D hD)
 have hend:∀ hb:lp3.st.state≠.busy,(Instr.endLoop (w.heap.size+1)).run P W3 = .ok lp3.st.pend (W3.putObj lp3.id (.loop rec3)):=by
  intro hb
  rw [←hid,hrec3]
  exact run_endLoop m3 hb
 cases hst:lp3.st with
 | busy=>rw [hst] at hQ;exact hQ.elim
 | ready =>
  rw [hst] at hQ
  refine ⟨_,_,hend (by rw [hst];intro e;cases e),?_⟩
  rw [hst]
  exact ⟨.norm,r,_,I3, ρ3,hQ,rfl,RL,FF,G⟩
 | done o =>
  cases o with
  | norm=>rw [hst] at hQ;exact hQ.elim
  | ret =>
   rw [hst] at hQ
   refine ⟨_,_,hend (by rw [hst];intro e;cases e),?_⟩
   rw [hst]
   exact wpIn_ret ⟨.ret,r,_,I3, ρ3,hQ,rfl,RL,FF,G⟩
  | exit id =>
   rw [hst] at hQ
   refine ⟨_,_,hend (by rw [hst];intro e;cases e),?_⟩
   rw [hst]
   exact wpIn_exit ⟨.exit id,r,_,I3, ρ3,hQ,rfl,RL,FF,G⟩
theorem A9n (hm:P.follows .mixedOrders=true):Sound P:=by
 intro c
 induction c with
 | skip=>intro N n0 ro Q I ρ w r h a hq _ R F _;exact wpIn_skip ⟨.norm,r,h,I, ρ,hq,rfl,R,F,Cb.refl _ _ _ _⟩
 | label l=>intro N n0 ro Q I ρ w r h a hq _ R F _;exact wpIn_label ⟨.norm,r,h,I, ρ,hq,rfl,R,F,Cb.refl _ _ _ _⟩
 | exit id=>intro N n0 ro Q I ρ w r h a hq _ R F _;exact wpIn_exit ⟨.exit id,r,h,I, ρ,hq,rfl,R,F,Cb.refl _ _ _ _⟩
 | ret=>intro N n0 ro Q I ρ w r h a hq _ R F _;exact wpIn_ret ⟨.ret,r,h,I, ρ,hq,rfl,R,F,Cb.refl _ _ _ _⟩
 | region id ops draw =>
  intro N n0 ro Q I ρ w r h a hq hk R F _
  have hd:=A82 hk
  cases draw with
  | false=>exact wpIn_region_list (ops_ok ops.toList hd I ρ w r h a hq R F (Cb.refl _ _ _ _))
  | true =>
   have hbel:Below w.heap.size w { w with drawn:=w.drawn+1 } := ⟨rfl,rfl,rfl,Nat.le_refl _,fun _ _=>rfl⟩
   obtain ⟨R',G'⟩:=R.below hbel
   exact wpIn_region_any hm (any_ok hd _ _ I ρ _ r h a hq R' (F.grow R G') G')
 | seq x y ihx ihy =>
  intro N n0 ro Q I ρ w r h a hq hk R F hro
  simp only [okc,Bool.and_eq_true] at hk
  refine wpIn_seq ?_
  refine wpIn_mono (ihx N n0 ro _ I ρ w r h a hq hk.1 R F hro) ?_
  rintro e a1 w1 ⟨o,r1,h1,I1, ρ1,hq1,rfl,R1,F1,G1⟩
  cases o with
  | norm=>exact wpIn_mono (ihy N n0 ro Q I1 ρ1 w1 r1 h1 a1 hq1 hk.2 R1 F1 (hro.grow G1)) (fun e a w p=>Post.trans G1 p)
  | exit id=>exact ⟨.exit id,r1,h1,I1, ρ1,hq1,rfl,R1,F1,G1⟩
  | ret=>exact ⟨.ret,r1,h1,I1, ρ1,hq1,rfl,R1,F1,G1⟩
 | cond c x y ihx ihy =>
  intro N n0 ro Q I ρ w r h a hq hk R F hro
  simp only [okc,Bool.and_eq_true] at hk
  obtain ⟨t,hc,hq1,hq2⟩:=hq
  cases t with
  | true=>exact wpIn_cond_true (B6 F.regs hc).Sc (ihx N n0 ro Q I ρ w r h a (hq1 rfl) hk.1 R F hro)
  | false=>exact wpIn_cond_false (B6 F.regs hc).Sc (ihy N n0 ro Q I ρ w r h a (hq2 rfl) hk.2 R F hro)
 | block id b ih =>
  intro N n0 ro Q I ρ w r h a hq hk R F hro
  refine wpIn_block ?_
  refine wpIn_mono (ih N n0 ro _ I ρ w r h a hq hk R F hro) ?_
  rintro e a1 w1 ⟨o,r1,h1,I1, ρ1,hq1,rfl,R1,F1,G1⟩
  cases o with
  | norm=>exact ⟨.norm,r1,h1,I1, ρ1,hq1,rfl,R1,F1,G1⟩
  | ret=>exact ⟨.ret,r1,h1,I1, ρ1,hq1,rfl,R1,F1,G1⟩
  | exit i =>
   simp only [Out.Ag8,Exit.inBlock]
   simp only at hq1
   by_cases hi:i=id
   ·rw [if_pos hi] at hq1 ⊢
    exact ⟨.norm,r1,h1,I1, ρ1,hq1,rfl,R1,F1,G1⟩
   ·rw [if_neg hi] at hq1 ⊢
    exact ⟨.exit i,r1,h1,I1, ρ1,hq1,rfl,R1,F1,G1⟩
 | loop b ih =>
  intro N n0 ro Q I ρ w r h a hq hk R F hro
  obtain ⟨n,hq⟩:=hq
  refine wpIn_loop_rounds n ?_
  have key:∀ (n:Nat) (I1:Nat→Prop) (ρ1:BMap) (w1:World) (r1:Regs) (h1:Heap) (a1:Act),U9 (wpc P b) Q n r1 h1→RelL I1 ρ1 w1 h1→Frm N n0 I1 ρ1 w1 r1 a1→Cb I ρ w h I1 ρ1 w1 h1 →
    Code.roundsIn (FW ro) 0 P b (Post N n0 I ρ w h Q) n a1 w1:=by
   intro n
   induction n with
   | zero=>intro I1 ρ1 w1 r1 h1 a1 hq;exact hq.elim
   | succ n ihn =>
    intro I1 ρ1 w1 r1 h1 a1 hq R1 F1 G1
    rw [roundsIn_succ]
    refine wpIn_mono (ih N n0 ro _ I1 ρ1 w1 r1 h1 a1 hq hk R1 F1 (hro.grow G1)) ?_
    rintro e a2 w2 ⟨o,r2,h2,I2, ρ2,hq2,rfl,R2,F2,G2⟩
    cases o with
    | norm=>exact ihn I2 ρ2 w2 r2 h2 a2 hq2 R2 F2 (G1.trans G2)
    | exit id=>exact ⟨.exit id,r2,h2,I2, ρ2,hq2,rfl,R2,F2,G1.trans G2⟩
    | ret=>exact ⟨.ret,r2,h2,I2, ρ2,hq2,rfl,R2,F2,G1.trans G2⟩
  exact key n I ρ w r h a hq R F (Cb.refl _ _ _ _)
 | scope b ih =>
  intro N n0 ro Q I ρ w r h a hq hk R F hro
  refine Pw ?_
  refine wpIn_mono (ih N n0 ro Q I ρ w r h a hq hk R F hro) ?_
  rintro e a1 w1 ⟨o,r1,h1,I1, ρ1,hq1,rfl,R1,F1,G1⟩
  cases o with
  | norm=>exact ⟨.norm,r1,h1,I1, ρ1,hq1,rfl,R1,F1,G1⟩
  | ret=>exact ⟨.ret,r1,h1,I1, ρ1,hq1,rfl,R1,F1,G1⟩
  | exit id=>exact ⟨.exit id,r1,h1,I1, ρ1,hq1,rfl,R1,F1,G1⟩
 | rangeFunc g ps as bd _ _=>intro N n0 ro Q I ρ w r h a hq hk R F hro;exact Agc hq hk R F hro
 | goto=>intro N n0 ro Q I ρ w r h a hq;exact hq.elim
 | refuse=>intro N n0 ro Q I ρ w r h a hq;exact hq.elim
end
def Y5:Nat→List AV→Regs
 | _,[]=> .nil
 | k,x :: l=>rset (Y5 (k+1) l) k x
theorem A5u:∀ (l:List AV) (k t:Nat),rg (Y5 k l) t=if k≤t then (l[t - k]?).getD (.tup []) else .tup []
 | [],k,t=>by simp [Y5,rg,Tr.get]
 | x :: l,k,t=>by
  rw [Y5,Ec,A5u l (k+1) t]
  by_cases h:t=k
  ·subst h;simp
  ·rw [if_neg h]
   by_cases h2:k≤t
   ·rw [if_pos ω,if_pos h2,show t - k=(t - (k+1))+1 by omega]
    simp
   ·rw [if_neg ω,if_neg h2]
def res1 (P:Program) (r:Regs) (h:Heap):ResultVar→Option AV
 | .tmp t=>some (rg r t)
 | .cell a t=>Fc P h t (rg r a)
def resL (P:Program) (r:Regs) (h:Heap):List ResultVar→Option (List AV)
 | []=>some []
 | x :: l=>match res1 P r h x,resL P r h l with
  | some v,some vs=>some (v :: vs)
  | _,_=>none
def resX (P:Program) (rs:List ResultVar) (r:Regs) (h:Heap):Option AV :=
 match resL P r h rs with
 | some [x]=>some x
 | some l=>some (.tup l)
 | none=>none
def retX (P:Program) (rs:List ResultVar) (Q:AV→Heap→Prop):Out→Regs→Heap→Prop
 | .exit _,_,_=>False
 | _,r,h=> ∃ x,resX P rs r h=some x∧Q x h
def resC (tmps:Array Value):ResultVar→Sem Value
 | .tmp t=>pure (tmps.getD t undef)
 | .cell a t=>do loadVar t (←asAddr (tmps.getD a undef))
section
variable {P:Program} {N:Nat} {w:World} {I:Nat→Prop} {ρ : BMap} {h:Heap}
theorem VR.addr {x:AV} {v:Value} (hv:VR w I ρ x v) {xs:List AV} (hx:at? h x=some xs):∃ ad,v = .pointer (some ad):=by
 cases hv<;>first|exact ⟨_,rfl⟩|(simp [at?] at hx)
theorem Agd {t:TypeId} {a x:AV} (hx:Fc P h t a=some x):∃ xs,at? h a=some xs:=by
 unfold Fc at hx
 split at hx
 ·exact ⟨_, ‹_›⟩
 ·exact ⟨_, ‹_›⟩
 ·cases hx
theorem A9p (R:Rel I ρ w h) {r:Regs} {tmps:Array Value} (RR:∀ t,VR w I ρ (rg r t) (tmps.getD t undef)):∀ (rs:List ResultVar) (xs:List AV),resL P r h rs=some xs →
  ∃ vs:List Value,(rs.mapM (resC tmps)).run P w = .ok vs w∧Cells w I ρ xs vs
 | [],xs,hx=>by cases hx;exact ⟨[],μ,Cells.nil⟩
 | x :: l,xs,hx=>by
  unfold resL at hx
  split at hx
  ·rename_i v vs h1 h2
   cases hx
   obtain ⟨us,g1,g2⟩:=A9p R RR l vs h2
   cases x with
   | tmp t =>
    simp only [res1,Option.some.injEq] at h1
    subst h1
    refine ⟨tmps.getD t undef :: us,?_,Cells.cons (RR t) g2⟩
    simp only [List.mapM_cons,resC,Sem.run_bind,Sem.run_pure,Result.andThen_ok,g1]
   | cell a t =>
    simp only [res1] at h1
    obtain ⟨u,k1,k2⟩:=A56 R (RR a) h1
    have k1:=k1 w (G5.refl w)
    obtain ⟨_,hat⟩:=Agd h1
    obtain ⟨ad,hp⟩:=(RR a).addr hat
    rw [hp] at k1
    simp only [Instr.loadAt,Instr.sureAddr,Sem.run_bind,Sem.run_pure,Result.andThen_ok] at k1
    refine ⟨u :: us,?_,Cells.cons k2 g2⟩
    simp only [List.mapM_cons,resC,Sem.run_bind,Sem.run_pure,Result.andThen_ok,hp,asAddr,k1,g1]
  ·cases hx
theorem Ajx (R:Rel I ρ w h) {r:Regs} {fn:Func} {tmps:Array Value} (RR:∀ t,VR w I ρ (rg r t) (tmps.getD t undef)) {x:AV} (hx:resX P fn.results.toList r h=some x) :
  ∃ v,(results fn tmps).run P w = .ok v w∧VR w I ρ x v:=by
 unfold resX at hx
 have key:∀ xs,resL P r h fn.results.toList=some xs→∃ vs:List Value,(results fn tmps).run P w = .ok (if h:vs.toArray.size=1 then vs.toArray[0] else .tuple vs.toArray) w∧Cells w I ρ xs vs:=by
  intro xs hxs
  obtain ⟨vs,g1,g2⟩:=A9p R RR _ _ hxs
  refine ⟨vs,?_,g2⟩
  have e:results fn tmps=(do let vs ←fn.results.mapM (resC tmps);pure (if h:vs.size=1 then vs[0] else .tuple vs)):=by
   unfold results
   congr 1
  rw [e,Array.mapM_eq_mapM_toList]
  simp [g1]
 split at hx
 ·rename_i y hy
  cases hx
  obtain ⟨vs,g1,g2⟩:=key _ hy
  match vs,g2.len with
  | [v],_=>exact ⟨v,by simpa using g1,g2.ok 0 x v rfl rfl⟩
 ·rename_i l hl hy
  cases hx
  obtain ⟨vs,g1,g2⟩:=key _ hy
  have hne:¬vs.toArray.size=1:=by
   intro he
   have:=g2.len
   simp at he
   match l,hl with
   | [],_=>simp at this;simp [this] at he
   | [x],hl=>exact hl x rfl
   | _ :: _ :: _,_=>simp at this;omega
  rw [dif_neg hne] at g1
  exact ⟨_,g1,.tup l _ g2.arr.1 g2.arr.2⟩
 ·cases hx
theorem RelL.shut (R:RelL I ρ w h) {D:Nat} (hg:w.heap[D]? = some (.deferred (some []))) (hi:¬I D) :
  RelL I ρ (w.putObj D (.deferred none)) h∧E7 I ρ w I ρ (w.putObj D (.deferred none)):=by
 have K:E7 I ρ w I ρ (w.putObj D (.deferred none)):=by
  refine ⟨fun B hB=>⟨hB,World.putObj_heap_other (fun e=>hi (e ▸ hB))⟩,fun _ _ h=>h,fun B cs e fz hc=>⟨cs,e,fz,?_,rfl⟩⟩
  rw [World.putObj_heap_other (by rintro rfl;rw [hg] at hc;cases hc)];exact hc
 refine ⟨⟨⟨R.rel.dom,fun k cells B o hk hρ => ?_,R.rel.inj,fun B hB=>⟨by simpa using (R.rel.imm B hB).1,(R.rel.imm B hB).2⟩⟩,fun lp hl=> ?_,fun B g hg'=> ?_⟩,K⟩
 ·obtain ⟨cs,e,fz,g1,g2,g3⟩:=R.rel.cont k cells B o hk hρ
  exact ⟨cs,e,fz,by rw [World.putObj_heap_other (by rintro rfl;rw [hg] at g1;cases g1)];exact g1,g2,g3.keep K⟩
 ·obtain ⟨⟨fn,tmps,D',k1,k3,k4,k5,k6⟩,k7⟩:=R.lp lp hl
  exact ⟨⟨fn,tmps,D',by rw [World.putObj_heap_other (by rintro rfl;rw [hg] at k1;cases k1)];exact k1,fun t=>(k3 t).keep K,k4,k5,k6⟩,k7⟩
 ·obtain ⟨j1,j2⟩:=R.gh B g hg'
  refine ⟨j1.step K (World.putObj_heap_other ?_),j2⟩
  rintro rfl
  obtain ⟨o,o1,o2⟩:=j1.obj
  rw [hg] at o1
  cases o1
  rcases o2 with o2|⟨_,_,_,o2⟩<;>cases o2
theorem CSem.body (hm : P.follows .mixedOrders = true) {f : FuncId} {fn : Func} {c : Code} (hf : P.funcs[f]? = some fn) (hb : fn.body = some c) (hn : (fn.name == "runtime.NumGoroutine") = false)
  (hk:okc fn.ntmps c=true) {args:List AV} (ha:args.length≤fn.ntmps) {Q:AV→Heap→Prop} (hw:wpc P c (retX P fn.results.toList Q) (Y5 0 args) h):CSem P f args h Q:=by
 refine ⟨by simp [isFn,hf,hb,hn],fun I ρ w cargs R hc=> ?_⟩
 refine callsIn_wide.1 (callsIn_of_wp_marks (F:=Fence.wide) (n:=0) hf hb trivial ?_)
 have hlen:cargs.length=args.length:=hc.len
 have F:Frm fn.ntmps w.heap.size I ρ w (Y5 0 args) { tmps:=cargs.toArray ++ Array.replicate (fn.ntmps - cargs.toArray.size) undef,defers:=[] } := by
  refine ⟨fun t=> ?_,by simp;omega,Marks.nil,Nat.le_refl _⟩
  rw [A5u,if_pos (Nat.zero_le _),Nat.sub_zero]
  simp only [Array.getD_eq_getD_getElem?,Array.getElem?_append,List.size_toArray,List.getElem?_toArray]
  by_cases ht:t < cargs.length
  ·rw [if_pos ht]
   have hta:t < args.length:=by omega
   simp only [List.getElem?_eq_getElem ht,List.getElem?_eq_getElem hta,Option.getD_some]
   exact hc.ok t _ _ (List.getElem?_eq_getElem hta) (List.getElem?_eq_getElem ht)
  ·rw [if_neg ht,List.getElem?_eq_none (by omega:args.length≤t)]
   simp only [Option.getD_none,Array.getElem?_replicate]
   split
   ·exact A80
   ·exact A80
 refine wpIn_mono (A9n hm c fn.ntmps w.heap.size none _ I ρ w _ h _ hw hk R F (.inl rfl)) ?_
 rintro e a w' ⟨o,r',h',I', ρ',hq,rfl,R',F',G'⟩
 have fin:∀ x,resX P fn.results.toList r' h'=some x→Q x h'→LeavesInM Fence.wide 0 P fn a.tmps (fun e w'=> ∃ (v:Value) (x:AV) (h':Heap) (I':Nat→Prop) (ρ':BMap),e = .returned v∧Q x h'∧RelL I' ρ' w' h'∧VR w' I' ρ' x v∧Cb I ρ w h I' ρ' w' h') a.defers .returning w':=by
  intro x hx hQ
  obtain ⟨Ds,hds,hnd,hD⟩:=F'.defers
  rw [hds]
  have key:∀ (Ds:List Nat) (w1:World),Ds.Nodup→(∀ D∈Ds,w1.heap[D]? = some (.deferred (some []))∧w.heap.size≤D∧¬I' D)→RelL I' ρ' w1 h'→Cb I ρ w h I' ρ' w1 h'→(∀ t,VR w1 I' ρ' (rg r' t) (a.tmps.getD t undef)) →
    LeavesInM Fence.wide 0 P fn a.tmps (fun e w'=> ∃ (v:Value) (x:AV) (h':Heap) (I':Nat→Prop) (ρ':BMap),e = .returned v∧Q x h'∧RelL I' ρ' w' h'∧VR w' I' ρ' x v∧Cb I ρ w h I' ρ' w' h') (Ds.map (fun D=> { target:= .collected D,args := #[] })) .returning w1:=by
   intro Ds
   induction Ds with
   | nil =>
    intro w1 _ _ R1 G1 V1
    obtain ⟨v,hv,hvr⟩:=Ajx (fn:=fn) R1.rel V1 hx
    exact ⟨v,hv,v,x,h',I', ρ',rfl,hQ,R1,hvr,G1⟩
   | cons D Ds ih =>
    intro w1 hnd hD R1 G1 V1
    obtain ⟨hn1,hn2⟩:=List.nodup_cons.1 hnd
    obtain ⟨k1,k2,k3⟩:=hD D μ
    obtain ⟨R2,K2⟩:=R1.shut k1 k3
    have G3:Cb I ρ w h I' ρ' (w1.putObj D (.deferred none)) h':=by
     refine ⟨G1.os,G1.tape,G1.output,by have:=G1.size;simpa using this,G1.next,G1.imm,G1.map,fun B hB ho hl hgh=> ?_,fun B cs e fz hg=> ?_,G1.owned,G1.inew,G1.lp,G1.gh⟩
     ·rw [World.putObj_heap_other ω];exact G1.block B hB ho hl hgh
     ·obtain ⟨cs1,e1,fz1,c1,c2⟩:=G1.cells B cs e fz hg
      obtain ⟨cs2,e2,fz2,c3,c4⟩:=K2.cells B cs1 e1 fz1 c1
      exact ⟨cs2,e2,fz2,c3,ω⟩
    refine ⟨μ,.inl ⟨D,_,rfl,run_takeDeferred k1,ih _ hn2 (fun D' hD'=> ?_) R2 G3 (fun t=>(V1 t).keep K2)⟩⟩
    obtain ⟨m1,m2,m3⟩:=hD D' (by simp [hD'])
    exact ⟨by rw [World.putObj_heap_other (by rintro rfl;exact hn1 hD')];exact m1,m2,m3⟩
  exact key Ds w' hnd hD R' G' F'.regs
 unfold retX at hq
 cases o with
 | exit id=>exact hq.elim
 | norm=>obtain ⟨x,hx,hq⟩:=hq;exact fin x hx hq
 | ret=>obtain ⟨x,hx,hq⟩:=hq;exact fin x hx hq
theorem CSem.mono {f:FuncId} {args:List AV} {Q Q':AV→Heap→Prop} (hc:CSem P f args h Q) (hq:∀ x h',Q x h'→Q' x h'):CSem P f args h Q':=by
 refine ⟨hc.1,fun I ρ w cargs R ha=>(hc.2 I ρ w cargs R ha).mono ?_⟩
 rintro e w' ⟨v,x,h',I', ρ',a1,a2,a3,a4,a5⟩
 exact ⟨v,x,h',I', ρ',a1,hq _ _ a2,a3,a4,a5⟩
theorem Xy {op:Op} {K K':AV→Heap→Prop} {r:Regs} {h:Heap} (hk:∀ v h',K v h'→K' v h') (hq:spO P op K r h):spO P op K' r h:=by
 unfold spO at hq ⊢
 split at hq
 ·obtain ⟨t,v,f,vs,e1,e2,e3,hc⟩:=hq
  exact ⟨t,v,f,vs,e1,e2,e3,hc.mono hk⟩
 ·exact Ag7 hk hq
def mapL (f:AV→Option AV):List AV→Option (List AV)
 | []=>some []
 | x :: l=>match f x,mapL f l with
  | some y,some ys=>some (y :: ys)
  | _,_=>none
def snap (h:Heap) (al:Bool):Nat→AV→Option AV
 | 0,_=>none
 | k+1,x=>match x with
  | .bool _ | .int _ _ | .str _ | .nilPtr | .nilFn | .nilIf | .nilMap=>some x
  | .nilSl | .emp=>some (.vec 0 [])
  | .vec n xs=>if n=0∧xs=[] then some (.vec 0 []) else if al=true then match mapL (snap h al k) xs with
   | some ys=>some (.vec n ys)
   | none=>none
   else none
  | .sl b off len _ z=>if len=0 then some (.vec 0 []) else match h.get b with
   | some cs=>match takeN cs off (len * z) with
    | some xs=>match mapL (snap h al k) xs with
     | some ys=>some (.vec len ys)
     | none=>none
    | none=>none
   | none=>none
  | .agg xs=>match mapL (snap h al k) xs with
   | some ys=>some (.agg ys)
   | none=>none
  | .tup xs=>match mapL (snap h al k) xs with
   | some ys=>some (.tup ys)
   | none=>none
  | .iface t v=>match snap h al k v with
   | some y=>some (.iface t y)
   | none=>none
  | .fn f xs zs=>match mapL (snap h al k) xs,mapL (snap h al k) zs with
   | some ys,some us=>some (.fn f ys us)
   | _,_=>none
  | _=>none
abbrev Gn:BMap:=fun _=>none
theorem Ss {f:AV→Option AV} : ∀ {xs ys:List AV},mapL f xs=some ys→xs.length=ys.length∧∀ (i:Nat) (x:AV),xs[i]? = some x→∃ y,ys[i]? = some y∧f x=some y
 | [],ys,h=>by cases h;exact ⟨rfl,μ⟩
 | x :: l,ys,h=>by
  unfold mapL at h
  split at h
  ·rename_i y zs h1 h2
   cases h
   obtain ⟨g1,g2⟩:=Ss h2
   refine ⟨by simp [g1],fun i u hu=> ?_⟩
   cases i with
   | zero=>simp at hu;subst hu;exact ⟨y,rfl,h1⟩
   | succ i=>simpa using g2 i u (by simpa using hu)
  ·cases h
def A0q (al:Bool) (I:Nat→Prop) (ρ : BMap) (h:Heap):Nat→Prop:=fun B=>(al=true∧I B)∨C9 ρ h B
theorem Km {al:Bool} {k:Nat} (ih:∀ (x y:AV) (v:Value),snap h al k x=some y→VR w I ρ x v→VR w (A0q al I ρ h) Gn y v) {xs ys:List AV} (hm:mapL (snap h al k) xs=some ys) {vs:List Value}
  (hc:Cells w I ρ xs vs):Cells w (A0q al I ρ h) Gn ys vs:=by
 obtain ⟨h1,h2⟩:=Ss hm
 refine ⟨by rw [hc.len,h1],fun i y v hy hv=> ?_⟩
 have hi:i < xs.length:=by rw [h1];exact (List.getElem?_eq_some_iff.1 hy).1
 obtain ⟨y',hy',hs⟩:=h2 i xs[i] (List.getElem?_eq_getElem hi)
 rw [hy] at hy';cases hy'
 exact ih _ _ _ hs (hc.ok i xs[i] v (List.getElem?_eq_getElem hi) hv)
theorem A2d {al:Bool} (R:Rel I ρ w h):∀ (k:Nat) (x y:AV) (v:Value),snap h al k x=some y→VR w I ρ x v→VR w (A0q al I ρ h) Gn y v:=by
 intro k
 induction k with
 | zero=>intro x y v hs;cases hs
 | succ k ih =>
  intro x y v hs hv
  cases hv with
  | bool b=>cases hs;exact .bool b
  | int k n=>cases hs;exact .int k n
  | str s=>cases hs;exact .str s
  | nilSl=>cases hs;exact .vecN
  | emp a=>cases hs;exact .vec0 a 0
  | vec0 a cap=>simp only [snap] at hs;simp at hs;subst hs;exact .vec0 a cap
  | vecN=>simp only [snap] at hs;simp at hs;subst hs;exact .vecN
  | vec len xs B o cap cs e fz vs hI hg hl hc hv =>
   simp only [snap] at hs
   split at hs
   ·rename_i h0;obtain ⟨rfl,rfl⟩:=h0;cases hs;exact .vec0 _ cap
   ·split at hs
    ·rename_i hal
     subst hal
     split at hs
     ·rename_i ys hm
      cases hs
      obtain ⟨h1,h2⟩:=Ss hm
      refine .vec len ys B o cap cs e fz vs (.inl ⟨rfl,hI⟩) hg hl (fun i hi=>hc i ω) (fun i hi=> ?_)
      obtain ⟨y',hy',hs'⟩:=h2 i xs[i] (List.getElem?_eq_getElem ω)
      rw [List.getElem?_eq_getElem hi] at hy';cases hy'
      exact ih _ _ _ hs' (hv i ω)
     ·cases hs
    ·cases hs
  | sl b off len cap z B o o' C cs e fz hρ ho hl hC hg hsz =>
   simp only [snap] at hs
   split at hs
   ·rename_i h0;subst h0;cases hs;exact .vec0 _ C
   ·rename_i h0
    split at hs
    ·rename_i cells hgb
     split at hs
     ·rename_i xs ht
      split at hs
      ·rename_i ys hm
       cases hs
       obtain ⟨hn,rfl⟩:=Ef ht
       obtain ⟨ds,e',fz',k1,k2,k3⟩:=R.cont b cells B o hgb hρ
       have:=ho ω
       subst this
       have hr:=(k3.drop off).take (len * z)
       obtain ⟨h1,h2⟩:=Ss hm
       have hsel:∀ i,i < ys.length→∃ u,ds[o+off+i]? = some u∧∃ (hi:i < ((cells.drop off).take (len * z)).length),VR w I ρ ((cells.drop off).take (len * z))[i] u:=by
        intro i hi
        have hi':i < ((cells.drop off).take (len * z)).length:=by omega
        obtain ⟨u,u1,u2⟩:=hr i _ (List.getElem?_eq_getElem hi')
        exact ⟨u,u1,hi',u2⟩
       refine .vec len ys B (o+off) C ds e' fz' (fun i=>ds[o+off+i]?.getD undef) (.inr ⟨b,cells,o,hgb,hρ⟩) k1 ω (fun i hi=> ?_) (fun i hi=> ?_)
       ·obtain ⟨u,u1,_⟩:=hsel i hi
        rw [u1];rfl
       ·obtain ⟨u,u1,hi',u2⟩:=hsel i hi
        rw [u1]
        obtain ⟨y',hy',hs'⟩:=h2 i _ (List.getElem?_eq_getElem hi')
        rw [List.getElem?_eq_getElem hi] at hy';cases hy'
        exact ih _ _ _ hs' u2
      ·cases hs
     ·cases hs
    ·cases hs
  | nilPtr=>cases hs;exact .nilPtr
  | ptr b off B o hρ => cases hs
  | ipt xs B o cs e fz vs hI hg hc hv=>cases hs
  | fn f xs zs us vs hx hy h1 h2 =>
   simp only [snap] at hs
   split at hs
   ·rename_i ys qs e1 e2
    cases hs
    have c1:=Km ih e1 (Cells.Kg hx h1)
    have c2:=Km ih e2 (Cells.Kg hy h2)
    have a1:=c1.arr
    have a2:=c2.arr
    exact .fn f ys qs us vs (by simpa using a1.1) (by simpa using a2.1) (by simpa using a1.2) (by simpa using a2.2)
   ·cases hs
  | nilFn=>cases hs;exact .nilFn
  | nilIf=>cases hs;exact .nilIf
  | iface t x v hv =>
   simp only [snap] at hs
   split at hs
   ·rename_i y' e1;cases hs;exact .iface t y' v (ih _ _ _ e1 hv)
   ·cases hs
  | agg xs vs hx h1 =>
   simp only [snap] at hs
   split at hs
   ·rename_i ys e1
    cases hs
    have a1:=(Km ih e1 (Cells.Kg hx h1)).arr
    exact .agg ys vs (by simpa using a1.1) (by simpa using a1.2)
   ·cases hs
  | tup xs vs hx h1 =>
   simp only [snap] at hs
   split at hs
   ·rename_i ys e1
    cases hs
    have a1:=(Km ih e1 (Cells.Kg hx h1)).arr
    exact .tup ys vs (by simpa using a1.1) (by simpa using a1.2)
   ·cases hs
  | nilMap=>cases hs;exact .nilMap
  | yld l=>cases hs
  | gmp b=>cases hs
  | gpt b=>cases hs
def As (P:Program) (f:FuncId) (args:List AV) (x:AV):Prop :=
 isFn P f=true∧∀ (I:Nat→Prop) (w:World) (cargs:List Value),(∀ B,I B→B < w.heap.size)→Cells w I Gn args cargs →
  Calls P f cargs.toArray w fun e w'=> ∃ v,e = .returned v∧Below w.heap.size w w'∧VR w' (fun B=>w.heap.size≤B∧B < w'.heap.size) Gn x v
theorem Rel.empty (hI:∀ B,I B→B < w.heap.size):Rel I Gn w Heap.empty :=
 ⟨fun k x h=>(by cases h),fun k cells B o hg hk=>(by cases hk),fun k k' c c' B o o' _ _ hk=>(by cases hk),fun B hB=>⟨hI B hB,fun ⟨k,cs,o,_,hk⟩=>(by cases hk)⟩⟩
theorem RelL.empty (hI:∀ B,I B→B < w.heap.size):RelL I Gn w Heap.empty:=RelL.Ajv (Rel.empty hI) rfl (fun _=>rfl)
theorem Sh {B:Nat} : ¬LpAt Heap.empty B:=fun ⟨lp,h1,_⟩=>(by cases h1)
theorem Sj {B:Nat} : ¬GhAt Heap.empty B:=fun ⟨g,h1⟩=>(by cases h1)
theorem G7 (B:Nat):¬C9 Gn Heap.empty B:=fun ⟨k,cs,o,_,hk⟩=>(by cases hk)
theorem As.Ba {f:FuncId} {args:List AV} {x:AV} {k:Nat} (hc:CSem P f args Heap.empty fun x' h'=>snap h' false k x'=some x):As P f args x:=by
 refine ⟨hc.1,fun I w cargs hI ha=>(hc.2 I Gn w cargs (RelL.empty hI) ha).mono ?_⟩
 rintro e w' ⟨v,x',h',I', ρ',rfl,hs,R',hv,G⟩
 refine ⟨v,rfl,⟨G.os,G.tape,G.output,G.size,fun B hB=>G.block B hB (G7 B) Sh Sj⟩,?_⟩
 have:=A2d (al:=false) R'.rel k x' x v hs hv
 refine this.keep ⟨fun B hB=> ?_,fun _ _ h=>h,fun B cs e fz hg=>⟨cs,e,fz,hg,rfl⟩⟩
 rcases hB with ⟨h0,_⟩|hB
 ·cases h0
 ·have h1:=(G.owned B hB).resolve_left (G7 B)
  exact ⟨⟨h1,C9.lt R'.rel hB⟩,rfl⟩
theorem A5f {k:Nat} (R:Rel I ρ w h) {args args':List AV} (hs:mapL (snap h true k) args=some args') {cargs:List Value} (hc:Cells w I ρ args cargs) :
  (∀ B,A0q true I ρ h B→B < w.heap.size)∧Cells w (A0q true I ρ h) Gn args' cargs:=by
 refine ⟨fun B hB=> ?_,Km (A2d R k) hs hc⟩
 rcases hB with ⟨_,h1⟩|h1
 ·exact (R.imm B h1).1
 ·exact C9.lt R h1
theorem As.call {f:FuncId} {args args':List AV} {x:AV} (hp:As P f args' x) {k:Nat} (hs:mapL (snap h true k) args=some args'):CSem P f args h fun x' h'=>x'=x∧h'=h:=by
 refine ⟨hp.1,fun I ρ w cargs R hc=> ?_⟩
 obtain ⟨h1,h2⟩:=A5f R.rel hs hc
 refine (hp.2 _ w cargs h1 h2).mono ?_
 rintro e w' ⟨v,rfl,hb,hv⟩
 obtain ⟨R',G⟩:=R.below hb
 have hown:∀ B,C9 ρ h B→B < w.heap.size:=fun B=>C9.lt R.rel
 have K:E7 (fun B=>w.heap.size≤B∧B < w'.heap.size) Gn w' (fun B=>I B∨(w.heap.size≤B∧B < w'.heap.size)) ρ w' :=
  ⟨fun B hB=>⟨.inr hB,rfl⟩,fun _ _ h=>(by cases h),fun B cs e fz hg=>⟨cs,e,fz,hg,rfl⟩⟩
 have K2:E7 I ρ w' (fun B=>I B∨(w.heap.size≤B∧B < w'.heap.size)) ρ w' :=
  ⟨fun B hB=>⟨.inl hB,rfl⟩,fun _ _ h=>h,fun B cs e fz hg=>⟨cs,e,fz,hg,rfl⟩⟩
 refine ⟨v,x,h,fun B=>I B∨(w.heap.size≤B∧B < w'.heap.size), ρ,rfl,⟨rfl,rfl⟩,⟨⟨R'.rel.dom,fun k cells B o hg hk=> ?_,R'.rel.inj,fun B hB=> ?_⟩,fun lp hl=> ?_,fun B g hg=> ?_⟩,hv.keep K,
  ⟨G.os,G.tape,G.output,G.size,G.next,fun _ h=> .inl h,G.map,G.block,G.cells,G.owned,fun B hB=>hB.imp id (·.1),G.lp,G.gh⟩⟩
 ·obtain ⟨cs,e,fz,g1,g2,g3⟩:=R'.rel.cont k cells B o hg hk
  exact ⟨cs,e,fz,g1,g2,g3.keep K2⟩
 ·rcases hB with hB|hB
  ·exact R'.rel.imm B hB
  ·exact ⟨hB.2,fun ho=>by have:=hown B ho;omega⟩
 ·obtain ⟨⟨fn,tmps,D',k1,k3,k4,k5,k6⟩,k7⟩:=R.lp lp hl
  have k1':w'.heap[lp.id]? = some (.loop (lp.loop fn tmps D')):=by rw [hb.block _ (Ce k1)];exact k1
  refine ⟨⟨fn,tmps,D',k1',fun t=>((k3 t).keep (G.keeps R)).keep K2,k4,k5,k6⟩,fun hi=> ?_⟩
  rcases hi with hi|hi
  ·exact k7 hi
  ·have:=Ce k1;omega
 ·obtain ⟨j1,j2⟩:=R.gh B g hg
  refine ⟨(j1.step (G.keeps R) (hb.block _ j1.lt)).step K2 rfl,fun hi=> ?_,j2.2⟩
  rcases hi with hi|hi
  ·exact j2.1 hi
  ·have:=j1.lt;omega
def rigL (f:AV→Option Value):List AV→Option (List Value)
 | []=>some []
 | x :: l=>match f x,rigL f l with
  | some y,some ys=>some (y :: ys)
  | _,_=>none
def rig:Nat→AV→Option Value
 | 0,_=>none
 | k+1,x=>match x with
  | .bool b=>some (.bool b)
  | .int i n=>some (.int i n)
  | .str s=>some (.string s)
  | .nilSl=>some (.slice none 0 0)
  | .nilPtr=>some (.pointer none)
  | .nilIf=>some .nilIface
  | .agg xs=>(rigL (rig k) xs).map fun l=> .agg l.toArray
  | .tup xs=>(rigL (rig k) xs).map fun l=> .tuple l.toArray
  | _=>none
theorem Tu:∀ (k:Nat) (x:AV) (v:Value),rig k x=some v→(∀ (w:World) (I:Nat→Prop) (ρ : BMap),VR w I ρ x v)∧∀ (w:World) (I:Nat→Prop) (ρ : BMap) (u:Value),VR w I ρ x u→u=v:=by
 intro k
 induction k with
 | zero=>intro x v h;cases h
 | succ k ih =>
  have lists:∀ (xs:List AV) (vs:List Value),rigL (rig k) xs=some vs→(∀ (w:World) (I:Nat→Prop) (ρ : BMap),Cells w I ρ xs vs)∧∀ (w:World) (I:Nat→Prop) (ρ : BMap) (us:List Value),Cells w I ρ xs us→us=vs:=by
   intro xs
   induction xs with
   | nil=>intro vs h;cases h;exact ⟨fun _ _ _=>Cells.nil,fun _ _ _ us hc=>List.eq_nil_of_length_eq_zero (by simpa using hc.len)⟩
   | cons x l ihl =>
    intro vs h
    unfold rigL at h
    split at h
    ·rename_i y ys h1 h2
     cases h
     obtain ⟨a1,a2⟩:=ih x y h1
     obtain ⟨b1,b2⟩:=ihl ys h2
     refine ⟨fun w I ρ => Cells.cons (a1 w I ρ) (b1 w I ρ),fun w I ρ us hc=> ?_⟩
     match us,hc.len,hc with
     | u :: us,_,hc =>
      have e1:=a2 w I ρ u (hc.ok 0 x u rfl rfl)
      have e2:=b2 w I ρ us ⟨by have:=hc.len;simpa using this,fun i z v hz hv=>hc.ok (i+1) z v (by simpa using hz) (by simpa using hv)⟩
      rw [e1,e2]
    ·cases h
  intro x v h
  cases x<;>simp only [rig] at h<;>try (cases h;done)
  case bool b=>cases h;exact ⟨fun _ _ _=> .bool b,fun _ _ _ u hu=>by cases hu;rfl⟩
  case int i n=>cases h;exact ⟨fun _ _ _=> .int i n,fun _ _ _ u hu=>by cases hu;rfl⟩
  case str s=>cases h;exact ⟨fun _ _ _=> .str s,fun _ _ _ u hu=>by cases hu;rfl⟩
  case nilSl=>cases h;exact ⟨fun _ _ _=> .nilSl,fun _ _ _ u hu=>by cases hu;rfl⟩
  case nilPtr=>cases h;exact ⟨fun _ _ _=> .nilPtr,fun _ _ _ u hu=>by cases hu;rfl⟩
  case nilIf=>cases h;exact ⟨fun _ _ _=> .nilIf,fun _ _ _ u hu=>by cases hu;rfl⟩
  case agg xs =>
   cases hl:rigL (rig k) xs with
   | none=>rw [hl] at h;cases h
   | some vs =>
    rw [hl] at h;cases h
    obtain ⟨a1,a2⟩:=lists xs vs hl
    refine ⟨fun w I ρ => (a1 w I ρ).agg,fun w I ρ u hu=> ?_⟩
    obtain ⟨us,rfl,hc⟩:=Cells.Tq hu
    rw [←a2 w I ρ _ hc]
  case tup xs =>
   cases hl:rigL (rig k) xs with
   | none=>rw [hl] at h;cases h
   | some vs =>
    rw [hl] at h;cases h
    obtain ⟨a1,a2⟩:=lists xs vs hl
    refine ⟨fun w I ρ => .tup xs _ (a1 w I ρ).arr.1 (a1 w I ρ).arr.2,fun w I ρ u hu=> ?_⟩
    obtain ⟨us,rfl,hc⟩:=Cells.A27 hu
    rw [←a2 w I ρ _ hc]
end
inductive Tg {α:Sort _} (a:α):Type where
 | mk
def En (o:Option (AV×Heap)) (K:AV→Heap→Prop) (_:Tg K:= .mk):Prop:= ∃ v h',o=some (v,h')∧K v h'
def Has {α:Type} (o:Option α) (K:α→Prop) (_:Tg K:= .mk):Prop:= ∃ v,o=some v∧K v
@[congr] theorem En.congr {o o':Option (AV×Heap)} {K:AV→Heap→Prop} (e:o=o'):En o K=En o' K:=by rw [e]
@[congr] theorem Has.congr {α:Type} {o o':Option α} {K:α→Prop} (e:o=o'):Has o K=Has o' K:=by rw [e]
@[simp] theorem Y6 (v:AV) (h:Heap) (K:AV→Heap→Prop):En (some (v,h)) K=K v h:=by
 simp only [En,Option.some.injEq,Prod.mk.injEq]
 exact propext ⟨fun ⟨_,_,⟨a,b⟩,k⟩=>by subst a;subst b;exact k,fun k=>⟨_,_,⟨rfl,rfl⟩,k⟩⟩
@[simp] theorem Cy {α:Type} (v:α) (K:α→Prop):Has (some v) K=K v:=by
 simp only [Has,Option.some.injEq]
 exact propext ⟨fun ⟨_,a,k⟩=>by subst a;exact k,fun k=>⟨_,rfl,k⟩⟩
@[simp] theorem Age {α:Type} (K:α→Prop):Has none K=False:=by simp [Has]
@[simp] theorem Y7 (K:AV→Heap→Prop):En none K=False:=by simp [En]
@[simp] theorem Gives_ite (c:Prop) [Decidable c] (o:Option (AV×Heap)) (K:AV→Heap→Prop):En (if c then o else none) K=(c∧En o K):=by
 by_cases h:c<;>simp [h,En]
@[simp] theorem Has_ite {α:Type} (c:Prop) [Decidable c] (o:Option α) (K:α→Prop):Has (if c then o else none) K=(c∧Has o K):=by
 by_cases h:c<;>simp [h,Has]
@[simp] theorem Acj {α:Type} (o:Option α) (f:α→AV×Heap) (K:AV→Heap→Prop):En (o.map f) K=Has o (fun a=>K (f a).1 (f a).2):=by
 cases o with
 | none=>simp
 | some a=>rw [Option.map_some,Cy];exact Y6 (f a).1 (f a).2 K
@[simp] theorem A83 {α:Type} (o:Option α) (f:α→Option (AV×Heap)) (K:AV→Heap→Prop):En (o.bind f) K=Has o (fun a=>En (f a) K):=by
 cases o<;>simp
@[simp] theorem Has_map {α β:Type} (o:Option α) (f:α→β) (K:β→Prop):Has (o.map f) K=Has o (fun a=>K (f a)):=by
 cases o<;>simp
@[simp] theorem Has_bind {α β:Type} (o:Option α) (f:α→Option β) (K:β→Prop):Has (o.bind f) K=Has o (fun a=>Has (f a) K):=by
 cases o<;>simp
def Tx (o:Option (AV×Heap)) (K:AV→Heap→Prop):Prop:= ∃ v h',o=some (v,h')∧K v h'
def Has0 {α:Type} (o:Option α) (K:α→Prop):Prop:= ∃ v,o=some v∧K v
theorem By (o:Option (AV×Heap)) (K:AV→Heap→Prop) (t:Tg K):En o K t=Tx o K:=rfl
theorem Cs {α:Type} (o:Option α) (K:α→Prop) (t:Tg K):Has o K t=Has0 o K:=rfl
theorem Bb {α:Type} (o:Option α) (f:α→AV×Heap) (K:AV→Heap→Prop):Tx (o.map f) K=Has0 o (fun a=>K (f a).1 (f a).2):=Acj o f K
theorem Bg {α:Type} (o:Option α) (f:α→Option (AV×Heap)) (K:AV→Heap→Prop):Tx (o.bind f) K=Has0 o (fun a=>Tx (f a) K):=A83 o f K
@[simp] theorem Has0_some {α:Type} (v:α) (K:α→Prop):Has0 (some v) K=K v:=Cy v K
@[simp] theorem Has0_none {α:Type} (K:α→Prop):Has0 none K=False:=Age K
@[simp] theorem Akx (v:AV) (h:Heap) (K:AV→Heap→Prop):Tx (some (v,h)) K=K v h:=Y6 v h K
@[simp] theorem Aky (K:AV→Heap→Prop):Tx none K=False:=Y7 K
def intT (P:Program) (t:TypeId):Option IntKind:=match P.underlying t with
 | some (.int k)=>some k
 | _=>none
def elT (P:Program) (t:TypeId):Option TypeId:=match P.underlying t with
 | some (.slice e)=>some e
 | _=>none
def strT (P:Program) (t:TypeId):Bool:=match P.underlying t with
 | some .string=>true
 | _=>false
theorem Mx {P:Program} {t:TypeId} {k:IntKind} (h:intT P t=some k):P.underlying t=some (.int k):=by
 unfold intT at h
 split at h
 ·cases h;assumption
 ·cases h
theorem Bu {P:Program} {t:TypeId} {k:TypeId} (h:elT P t=some k):P.underlying t=some (.slice k):=by
 unfold elT at h
 split at h
 ·cases h;assumption
 ·cases h
theorem Lh {P:Program} {t:TypeId} (h:strT P t=true):P.underlying t=some .string:=by
 unfold strT at h
 split at h
 ·assumption
 ·cases h
def Fork (b:Bool) (A B:Prop) (_:Tg A:= .mk) (_:Tg B:= .mk):Prop:=(b=true→A)∧(b=false→B)
@[congr] theorem Fork.congr {b b':Bool} {A B:Prop} (e:b=b'):Fork b A B=Fork b' A B:=by rw [e]
@[simp] theorem Fork_true (A B:Prop):Fork true A B=A:=by simp [Fork]
@[simp] theorem Fork_false (A B:Prop):Fork false A B=B:=by simp [Fork]
theorem Fork.split {b:Bool} {A B:Prop} (h1:b=true→A) (h2:b=false→B):Fork b A B:=⟨h1,h2⟩
def Call (P:Program) (f:FuncId) (args:List AV) (h:Heap) (Q:AV→Heap→Prop) (_:Tg Q:= .mk):Prop:=CSem P f args h Q
theorem Call.of {P:Program} {f:FuncId} {args:List AV} {h:Heap} {Q:AV→Heap→Prop} (hc:CSem P f args h Q):Call P f args h Q:=hc
def A0w (P:Program) (l:Nat) (args:List AV) (h:Heap) (Q:AV→Heap→Prop) (_:Tg Q:= .mk):Prop:=YSem P l args h Q
def wpI (P:Program) (op:Op) (dst:Option Tmp) (K:Regs→Heap→Prop) (r:Regs) (h:Heap):Prop :=
 match Ay r op with
 | some (some (g,vs))=>Call P g vs h fun v h'=>K (Av r dst v) h'
 | some none=> ∃ l vs,yldX r op=some (l,vs)∧A0w P l vs h fun v h'=>K (Av r dst v) h'
 | none=>En (opB P r h op) (fun v h'=>K (Av r dst v) h')∨spO P op (fun v h'=>K (Av r dst v) h') r h
section
variable {P:Program} {ops:Array Oper} {K:Regs→Heap→Prop} {r r':Regs} {h h':Heap} {rest:List Oper} {dst:Option Tmp} {op:Op} {type:TypeId} {pos:String} {after:Array Edge}
@[congr] theorem wpI_congr (e1:r=r') (e2:h=h'):wpI P op dst K r h=wpI P op dst K r' h':=by rw [e1,e2]
@[congr] theorem wpOs_congr {l:List Oper} (e1:r=r') (e2:h=h'):wpOs P ops K l r h=wpOs P ops K l r' h':=by rw [e1,e2]
@[congr] theorem wpc_congr {c:Code} {Q:Out→Regs→Heap→Prop} (e1:r=r') (e2:h=h'):wpc P c Q r h=wpc P c Q r' h':=by rw [e1,e2]
@[congr] theorem Call_congr {f:FuncId} {args args':List AV} {Q:AV→Heap→Prop} (e1:args=args') (e2:h=h'):Call P f args h Q=Call P f args' h' Q:=by rw [e1,e2]
@[congr] theorem Akz {l:Nat} {args args':List AV} {Q:AV→Heap→Prop} (e1:args=args') (e2:h=h'):A0w P l args h Q=A0w P l args' h' Q:=by rw [e1,e2]
@[congr] theorem Am0 {F:(Out→Regs→Heap→Prop)→Regs→Heap→Prop} {Q:Out→Regs→Heap→Prop} {n:Nat} (e1:r=r') (e2:h=h'):U9 F Q n r h=U9 F Q n r' h':=by rw [e1,e2]
@[congr] theorem retX_congr {rs:List ResultVar} {Q:AV→Heap→Prop} {o:Out} (e1:r=r') (e2:h=h'):retX P rs Q o r h=retX P rs Q o r' h':=by rw [e1,e2]
@[simp] theorem Aep:wpOs P ops K [] r h=K r h:=rfl
@[simp] theorem Pq:wpOs P ops K (⟨dst,op,type,pos,after,none⟩ :: rest) r h=wpI P op dst (wpOs P ops K rest) r h:=by
 apply propext
 simp only [wpOs,Ch,wpO,wpI,En,Call,A0w]
 constructor
 ·rintro ⟨b,hb,h1,h2⟩
  cases hb
  exact h1 rfl
 ·intro h1
  exact ⟨true,rfl,fun _=>h1,fun e=>by cases e⟩
@[simp] theorem wpOs_guard {j:Nat} {want:Bool} : wpOs P ops K (⟨dst,op,type,pos,after,some (j,want)⟩ :: rest) r h =
  Has (Ch ops r ⟨dst,op,type,pos,after,some (j,want)⟩) (fun b=>Fork b (wpI P op dst (wpOs P ops K rest) r h) (wpOs P ops K rest (Av r dst (.tup [])) h)):=by
 rfl
@[simp] theorem wpI_move {x:Operand} : wpI P (.move x) dst K r h=Has (Ae r x) fun v=>K (Av r dst v) h:=by
 simp only [wpI,Ay,opB,spO,ghO,or_false,By,Cs,Bb,Bg]
@[simp] theorem A78 {x:Operand} : wpI P (.assign x) dst K r h=Has (Ae r x) fun v=>K (Av r dst v) h:=by
 simp only [wpI,Ay,opB,spO,ghO,or_false,By,Cs,Bb,Bg]
@[simp] theorem wpI_load {t:TypeId} {a:Operand} : wpI P (.load t a) dst K r h=Has (Ae r a) fun a=>Has (Fc P h t a) fun v=>K (Av r dst v) h:=by
 simp only [wpI,Ay,opB,spO,ghO,or_false,By,Cs,Bb,Bg]
@[simp] theorem wpI_store {t:TypeId} {a x:Operand} : wpI P (.store t a x) dst K r h=Has (Ae r a) fun a=>Has (Ae r x) fun v=>Has (Hh P h t a v) fun h'=>K (Av r dst (.tup [])) h':=by
 simp only [wpI,Ay,opB,spO,ghO,or_false,By,Cs,Bb,Bg]
@[simp] theorem wpI_bin {op:BinOp} {t t2:TypeId} {x y:Operand} : wpI P (.binOp op t x y t2) dst K r h=Has (Ae r x) fun x=>Has (Ae r y) fun y=>Has (binX P op t x y) fun v=>K (Av r dst v) h:=by
 simp only [wpI,Ay,opB,spO,ghO,or_false,By,Cs,Bb,Bg]
@[simp] theorem wpI_un {op:UnOp} {t:TypeId} {x:Operand} : wpI P (.unOp op t x) dst K r h=Has (Ae r x) fun x=>Has (unX op x) fun v=>K (Av r dst v) h:=by
 simp only [wpI,Ay,opB,spO,ghO,or_false,By,Cs,Bb,Bg]
@[simp] theorem wpI_conv {s d:TypeId} {x:Operand} : wpI P (.convert s d x) dst K r h=Has (Ae r x) fun x=>En (Kf P h s d x) fun v h'=>K (Av r dst v) h':=by
 simp only [wpI,Ay,opB,spO,ghO,or_false,By,Cs,Bb,Bg]
@[simp] theorem wpI_func {f:FuncId} {a b:Array Operand} : wpI P (.makeFunc (.func f) a b) dst K r h=Has (Bh r a.toList) fun a=>Has (Bh r b.toList) fun b=>K (Av r dst (.fn f a b)) h:=by
 simp only [wpI,Ay,opB,spO,ghO,or_false,By,Cs,Bb,Bg]
@[simp] theorem Agk {t:TypeId} {l c:Operand} : wpI P (.makeSlice t l c) dst K r h=Has (Ae r l) fun l=>Has (Ae r c) fun c=>En (Ee P h t l c) fun v h'=>K (Av r dst v) h':=by
 simp only [wpI,Ay,opB,spO,ghO,or_false,By,Cs,Bb,Bg]
@[simp] theorem wpI_slice {t:TypeId} {x:Operand} {lo hi mx:Option Operand} : wpI P (.slice t x lo hi mx) dst K r h=Has (Ae r x) fun x=>Has (optX r lo) fun lo=>Has (optX r hi) fun hi=>Has (optX r mx) fun mx=>Has (F9 P t x lo hi mx) fun v=>K (Av r dst v) h:=by
 simp only [wpI,Ay,opB,spO,ghO,or_false,By,Cs,Bb,Bg]
@[simp] theorem Agm {t:TypeId} {x:Operand} {f:Nat} : wpI P (.fieldAddr t x f) dst K r h=Has (Ae r x) fun x=>Has (A8 P t x f) fun v=>K (Av r dst v) h:=by
 simp only [wpI,Ay,opB,spO,ghO,or_false,By,Cs,Bb,Bg]
@[simp] theorem wpI_field {t:TypeId} {x:Operand} {f:Nat} : wpI P (.field t x f) dst K r h=Has (Ae r x) fun x=>Has (K8 P t x f) fun v=>K (Av r dst v) h:=by
 simp only [wpI,Ay,opB,spO,ghO,or_false,By,Cs,Bb,Bg]
@[simp] theorem Agn {t:TypeId} {x i:Operand} : wpI P (.indexAddr t x i) dst K r h=Has (Ae r x) fun x=>Has (Ae r i) fun i=>Has (Bx P t x i) fun v=>K (Av r dst v) h:=by
 simp only [wpI,Ay,opB,spO,ghO,or_false,By,Cs,Bb,Bg]
@[simp] theorem wpI_index {t:TypeId} {x i:Operand} : wpI P (.index t x i) dst K r h=Has (Ae r x) fun x=>Has (Ae r i) fun i=>Has (Mk P t x i) fun v=>K (Av r dst v) h:=by
 simp only [wpI,Ay,opB,spO,ghO,or_false,By,Cs,Bb,Bg]
@[simp] theorem Am1 {x:Operand} {i:Nat} : wpI P (.extract x i) dst K r h=Has (Ae r x) fun x=>Has (Gv x i) fun v=>K (Av r dst v) h:=by
 simp only [wpI,Ay,opB,spO,ghO,or_false,By,Cs,Bb,Bg]
def Alc (z:AV) (K1:AV→Prop) (K2:Prop) (_:Tg K1:= .mk) (_:Tg K2:= .mk):Prop:=K1 z∨(z = .agg [.nilPtr,.nilSl]∧K2)
@[congr] theorem Alc.congr {z z':AV} {K1:AV→Prop} {K2:Prop} (e:z=z'):Alc z K1 K2=Alc z' K1 K2:=by rw [e]
theorem Alc.left {z:AV} {K1:AV→Prop} {K2:Prop} (h:K1 z):Alc z K1 K2:= .inl h
theorem Alc.right {K1:AV→Prop} {K2:Prop} (h:K2):Alc (.agg [.nilPtr,.nilSl]) K1 K2:= .inr ⟨rfl,h⟩
theorem Eg {z:AV} {K1:AV→Prop} {K2:Prop} (h:z≠.agg [.nilPtr,.nilSl]):Alc z K1 K2=K1 z:=by
 unfold Alc
 exact propext ⟨fun k=>k.elim id fun e=>(h e.1).elim,.inl⟩
section
variable {K1:AV→Prop} {K2:Prop}
@[simp] theorem Alc_int {k:IntKind} {n:Int} : Alc (.int k n) K1 K2=K1 (.int k n):=Eg μ
@[simp] theorem Alc_bool {b:Bool} : Alc (.bool b) K1 K2=K1 (.bool b):=Eg μ
@[simp] theorem Alc_str {b:ByteArray} : Alc (.str b) K1 K2=K1 (.str b):=Eg μ
@[simp] theorem Alc_nilPtr:Alc .nilPtr K1 K2=K1 .nilPtr:=Eg μ
@[simp] theorem Alc_nilSl:Alc .nilSl K1 K2=K1 .nilSl:=Eg μ
@[simp] theorem Alc_nilIf:Alc .nilIf K1 K2=K1 .nilIf:=Eg μ
@[simp] theorem Alc_nilFn:Alc .nilFn K1 K2=K1 .nilFn:=Eg μ
@[simp] theorem Alc_nilMap:Alc .nilMap K1 K2=K1 .nilMap:=Eg μ
@[simp] theorem Alc_agg0:Alc (.agg []) K1 K2=K1 (.agg []):=Eg μ
@[simp] theorem Alc_agg1 {x:AV} : Alc (.agg [x]) K1 K2=K1 (.agg [x]):=Eg μ
@[simp] theorem Alc_agg3 {x y z:AV} {l:List AV} : Alc (.agg (x :: y :: z :: l)) K1 K2=K1 (.agg (x :: y :: z :: l)):=Eg μ
@[simp] theorem Alc_aggi {k:IntKind} {n:Int} {l:List AV} : Alc (.agg (.int k n :: l)) K1 K2=K1 (.agg (.int k n :: l)):=Eg μ
@[simp] theorem Alc_aggs {s:ByteArray} {l:List AV} : Alc (.agg (.str s :: l)) K1 K2=K1 (.agg (.str s :: l)):=Eg μ
@[simp] theorem Alc_aggb {b:Bool} {l:List AV} : Alc (.agg (.bool b :: l)) K1 K2=K1 (.agg (.bool b :: l)):=Eg μ
@[simp] theorem Alc_agnl {l:List AV} : Alc (.agg (.nilSl :: l)) K1 K2=K1 (.agg (.nilSl :: l)):=Eg μ
theorem A85 {xs:List AV} (h:xs.length≠2):Alc (.agg xs) K1 K2=K1 (.agg xs):=Eg (fun e=>by cases e;exact h rfl)
@[simp] theorem Alc_agpi {k:IntKind} {n:Int} {l:List AV} : Alc (.agg (.nilPtr :: .int k n :: l)) K1 K2=K1 (.agg (.nilPtr :: .int k n :: l)):=Eg μ
end
@[simp] theorem wpI_alloc {e:TypeId} : wpI P (.alloc e) dst K r h=Has (B7 P e) fun z=>Alc z (fun z=>En (if z.cells.all AV.atom=true then some (.ptr h.next 0,h.alloc z.cells) else none) fun v h'=>K (Av r dst v) h')
  (∃ e',∀ B,h.gh B=none→K (Av r dst (.gpt B)) (h.setG B (.bld e e' [] none))):=by
 simp only [wpI,Ay,opB,spO,ghO,By,Cs,Bb,Bg]
 cases hz:B7 P e with
 | none=>simp [opX,hz]
 | some z =>
  simp only [Cy,Alc,Option.some.injEq,Has0,exists_eq_left']
@[simp] theorem wpI_box {e:TypeId} {x:Operand} : wpI P (.box e x) dst K r h=Has (Ae r x) fun z=>En (if z.cells.all AV.atom=true then some (.ptr h.next 0,h.alloc z.cells) else none) fun v h'=>K (Av r dst v) h':=by
 simp only [wpI,Ay,opB,spO,ghO,or_false,By,Cs,Bb,Bg]
@[simp] theorem wpI_build {t:TypeId} {ps:Array (Nat×Operand)} : wpI P (.build t ps) dst K r h=Has (Fw r ps.toList) fun ps=>Has (Ct P t ps) fun v=>K (Av r dst v) h:=by
 simp only [wpI,Ay,opB,spO,ghO,or_false,By,Cs,Bb,Bg]
@[simp] theorem Agf {t:TypeId} {n:Nat} {ps:Array (Nat×Operand)} : wpI P (.buildSlice t n ps) dst K r h=Has (Fw r ps.toList) fun ps=>En (C8 P h t n ps) fun v h'=>K (Av r dst v) h':=by
 simp only [wpI,Ay,opB,spO,ghO,or_false,By,Cs,Bb,Bg]
@[simp] theorem wpI_call {g:FuncId} {args:Array Operand} {ts:Array TypeId} : wpI P (.call ⟨.value (.func g),args,ts⟩) dst K r h=Has (Bh r args.toList) fun vs=>Call P g vs h fun v h'=>K (Av r dst v) h':=by
 simp only [wpI,Ay,Ae,yldX,spO,ghO,or_false]
 cases Bh r args.toList<;>simp
@[simp] theorem wpI_callv {t:Nat} {args:Array Operand} {ts:Array TypeId} : wpI P (.call ⟨.value (.tmp t),args,ts⟩) dst K r h =
  match rg r t with
  | .fn g a b=>Has (Bh r args.toList) fun vs=>Call P g (a ++ vs ++ b) h fun v h'=>K (Av r dst v) h'
  | .yld l=>Has (Bh r args.toList) fun vs=>A0w P l vs h fun v h'=>K (Av r dst v) h'
  | _=>False:=by
 simp only [wpI,Ay,Ae,yldX,spO,ghO,or_false]
 cases rg r t with
 | yld l =>
  cases Bh r args.toList with
  | none=>simp
  | some vs =>
   simp only [Cy]
   apply propext
   constructor
   ·rintro ⟨l',vs',e,k⟩;cases e;exact k
   ·intro k;exact ⟨l,vs,rfl,k⟩
 | _=>cases Bh r args.toList<;>simp
@[simp] theorem wpI_len {x:Operand} {t:TypeId} : wpI P (.call ⟨.builtin .len, #[x], #[t]⟩) dst K r h=Has (Ae r x) fun x=>Has (lenX P t x) fun v=>K (Av r dst v) h:=by
 simp only [wpI,Ay,opB,spO,ghO,or_false,By,Cs,Bb,Bg,Bh]
 cases Ae r x<;>simp [Bb]
@[simp] theorem wpI_append {s x:Operand} {t xt:TypeId} : wpI P (.call ⟨.builtin .append, #[s,x], #[t,xt]⟩) dst K r h=Has (Ae r s) fun s=>Has (Ae r x) fun x=>En (Bm P h t xt s x) fun v h'=>K (Av r dst v) h':=by
 simp only [wpI,Ay,opB,spO,ghO,or_false,By,Cs,Bb,Bg,Bh]
 cases Ae r s<;>cases Ae r x<;>simp
@[simp] theorem wpI_makeIf {t:TypeId} {x:Operand} : wpI P (.makeInterface t x) dst K r h=Has (Ae r x) fun v=>(Sa P t=true∧K (Av r dst (.iface t v)) h):=by
 simp only [wpI,Ay,opB,spO,ghO,or_false]
 cases Ae r x with
 | none=>simp
 | some v=>by_cases hc:Sa P t=true<;>simp [hc]
@[simp] theorem wpI_assert {x:Operand} {st t:TypeId} {ok:Bool} : wpI P (.typeAssert x st t ok) dst K r h=Has (Ae r x) fun v=>Has (Jc P t ok v) fun v=>K (Av r dst v) h:=by
 simp only [wpI,Ay,opB,spO,ghO,or_false,By,Cs,Bb,Bg]
@[simp] theorem wpI_clear {x:Operand} {t:TypeId} : wpI P (.call ⟨.builtin .clear, #[x], #[t]⟩) dst K r h=Has (Ae r x) fun x=>En (Qr P h t x) fun v h'=>K (Av r dst v) h':=by
 simp only [wpI,Ay,opB,spO,ghO,or_false,Bh]
 cases Ae r x<;>simp
@[simp] theorem wpI_copy {d s:Operand} {t t2:TypeId} : wpI P (.call ⟨.builtin .copy, #[d,s], #[t,t2]⟩) dst K r h=Has (Ae r d) fun d=>Has (Ae r s) fun s=>En (Rs P h t d s) fun v h'=>K (Av r dst v) h':=by
 simp only [wpI,Ay,opB,spO,ghO,or_false,Bh]
 cases Ae r d<;>cases Ae r s<;>simp
@[simp] theorem wpI_invoke {x:Operand} {m:String} {args:Array Operand} {ts:Array TypeId} : wpI P (.call ⟨.invoke x m,args,ts⟩) dst K r h=Has (Ae r x) fun v=>match v with
  | .iface t v=>Has (Bh r args.toList) fun vs=>Has (Zn P t m) fun f=>Call P f (v :: vs) h fun v h'=>K (Av r dst v) h'
  | _=>False:=by
 simp only [wpI,Ay,opB,spO,Y7,false_or]
 apply propext
 constructor
 ·rintro ⟨t,v,f,vs,e1,e2,e3,hc⟩
  rw [e1,Cy]
  simp only
  rw [e2,Cy,e3,Cy]
  exact hc
 ·intro hh
  cases e1:Ae r x with
  | none=>rw [e1] at hh;simp at hh
  | some q =>
   rw [e1,Cy] at hh
   cases q<;>first|exact hh.elim|skip
   rename_i t v
   simp only at hh
   cases e2:Bh r args.toList with
   | none=>rw [e2] at hh;simp at hh
   | some vs =>
    rw [e2,Cy] at hh
    cases e3:Zn P t m with
    | none=>rw [e3] at hh;simp at hh
    | some f =>
     rw [e3,Cy] at hh
     exact ⟨t,v,f,vs,rfl,rfl,e3,hh⟩
@[simp] theorem wpI_pick {c a b:Operand} : wpI P (.pick c a b) dst K r h=Has (Ae r c) fun c=>Has (Ae r a) fun a=>Has (Ae r b) fun b=>Has (match c with | .bool t=>some (if t then a else b)|_=>none) fun v=>K (Av r dst v) h:=by
 simp only [wpI,Ay,opB,spO,ghO,or_false,By,Cs,Bb,Bg]
 congr 1;funext c;congr 1;funext a;congr 1;funext b
 cases c<;>simp
@[simp] theorem Ajy {x:Operand} : wpI P (.nilCheck x) dst K r h=Has (Ae r x) fun x=>Has (match x with | .ptr b o=>some (AV.ptr b o) | .ipt xs=>some (.ipt xs)|_=>none) fun v=>K (Av r dst v) h:=by
 simp only [wpI,Ay,opB,spO,ghO,or_false,By,Cs,Bb,Bg]
 congr 1;funext c
 cases c<;>simp
@[simp] theorem wpc_skip {Q:Out→Regs→Heap→Prop} : wpc P .skip Q r h=Q .norm r h:=rfl
@[simp] theorem wpc_label {l:Nat} {Q:Out→Regs→Heap→Prop} : wpc P (.label l) Q r h=Q .norm r h:=rfl
@[simp] theorem X5 {id:Nat} {l:List Oper} {Q:Out→Regs→Heap→Prop} : wpc P (.region id l.toArray false) Q r h=wpOs P l.toArray (Q .norm) l r h:=rfl
@[simp] theorem wpc_exit {id:Nat} {Q:Out→Regs→Heap→Prop} : wpc P (.exit id) Q r h=Q (.exit id) r h:=rfl
@[simp] theorem wpc_ret {Q:Out→Regs→Heap→Prop} : wpc P .ret Q r h=Q .ret r h:=rfl
@[simp] theorem wpc_scope {b:Code} {Q:Out→Regs→Heap→Prop} : wpc P (.scope b) Q r h=wpc P b Q r h:=rfl
@[simp] theorem wpc_cond {c:Operand} {a b:Code} {Q:Out→Regs→Heap→Prop} : wpc P (.cond c a b) Q r h=Has (Ae r c) fun v=>Has (match v with | .bool t=>some t|_=>none) fun t=>Fork t (wpc P a Q r h) (wpc P b Q r h):=by
 show (∃ t,Ae r c=some (.bool t)∧_)=_
 apply propext
 cases Ae r c with
 | none=>simp
 | some v=>cases v<;>simp [Fork]
def Then (P:Program) (b:Code) (Q:Out→Regs→Heap→Prop):Out→Regs→Heap→Prop
 | .norm,r,h=>wpc P b Q r h
 | o,r,h=>Q o r h
def Blk (id:Nat) (Q:Out→Regs→Heap→Prop):Out→Regs→Heap→Prop
 | .exit i,r,h=>if i=id then Q .norm r h else Q (.exit i) r h
 | o,r,h=>Q o r h
@[simp] theorem Eb {a b:Code} {Q:Out→Regs→Heap→Prop} : wpc P (.seq a b) Q r h=wpc P a (Then P b Q) r h:=by
 show wpc P a _ r h=_
 congr 1
 funext o;cases o<;>rfl
@[simp] theorem wpc_block {id:Nat} {b:Code} {Q:Out→Regs→Heap→Prop} : wpc P (.block id b) Q r h=wpc P b (Blk id Q) r h:=by
 show wpc P b _ r h=_
 congr 1
 funext o;cases o<;>rfl
@[simp] theorem Td {b:Code} {Q:Out→Regs→Heap→Prop} : Then P b Q .norm r h=wpc P b Q r h:=rfl
@[simp] theorem Then_exit {b:Code} {Q:Out→Regs→Heap→Prop} {i:Nat} : Then P b Q (.exit i) r h=Q (.exit i) r h:=rfl
@[simp] theorem Then_ret {b:Code} {Q:Out→Regs→Heap→Prop} : Then P b Q .ret r h=Q .ret r h:=rfl
@[simp] theorem Blk_norm {id:Nat} {Q:Out→Regs→Heap→Prop} : Blk id Q .norm r h=Q .norm r h:=rfl
@[simp] theorem Agp {id:Nat} {Q:Out→Regs→Heap→Prop} : Blk id Q (.exit id) r h=Q .norm r h:=by simp [Blk]
@[simp] theorem Blk_exit {id i:Nat} {Q:Out→Regs→Heap→Prop} (hne:i≠id):Blk id Q (.exit i) r h=Q (.exit i) r h:=by simp [Blk,hne]
@[simp] theorem Blk_ret {id:Nat} {Q:Out→Regs→Heap→Prop} : Blk id Q .ret r h=Q .ret r h:=rfl
@[congr] theorem Then_congr {b:Code} {Q:Out→Regs→Heap→Prop} {o:Out} (e1:r=r') (e2:h=h'):Then P b Q o r h=Then P b Q o r' h':=by rw [e1,e2]
@[congr] theorem Blk_congr {id:Nat} {Q:Out→Regs→Heap→Prop} {o:Out} (e1:r=r') (e2:h=h'):Blk id Q o r h=Blk id Q o r' h':=by rw [e1,e2]
@[simp] theorem retX_ret {rs:List ResultVar} {Q:AV→Heap→Prop} : retX P rs Q .ret r h=Has (resX P rs r h) (fun x=>Q x h):=rfl
@[simp] theorem retX_norm {rs:List ResultVar} {Q:AV→Heap→Prop} : retX P rs Q .norm r h=Has (resX P rs r h) (fun x=>Q x h):=rfl
theorem YSem.of (hm:P.follows .mixedOrders=true) {id:Nat} {q:Regs} {ps:Array Tmp} {as bd:Code} (hl:h.lp=some ⟨id,.ready,q,ps,as,bd⟩) {vs:List AV} (hsz:vs.length=ps.size) {K:AV→Heap→Prop}
  (hw:wpc P as (fun o r1 h1=>o = .norm∧h1.lp=some ⟨id,.ready,q,ps,as,bd⟩∧wpc P bd (Qx ⟨id,.ready,q,ps,as,bd⟩ K) r1 (h1.Bp (some ⟨id,.busy,q,ps,as,bd⟩))) (A0v ps.toList vs q) h):A0w P id vs h K :=
 YSem.Agb (A9n hm) hl rfl hsz hw
theorem Aa5 {g:Operand} {ps:Array Tmp} {as bd:Code} {Q:Out→Regs→Heap→Prop} {gf:FuncId} {a b:List AV} (hl:h.lp=none) (he:Ae r g=some (.fn gf a b))
  (hc:∀ id,CSem P gf (a ++ [.yld id] ++ b) (h.Bp (some ⟨id,.ready,r,ps,as,bd⟩)) (Vu Q r)):wpc P (.rangeFunc g ps as bd) Q r h:=⟨hl,gf,a,b,he,hc⟩
@[simp] theorem Ha {l:Option Lp} {k:Nat} : (h.Bp l).get k=h.get k:=rfl
@[simp] theorem A36 {l:Option Lp} : (h.Bp l).next=h.next:=rfl
@[simp] theorem Jf {l:Option Lp} : (h.Bp l).lp=l:=rfl
@[simp] theorem Ye {l l':Option Lp} : (h.Bp l).Bp l'=h.Bp l':=rfl
@[simp] theorem A1d {l:Option Lp} {cs:List AV} : (h.Bp l).alloc cs=(h.alloc cs).Bp l:=rfl
@[simp] theorem A6y {l:Option Lp} {k:Nat} {cs:List AV} : (h.Bp l).put k cs=(h.put k cs).Bp l:=rfl
@[simp] theorem Am2 {l:Option Lp} {k:Nat} : (h.Bp l).kill k=(h.kill k).Bp l:=rfl
theorem Nk {l:Option Lp} (hl:h.lp=l):h.Bp l=h:=by subst hl;rfl
@[congr] theorem Ajz {lp:Lp} {K:AV→Heap→Prop} {o:Out} (e2:h=h'):Qx lp K o r h=Qx lp K o r' h':=by rw [e2];rfl
@[simp] theorem Am3 {lp:Lp} {K:AV→Heap→Prop} : Qx lp K .norm r h=(h.lp=some { lp with st:= .busy } ∧ K (.bool true) (h.Bp (some lp))):=rfl
@[simp] theorem roundQ_ret {lp:Lp} {K:AV→Heap→Prop} : Qx lp K .ret r h=(h.lp=some { lp with st:= .busy } ∧ K (.bool false) (h.Bp (some { lp with st:= .done .ret }))):=rfl
@[simp] theorem Am4 {lp:Lp} {K:AV→Heap→Prop} {i:Nat} : Qx lp K (.exit i) r h=(h.lp=some { lp with st:= .busy } ∧ K (.bool false) (h.Bp (some { lp with st:= .done (.exit i) }))):=rfl
@[simp] theorem rg_nil (t:Nat):rg .nil t = .tup []:=rfl
@[simp] theorem Ak0 {vs:List AV} {i:Nat} : Gv (.tup vs) i=vs[i]? := by simp only [Gv]
@[simp] theorem cast_inj {a b:Nat} : ((a:Int)=(b:Int))=(a=b):=by apply propext;omega
@[simp] theorem cast_zero {a:Nat} : ((a:Int)=0)=(a=0):=by apply propext;omega
attribute [simp] A0v Ch Ae Bh optX Fw S9 Xs Pu Ec Y5 Av resX resL res1 unX
section
variable {k:IntKind} {x y:Int}
@[simp] theorem intX_add:intX .add k x y=some (.int k (k.wrap (x+y))):=rfl
@[simp] theorem intX_sub:intX .sub k x y=some (.int k (k.wrap (x - y))):=rfl
@[simp] theorem intX_mul:intX .mul k x y=some (.int k (k.wrap (x * y))):=rfl
@[simp] theorem Adn:intX .eql k x y=some (.bool (decide (x=y))):=by simp only [intX];congr 2
@[simp] theorem Ad7:intX .neq k x y=some (.bool (!decide (x=y))):=by simp only [intX];congr 2
@[simp] theorem intX_lss:intX .lss k x y=some (.bool (decide (x < y))):=rfl
@[simp] theorem intX_leq:intX .leq k x y=some (.bool (decide (x≤y))):=rfl
@[simp] theorem intX_gtr:intX .gtr k x y=some (.bool (decide (y < x))):=rfl
@[simp] theorem intX_geq:intX .geq k x y=some (.bool (decide (y≤x))):=rfl
theorem A32 (h:y≠0):intX .quo k x y=some (.int k (k.wrap (x.tdiv y))):=by simp [intX,h]
theorem Adj (h:y≠0):intX .rem k x y=some (.int k (x.tmod y)):=by simp [intX,h]
end
@[simp] theorem Vf {op:BinOp} {t:TypeId} {k:IntKind} {a b:Int} (h1:op≠.shl) (h2:op≠.shr):binX P op t (.int k a) (.int k b)=intX op k a b:=by
 cases op<;>first|exact absurd rfl h1|exact absurd rfl h2|simp [binX]
@[simp] theorem binX_shl {t:TypeId} {k k':IntKind} {a b:Int} : binX P .shl t (.int k a) (.int k' b)=Fv .shl k a b:=rfl
@[simp] theorem binX_shr {t:TypeId} {k k':IntKind} {a b:Int} : binX P .shr t (.int k a) (.int k' b)=Fv .shr k a b:=rfl
@[simp] theorem binX_str {op:BinOp} {t:TypeId} {a b:ByteArray} : binX P op t (.str a) (.str b)=strX op a b:=rfl
end
end Go.Proofs.YtmbndhciflilbaaGreatDoor.X
