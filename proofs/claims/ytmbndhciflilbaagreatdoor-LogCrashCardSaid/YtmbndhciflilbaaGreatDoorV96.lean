/-
  Logs: Open.
-/
import Derived.Test.YtmbndhciflilbaaGreatDoorV95
namespace Go.Proofs.YtmbndhciflilbaaGreatDoor.X
open Go.RowKit F
set_option maxRecDepth 100000
set_option linter.unusedSimpArgs false
set_option linter.unusedVariables false
section
variable {p q nb:Nat} {cells:List AV} {ps:List Nat} {pv f count:Nat} {c:Cfg} {a:Arr} {sq:Int} {E:Nat→Prop} {hp:Heap} {L:List Txt} {z:Nat}
structure OpnI (p q nb:Nat) (cells:List AV) (ps:List Nat) (pv lb f count:Nat) (c:Cfg) (a:Arr) (sq:Int) (L:List Txt) (E:Nat→Prop) (z:Nat) (h0:Heap) (i:Nat) (r:Regs) (hp:Heap):Prop where
 le:i≤count
 r0:rg r 0 = .ptr pv 0
 r1:rg r 1 = .int .i64 f
 r9:rg r 9 = .ptr lb 0
 r46:rg r 46 = .int .i64 count
 r47:rg r 47 = .int .i64 i
 ex:∃ x G,hp.get lb=some [.ptr pv 0,.int .i64 f,.int .i64 count,.int .i64 z,x]∧CapA x (((L.drop f).take i).map S) hp G∧x.atom=true∧LawV p q nb cells ps pv c 0 a sq (fun x=>(E x∨x=lb)∨G x) hp∧¬G lb∧(∀ b,G b→¬E b)
 F:Fr' E h0 hp
def LopQ (p q nb:Nat) (cells:List AV) (ps:List Nat) (pv f count:Nat) (c:Cfg) (a:Arr) (sq:Int) (L:List Txt) (E:Nat→Prop) (z:Nat) (hp:Heap) (x:AV) (h':Heap):Prop:= ∃ lb wb,x = .tup [.ptr lb 0,.int .i64 0]∧LawV p q nb cells ps pv c 0 a sq (fun x=>(E x∨x=lb)∨x=wb) h'∧LgB lb wb pv f count (z:Nat) ((L.drop f).take count) h'∧Fr' E hp h'∧∀ x,E x→x≠lb∧x≠wb
theorem Te (H:LawV p q nb cells ps pv c 0 a sq E hp) (hC:Ax c) (hz:(z:Int)=Aw c) (W:Wh c a sq L) (hll:(L.length:Int)=c.st) (hc0:0 < count) (hfc:((f+count:Nat):Int)≤c.st) :
  CSem Tryz.prog 12 [.ptr pv 0,.int .i64 f,.int .i64 count] hp (LopQ p q nb cells ps pv f count c a sq L E z hp):=by
 refine CSem.body hm Tryz.func12 rfl κ κ (by simp [Tryz.ntmps12]) ?_
 have k0:=Bd hC
 have hst:=hC.2.2.2.1
 have hfx:K8 Tryz.prog 23 (CfA c) 3=some (.int .i64 c.st):=by kernel_rfl
 have hb:∀ w:Int,Ct Tryz.prog 71 [(0,.ptr pv 0),(1,.int .i64 f),(2,.int .i64 count),(3,.int .i64 w)]=some (.agg [.ptr pv 0,.int .i64 f,.int .i64 count,.int .i64 w,.nilSl]):=fun w=>by kernel_rfl
 have b1:¬(f:Int) < 0:=by omega
 have b2:¬(count:Int) < 1:=by omega
 have b3:¬c.st < (f:Int):=by omega
 have w1:IntKind.i64.wrap (c.st - (f:Int))=c.st - f:=wrap64 ω ω
 have b4:¬c.st - (f:Int) < count:=by omega
 simp [Tryz.f12]
 refine (Tf H.gv).use ?_
 simp [hfx,b1,b2,b3,w1,b4]
 refine (Tf H.gv).use ?_
 simp
 refine (M5 c _).use ?_
 rw [←hz]
 simp [hb,AV.cells]
 refine ⟨rfl,?_⟩
 obtain ⟨H1,g1,F1⟩:=H.box1 [.ptr pv 0,.int .i64 f,.int .i64 count,.int .i64 z,.nilSl]
 have hlb:∀ x,E x→x≠hp.next:=fun x hx=>by have:=H.lt hx;omega
 generalize hp.alloc [.ptr pv 0,.int .i64 f,.int .i64 count,.int .i64 z,.nilSl]=h1 at H1 g1 F1 ⊢
 generalize hp.next=lb at H1 g1 hlb ⊢
 refine Ar (OpnI p q nb cells ps pv lb f count c a sq L E z hp) (count - ·) ?_ 0 ?_
 rotate_left
 ·exact ⟨ω,μ,μ,μ,μ,μ,⟨.nilSl,fun _=>False,g1,.inl ⟨rfl,μ,fun _ h=>h⟩,rfl,H1.less fun x hx=>by rcases hx with hx|hx;exact hx;exact hx.elim,fun h=>h,fun _ h=>h.elim⟩,F1⟩
 clear H1 g1 F1
 rintro i r h ⟨le,r0,r1,r9,r46,r47,⟨x,G,g,C,hxa,HL,hGl,hGE⟩,F⟩
 rcases Nat.lt_or_eq_of_le le with hlt|heq
 ·have hlt':(i:Int) < count:=by omega
  have hw1:IntKind.i64.wrap ((i:Int)+1)=(i:Int)+1:=wrap64 ω ω
  have hw2:IntKind.i64.wrap ((f:Int)+i)=((f+i:Nat):Int):=by rw [wrap64 ω ω];push_cast;rfl
  have hLi:f+i < L.length:=by omega
  simp [r0,r1,r46,r47,hlt',hw2]
  refine (HL.read hC ν ((f+i:Nat):Int)).use ?_
  rw [W.v.read W.gd,mRd_at hll hLi]
  obtain ⟨x',h2',G',e,C',q1,q2,q3,q4,q5,q6⟩:=Ky (P:=Tryz.prog) (t:=51) (xt:=51) κ (w:=S L[f+i]) (Jk _) C (by simp;omega)
  have hlbl:=Heap.Ah g
  have g2:h2'.get lb=some [.ptr pv 0,.int .i64 f,.int .i64 count,.int .i64 z,x]:=(q2 lb hlbl hGl).trans g
  have hlb2:=Heap.Ah g2
  have hGl':¬G' lb:=fun h=>by
   rcases q1 lb h with h|h
   ·exact hGl h
   ·omega
  have H2:LawV p q nb cells ps pv c 0 a sq (fun x=>(E x∨x=lb)∨G' x) h2':=HL.frame q3 q4 (fun b hb hn=>q2 b hb fun h=>hn (.inr h)) fun y hy=>by
   rcases hy with (hy|rfl)|hy
   ·have:=HL.lt (.inl (.inl hy))
    exact ⟨.inl (.inl (.inl hy)),ω⟩
   ·exact ⟨.inl (.inl (.inr rfl)),hlb2⟩
   ·have:=C'.live hy
    refine ⟨?_,this⟩
    rcases q1 y hy with h|h
    ·exact .inl (.inr h)
    ·exact .inr h
  have hsn:((L.drop f).take i).map S ++ [S L[f+i]]=((L.drop f).take (i+1)).map S:=by
   have hd:i < (L.drop f).length:=by rw [List.length_drop];omega
   rw [List.take_succ_eq_append_getElem hd,List.map_append]
   simp
  rw [hsn] at C'
  have H3:=H2.put (.inl (.inr rfl)) [.ptr pv 0,.int .i64 f,.int .i64 count,.int .i64 z,x'] g2
  have g3:(h2'.put lb [.ptr pv 0,.int .i64 f,.int .i64 count,.int .i64 z,x']).get lb=some [.ptr pv 0,.int .i64 f,.int .i64 count,.int .i64 z,x']:=Heap.Ak g2
  have C3:CapA x' (((L.drop f).take (i+1)).map S) (h2'.put lb [.ptr pv 0,.int .i64 f,.int .i64 count,.int .i64 z,x']) G':=C'.keep fun b hb=>Heap.Aq g2 fun e=>hGl' (e ▸ hb)
  have F3:Fr' E hp (h2'.put lb [.ptr pv 0,.int .i64 f,.int .i64 count,.int .i64 z,x']):=fun y hy=>(Heap.Aq g2 (hlb y hy)).trans ((q2 y (HL.lt (.inl (.inl hy))) fun h=>hGE y h hy).trans (F y hy))
  have hGE':∀ b,G' b→¬E b:=fun b hb hE=>by
   rcases q1 b hb with h|h
   ·exact hGE b h hE
   ·have:=HL.lt (.inl (.inl hE));omega
  simp [r9,r47,A8,g,Bt (P:=Tryz.prog) (t:=51) (xt:=51) κ (Jk _),e,g2,q6,hlb2,hw1]
  exact ⟨i+1,ω,ω,by simpa using r0,by simpa using r1,by simpa using r9,by simpa using r46,μ,⟨x',G',g3,C3,q6,H3,hGl',hGE'⟩,F3⟩
 ·subst heq
  simp [r46,r47,r9]
  obtain ⟨wb,A,hw⟩:=LgB.of g C hGl hc0 (by rw [List.length_take,List.length_drop];omega)
  exact ⟨lb,wb,rfl,HL.less fun x hx=>hx.imp_right fun h=>(hw x).2 h,A,F,fun x hx=>⟨hlb x hx,fun e=>hGE x ((hw x).2 e) hx⟩⟩
theorem Aav (H:LawV p q nb cells ps pv c 0 a sq E hp) (hC:Ax c) {f count:Int} (hb:f < 0∨count < 1∨c.st < f∨c.st - f < count) :
  CSem Tryz.prog 12 [.ptr pv 0,.int .i64 f,.int .i64 count] hp fun x h'=>x = .tup [.nilPtr,.int .i64 1]∧h'=hp:=by
 refine CSem.body hm Tryz.func12 rfl κ κ (by simp [Tryz.ntmps12]) ?_
 have k0:=Bd hC
 have hst:=hC.2.2.2.1
 have hfx:K8 Tryz.prog 23 (CfA c) 3=some (.int .i64 c.st):=by kernel_rfl
 simp [Tryz.f12]
 refine (Tf H.gv).use ?_
 by_cases b1:f < 0
 ·simp [hfx,b1]
 by_cases b2:count < 1
 ·simp [hfx,b1,b2]
 by_cases b3:c.st < f
 ·simp [hfx,b1,b2,b3]
 have w1:IntKind.i64.wrap (c.st - f)=c.st - f:=wrap64 ω ω
 have b4:c.st - f < count:=by omega
 simp [hfx,b1,b2,b3,w1,b4]
end
end Go.Proofs.YtmbndhciflilbaaGreatDoor.X
