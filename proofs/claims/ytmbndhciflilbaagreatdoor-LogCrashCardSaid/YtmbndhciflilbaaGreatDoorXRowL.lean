/-
  Rows: a log's calls.
-/
import Derived.Test.YtmbndhciflilbaaGreatDoorXRowZ
namespace Go.Proofs.YtmbndhciflilbaaGreatDoor.X
open Go.RowKit Go.ChangeShapes Go.WideShapes Go.Deep
set_option linter.unusedVariables false
section
variable {H:Type} {enc:TypeId×Value→H} {P:Program} {W:World} {t:TypeId} {v:Value} {d:DataW H} {p:List MemPlace} {ts:List TypeId} {ds:List (DataW H)} {j:Nat}
theorem rd_TR {α:Type} {g:α→List AV} {Q:α→Prop} {e:TypeId} (z:Nat) (hu:P.underlying t=some (.slice e)) (hz:P.cellsOf e=z) (hz0:0 < z) (hg:∀ x,(g x).length=z) (hi:Nonempty α) (hb:1≤P.bytesOf e)
  (T:∀ (fuel:Nat) (cs:List Value) (x:DataW H×List MemPlace),DataW.trod enc P W 0 (fun _=>true) true fuel e cs=some x→∃ o:α,(∀ I ρ,Cells W I ρ (g o) cs)∧Q o):Rd enc P W t (TR g) fun l=>l.length < 2 ^ 48∧∀ x∈l,Q x:=fun ts ds j fuel v y hsz ht hd hf=>by
 obtain ⟨a0,len0,cap0,rfl⟩:=A0r hu hf
 rcases open_slice hu hf with ⟨hcs,_⟩|⟨a,len,cap,m,n,D,Pl,hcs,_,hl,hm,hmm,hx,hall⟩
 ·simp at hcs
  obtain ⟨rfl,rfl,rfl⟩:=hcs
  exact ⟨[],.vecN,μ,μ⟩
 ·simp at hcs
  obtain ⟨rfl,rfl,rfl⟩:=hcs
  simp only [if_true] at hmm
  have key:∀ i,i < len0→∃ o:α,(∃ cs',W.cells? 0 (a.add (i * z)) z=some cs'∧∀ I ρ,Cells W I ρ (g o) cs')∧Q o:=fun i hi=>by
   obtain ⟨cs',h1,h2⟩:=hall i ω
   rw [hz] at h1
   obtain ⟨o,h3,h4⟩:=T _ _ _ h2
   exact ⟨o,⟨cs',h1,h3⟩,h4⟩
  haveI:Inhabited α:=⟨Classical.choice hi⟩
  obtain ⟨f,hf⟩:=choose_lt (α:=α) (p:=fun i o=>(∃ cs',W.cells? 0 (a.add (i * z)) z=some cs'∧∀ I ρ,Cells W I ρ (g o) cs')∧Q o) key
  have hlen:((List.range len0).map f).length=len0:=by simp
  refine ⟨(List.range len0).map f,?_,?_,fun x hx=> ?_⟩
  ·have:=VR.Aj7 (W:=W) (g:=g) (z:=z) hg hz0 (l:=(List.range len0).map f) (a:=a) (cap:=cap0) (by rw [hlen];exact hl) (fun i hi=>by
    simp only [List.getElem_map,List.getElem_range]
    exact (hf i (by rw [hlen] at hi;exact hi)).1)
   rwa [hlen] at this
  ·rw [hlen]
   have:=sized_slice hsz ht (by rw [hd,hx]) hu
   simp only [List.length_map,List.length_range] at this
   have:=A5q this hb
   omega
  ·obtain ⟨i,hi,rfl⟩:=List.mem_map.1 hx
   exact (hf i (List.mem_range.1 hi)).2
structure LOp where
 d:Int
 n:Int
 s:List UInt8
def LOpC (x:LOp):List AV:=[.int .i64 x.d,.int .i64 x.n,S x.s]
def LOpW (x:LOp):Prop:=(Lit.int .i64 x.d).wf=true∧(Lit.int .i64 x.n).wf=true∧x.s.length < 2 ^ 63
theorem Ah6 {e:TypeId} {f0 f1 f2:Field} (hu:P.underlying e=some (.struct #[f0,f1,f2])) (hof:f0.offset=0∧f1.offset=1∧f2.offset=2) (hcs:P.cellsOf f0.type=1∧P.cellsOf f1.type=1∧P.cellsOf f2.type=1∧P.cellsOf e=3)
  (h0:P.underlying f0.type=some (.int .i64)) (h1:P.underlying f1.type=some (.int .i64)) (h2:P.underlying f2.type=some .string) (fuel:Nat) (cs:List Value) (x:DataW H×List MemPlace) (hf:DataW.trod enc P W 0 (fun _=>true) true fuel e cs=some x) :
  ∃ o:LOp,(∀ I ρ,Cells W I ρ (LOpC o) cs)∧LOpW o:=by
 obtain ⟨xs,n,rfl,hx,hl,hxl,hfs⟩:=DataW.trod_struct hu hf
 obtain ⟨c0,c1,c2,rfl⟩:∃ c0 c1 c2,cs=[c0,c1,c2]:=by
  rw [hcs.2.2.2] at hl
  match cs,hl with
  | [a,b,c],_=>exact ⟨a,b,c,rfl⟩
 have k0:=hfs 0 f0 rfl
 have k1:=hfs 1 f1 rfl
 have k2:=hfs 2 f2 rfl
 rw [hof.1,hcs.1] at k0
 rw [hof.2.1,hcs.2.1] at k1
 rw [hof.2.2,hcs.2.2.1] at k2
 simp only [List.drop_zero,List.drop_succ_cons,List.take_succ_cons,List.take_zero] at k0 k1 k2
 have hx3:xs.length=3:=by simpa using hxl
 match xs,hx3,hx,k0,k1,k2 with
 | [y0,y1,y2],_,hx,k0,k1,k2 =>
  simp only [List.getElem?_cons_zero,List.getElem?_cons_succ] at k0 k1 k2
  obtain ⟨a0,q0,_,w0⟩:=DataW.trod_int h0 k0
  obtain ⟨a,q1,_,w1⟩:=DataW.trod_int h1 k1
  obtain ⟨s,q2,_,w2⟩:=DataW.trod_string h2 k2
  simp only [List.cons.injEq,and_true] at q0 q1 q2
  subst q0 q1 q2
  exact ⟨⟨a0,a,s.data.toList⟩,fun I ρ => Cells.cons (.int _ _) (Cells.cons (.int _ _) (Cells.cons (vr_S s) Cells.nil)),w0,w1,len_S w2⟩
end
end Go.Proofs.YtmbndhciflilbaaGreatDoor.X
