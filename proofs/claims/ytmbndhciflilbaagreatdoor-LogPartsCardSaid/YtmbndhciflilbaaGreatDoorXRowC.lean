/-
  Rows: a layout (a struct of five ints) that comes into a law.
-/
import Derived.Test.YtmbndhciflilbaaGreatDoorXRow
import Derived.Test.YtmbndhciflilbaaGreatDoorEA
namespace Go.Proofs.YtmbndhciflilbaaGreatDoor.X
open Go.RowKit Go.ChangeShapes Go.WideShapes Go.Deep
set_option linter.unusedVariables false
section
variable {H:Type} {enc:TypeId×Value→H} {P:Program} {W:World} {t:TypeId} {v:Value} {d:DataW H} {p:List MemPlace}
def CfW (c:Cfg):Prop:=(Lit.int .i64 c.k).wf=true∧(Lit.int .i64 c.m).wf=true∧(Lit.int .i64 c.sh).wf=true∧(Lit.int .i64 c.st).wf=true∧(Lit.int .i64 c.sl).wf=true
theorem open_CF {f0 f1 f2 f3 f4:Field} (hu:P.underlying t=some (.struct #[f0,f1,f2,f3,f4])) (hof:f0.offset=0∧f1.offset=1∧f2.offset=2∧f3.offset=3∧f4.offset=4)
  (hcs:P.cellsOf f0.type=1∧P.cellsOf f1.type=1∧P.cellsOf f2.type=1∧P.cellsOf f3.type=1∧P.cellsOf f4.type=1∧P.cellsOf t=5)
  (h0:P.underlying f0.type=some (.int .i64)) (h1:P.underlying f1.type=some (.int .i64)) (h2:P.underlying f2.type=some (.int .i64)) (h3:P.underlying f3.type=some (.int .i64)) (h4:P.underlying f4.type=some (.int .i64))
  (h:DataW.Trod enc P W 0 (fun _=>true) true t v d p) (hv:∃ cs,v = .agg cs∧cs.size=P.cellsOf t) :
  ∃ c:Cfg,VR W (fun B=>B < W.heap.size) noMap (CfA c) v∧CfW c:=by
 obtain ⟨fuel,hf⟩:=h
 obtain ⟨cs,rfl,hsize⟩:=hv
 obtain ⟨xs,n,rfl,hx,hl,hxl,hfs⟩:=DataW.trod_struct hu hf
 obtain ⟨c0,c1,c2,c3,c4,hcl⟩:∃ c0 c1 c2 c3 c4,cs.toList=[c0,c1,c2,c3,c4]:=by
  rw [hcs.2.2.2.2.2] at hsize
  have:cs.toList.length=5:=by simpa using hsize
  match cs.toList,this with
  | [a,b,c,d,e],_=>exact ⟨a,b,c,d,e,rfl⟩
 have hcells:(Value.agg cs).cells.toList=[c0,c1,c2,c3,c4]:=hcl
 rw [hcells] at hfs
 have g0:=hfs 0 f0 rfl
 have g1:=hfs 1 f1 rfl
 have g2:=hfs 2 f2 rfl
 have g3:=hfs 3 f3 rfl
 have g4:=hfs 4 f4 rfl
 rw [hof.1,hcs.1] at g0
 rw [hof.2.1,hcs.2.1] at g1
 rw [hof.2.2.1,hcs.2.2.1] at g2
 rw [hof.2.2.2.1,hcs.2.2.2.1] at g3
 rw [hof.2.2.2.2,hcs.2.2.2.2.1] at g4
 simp only [List.drop_zero,List.drop_succ_cons,List.take_succ_cons,List.take_zero] at g0 g1 g2 g3 g4
 have hx5:xs.length=5:=by simpa using hxl
 match xs,hx5,hx,g0,g1,g2,g3,g4 with
 | [y0,y1,y2,y3,y4],_,hx,g0,g1,g2,g3,g4 =>
  simp only [List.getElem?_cons_zero,List.getElem?_cons_succ] at g0 g1 g2 g3 g4
  obtain ⟨a0,q0,_,w0⟩:=DataW.trod_int h0 g0
  obtain ⟨a1,q1,_,w1⟩:=DataW.trod_int h1 g1
  obtain ⟨a2,q2,_,w2⟩:=DataW.trod_int h2 g2
  obtain ⟨a3,q3,_,w3⟩:=DataW.trod_int h3 g3
  obtain ⟨a4,q4,_,w4⟩:=DataW.trod_int h4 g4
  simp only [List.cons.injEq,and_true] at q0 q1 q2 q3 q4
  subst q0 q1 q2 q3 q4
  refine ⟨⟨a0,a1,a2,a3,a4⟩,?_,w0,w1,w2,w3,w4⟩
  have cc:=Cells.cons (w:=W) (I:=fun B=>B < W.heap.size) (ρ := noMap) (.int .i64 a0) (Cells.cons (.int .i64 a1) (Cells.cons (.int .i64 a2) (Cells.cons (.int .i64 a3) (Cells.cons (.int .i64 a4) Cells.nil))))
  have:=cc.agg
  have e:cs=[Value.int .i64 a0,.int .i64 a1,.int .i64 a2,.int .i64 a3,.int .i64 a4].toArray:=by rw [←hcl]
  rw [e]
  exact this
end
end Go.Proofs.YtmbndhciflilbaaGreatDoor.X
