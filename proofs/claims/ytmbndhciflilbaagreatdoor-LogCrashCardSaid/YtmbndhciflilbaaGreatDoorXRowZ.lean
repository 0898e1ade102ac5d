/-
  Rows: a layout and three fields more, each read by its own rule; hurts.
-/
import Derived.Test.YtmbndhciflilbaaGreatDoorVG
namespace Go.Proofs.YtmbndhciflilbaaGreatDoor.X
open Go.RowKit Go.ChangeShapes Go.WideShapes Go.Deep
set_option linter.unusedVariables false
section
variable {H:Type} {enc:TypeId×Value→H} {P:Program} {W:World} {t:TypeId} {v:Value} {d:DataW H} {p:List MemPlace} {ts:List TypeId} {ds:List (DataW H)} {j:Nat}
def Rd {α:Type} (enc:TypeId×Value→H) (P:Program) (W:World) (t:TypeId) (g:α→AV) (Q:α→Prop):Prop :=
 ∀ (ts:List TypeId) (ds:List (DataW H)) (j n:Nat) (cv:Value) (y:DataW H×List MemPlace),(DataW.weightsEach P ts ds).all (· ≤ reachBytes)=true→ts[j]? = some t→ds[j]? = some y.1→DataW.trod enc P W 0 (fun _=>true) true n t [cv]=some y→∃ x:α,VR W (fun B=>B < W.heap.size) Gn (g x) cv∧Q x
theorem rd_int (h:P.underlying t=some (.int .i64)):Rd enc P W t (AV.int .i64) fun x=>(Lit.int .i64 x).wf=true:=fun ts ds j n cv y _ _ _ hf=>by
 obtain ⟨a,q,_,w⟩:=DataW.trod_int h hf
 simp only [List.cons.injEq,and_true] at q
 subst q
 exact ⟨a,.int _ _,w⟩
theorem A0r {e:TypeId} {n:Nat} {c:Value} {y:DataW H×List MemPlace} (hu:P.underlying t=some (.slice e)) (g:DataW.trod enc P W 0 (fun _=>true) true n t [c]=some y):∃ a len cap,c = .slice a len cap:=by
 rcases open_slice hu g with ⟨hc0,_⟩|⟨a,len,cap,_,_,_,_,hc0,_⟩
 ·exact ⟨none,0,0,by simpa using hc0⟩
 ·exact ⟨_,_,_,by simpa using hc0⟩
structure HuD where
 d:Int
 n:Int
 s:List UInt8
 al:Bool
structure HuT (P:Program) (t:TypeId) (f0 f1 f2 f3:Field):Prop where
 hu:P.underlying t=some (.struct #[f0,f1,f2,f3])
 hof:f0.offset=0∧f1.offset=1∧f2.offset=2∧f3.offset=3
 hcs:P.cellsOf f0.type=1∧P.cellsOf f1.type=1∧P.cellsOf f2.type=1∧P.cellsOf f3.type=1∧P.cellsOf t=4
 h0:P.underlying f0.type=some (.int .i64)
 h1:P.underlying f1.type=some (.int .i64)
 h2:P.underlying f2.type=some .string
 h3:P.underlying f3.type=some .bool
theorem Ah5 {α β γ:Type} {g1:α→AV} {g2:β→AV} {g3:γ→AV} {Q1:α→Prop} {Q2:β→Prop} {Q3:γ→Prop} {f0 f1 f2 f3 k0 k1 k2 k3 k4:Field} (hsz:(DataW.weightsEach P ts ds).all (· ≤ reachBytes)=true) (ht:ts[j]? = some t) (hd:ds[j]? = some d)
  (hu:P.underlying t=some (.struct #[f0,f1,f2,f3])) (hof:f0.offset=0∧f1.offset=5∧f2.offset=6∧f3.offset=7) (hcs:P.cellsOf f0.type=5∧P.cellsOf f1.type=1∧P.cellsOf f2.type=1∧P.cellsOf f3.type=1∧P.cellsOf t=8)
  (T:CfT P f0.type k0 k1 k2 k3 k4) (R1:Rd enc P W f1.type g1 Q1) (R2:Rd enc P W f2.type g2 Q2) (R3:Rd enc P W f3.type g3 Q3)
  (h:DataW.Trod enc P W 0 (fun _=>true) true t v d p) (hv:∃ cs,v = .agg cs∧cs.size=P.cellsOf t) :
  ∃ (c:Cfg) (x1:α) (x2:β) (x3:γ),VR W (fun B=>B < W.heap.size) Gn (.agg [.int .i64 c.k,.int .i64 c.m,.int .i64 c.sh,.int .i64 c.st,.int .i64 c.sl,g1 x1,g2 x2,g3 x3]) v∧CfW c∧Q1 x1∧Q2 x2∧Q3 x3:=by
 obtain ⟨fuel,hf⟩:=h
 obtain ⟨cs,rfl,hsize⟩:=hv
 obtain ⟨xs,n,rfl,hx,hl,hxl,hfs⟩:=DataW.trod_struct hu hf
 have hd':d = .agg (xs.map (·.1)):=by simp only [Prod.mk.injEq] at hx;exact hx.1
 subst hd'
 obtain ⟨c0,c1,c2,c3,c4,c5,c6,c7,hcl⟩:∃ c0 c1 c2 c3 c4 c5 c6 c7,cs.toList=[c0,c1,c2,c3,c4,c5,c6,c7]:=by
  rw [hcs.2.2.2.2] at hsize
  have:cs.toList.length=8:=by simpa using hsize
  match cs.toList,this with
  | [a,b,c,d,e,f,g,h],_=>exact ⟨a,b,c,d,e,f,g,h,rfl⟩
 have hcells:(Value.agg cs).cells.toList=[c0,c1,c2,c3,c4,c5,c6,c7]:=hcl
 rw [hcells] at hfs
 have j0:=hfs 0 f0 rfl
 have j1:=hfs 1 f1 rfl
 have j2:=hfs 2 f2 rfl
 have j3:=hfs 3 f3 rfl
 rw [hof.1,hcs.1] at j0
 rw [hof.2.1,hcs.2.1] at j1
 rw [hof.2.2.1,hcs.2.2.1] at j2
 rw [hof.2.2.2,hcs.2.2.2.1] at j3
 simp only [List.drop_zero,List.drop_succ_cons,List.take_succ_cons,List.take_zero] at j0 j1 j2 j3
 have w:(DataW.weightsEach P [f0.type,f1.type,f2.type,f3.type] (xs.map (·.1))).all (· ≤ reachBytes)=true:=by
  rw [List.all_eq_true]
  intro m hm
  refine List.all_eq_true.1 hsz m (DataW.weights_mem_each ht hd m ?_)
  simpa [DataW.weights,hu] using hm
 have hx4:xs.length=4:=by simpa using hxl
 match xs,hx4,w,j0,j1,j2,j3 with
 | [y0,y1,y2,y3],_,w,j0,j1,j2,j3 =>
  simp only [List.getElem?_cons_zero,List.getElem?_cons_succ] at j0 j1 j2 j3
  obtain ⟨c,q0,w0⟩:=Aj6 T j0
  obtain ⟨x1,v1,b1⟩:=R1 _ _ 1 n c5 y1 w rfl rfl j1
  obtain ⟨x2,v2,b2⟩:=R2 _ _ 2 n c6 y2 w rfl rfl j2
  obtain ⟨x3,v3,b3⟩:=R3 _ _ 3 n c7 y3 w rfl rfl j3
  simp only [List.cons.injEq,and_true] at q0
  obtain ⟨rfl,rfl,rfl,rfl,rfl⟩:=q0
  refine ⟨c,x1,x2,x3,?_,w0,b1,b2,b3⟩
  have cc:=(Aff (W:=W) (I:=fun B=>B < W.heap.size) (ρ := Gn) c).append (Cells.cons v1 (Cells.cons v2 (Cells.cons v3 Cells.nil)))
  have:=cc.agg
  have e:cs=([Value.int .i64 c.k,.int .i64 c.m,.int .i64 c.sh,.int .i64 c.st,.int .i64 c.sl] ++ [c5,c6,c7]).toArray:=by
   show cs=[Value.int .i64 c.k,.int .i64 c.m,.int .i64 c.sh,.int .i64 c.st,.int .i64 c.sl,c5,c6,c7].toArray
   rw [←hcl]
  rw [e]
  exact this
end
end Go.Proofs.YtmbndhciflilbaaGreatDoor.X
