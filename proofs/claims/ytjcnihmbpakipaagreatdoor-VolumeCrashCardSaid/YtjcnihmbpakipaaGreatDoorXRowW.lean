/-
  Rows of the volume's laws: a case of a crash.
-/
import Derived.Test.YtjcnihmbpakipaaGreatDoorV74
namespace Go.Proofs.YtjcnihmbpakipaaGreatDoor.X
open Go.RowKit Go.ChangeShapes Go.WideShapes Go.Deep
set_option linter.unusedVariables false
section
variable {H:Type} {enc:TypeId×Value→H} {P:Program} {W:World} {t:TypeId} {v:Value} {d:DataW H} {p:List MemPlace} {ts:List TypeId} {ds:List (DataW H)} {j:Nat}
theorem weights_in {fs:Array Field} {xs:List (DataW H×List MemPlace)} (hsz:(DataW.weightsEach P ts ds).all (· ≤ reachBytes)=true) (ht:ts[j]? = some t) (hd:ds[j]? = some (.agg (xs.map (·.1)))) (hu:P.underlying t=some (.struct fs)) :
  (DataW.weightsEach P (fs.toList.map (·.type)) (xs.map (·.1))).all (· ≤ reachBytes)=true:=by
 rw [List.all_eq_true]
 intro m hm
 refine List.all_eq_true.1 hsz m (DataW.weights_mem_each ht hd m ?_)
 simpa [DataW.weights,hu] using hm
structure CrT (P:Program) (t e:TypeId) (f0 f1 f2 f3:Field):Prop where
 hu:P.underlying t=some (.struct #[f0,f1,f2,f3])
 hof:f0.offset=0∧f1.offset=1∧f2.offset=2∧f3.offset=3
 hcs:P.cellsOf f0.type=1∧P.cellsOf f1.type=1∧P.cellsOf f2.type=1∧P.cellsOf f3.type=1∧P.cellsOf t=4
 h0:P.underlying f0.type=some (.int .i64)
 h1:P.underlying f1.type=some (.slice e)
 h2:P.underlying f2.type=some (.int .i64)
 h3:P.underlying f3.type=some (.slice e)
 he:P.underlying e=some .bool
 hc:P.cellsOf e=1
 hb:1≤P.bytesOf e
theorem slice_of {e:TypeId} {n:Nat} {c:Value} {y:DataW H×List MemPlace} (hu:P.underlying t=some (.slice e)) (g:DataW.trod enc P W 0 (fun _=>true) true n t [c]=some y):∃ a len cap,c = .slice a len cap:=by
 rcases open_slice hu g with ⟨hc0,_⟩|⟨a,len,cap,_,_,_,_,hc0,_⟩
 ·exact ⟨none,0,0,by simpa using hc0⟩
 ·exact ⟨_,_,_,by simpa using hc0⟩
theorem trod_CR {e:TypeId} {f0 f1 f2 f3:Field} (T:CrT P t e f0 f1 f2 f3) {fuel:Nat} {cs:List Value} {x:DataW H×List MemPlace} (hsz:(DataW.weightsEach P ts ds).all (· ≤ reachBytes)=true) (ht:ts[j]? = some t) (hd:ds[j]? = some x.1) (hf:DataW.trod enc P W 0 (fun _=>true) true fuel t cs=some x) :
  ∃ o:CrD,Cells W (fun B=>B < W.heap.size) noMap (CrC o) cs∧(Lit.int .i64 o.f).wf=true∧o.kp.length < 2 ^ 48∧(Lit.int .i64 o.ag).wf=true∧o.mo.length < 2 ^ 48:=by
 obtain ⟨hu,hof,hcs,h0,h1,h2,h3,he,hc,hb⟩:=T
 obtain ⟨xs,n,rfl,rfl,hl,hxl,hfs⟩:=DataW.trod_struct hu hf
 have w:=weights_in hsz ht hd hu
 obtain ⟨c0,c1,c2,c3,rfl⟩:∃ c0 c1 c2 c3,cs=[c0,c1,c2,c3]:=by
  rw [hcs.2.2.2.2] at hl
  match cs,hl with
  | [a,b,c,d],_=>exact ⟨a,b,c,d,rfl⟩
 have k0:=hfs 0 f0 rfl
 have k1:=hfs 1 f1 rfl
 have k2:=hfs 2 f2 rfl
 have k3:=hfs 3 f3 rfl
 rw [hof.1,hcs.1] at k0
 rw [hof.2.1,hcs.2.1] at k1
 rw [hof.2.2.1,hcs.2.2.1] at k2
 rw [hof.2.2.2,hcs.2.2.2.1] at k3
 simp only [List.drop_zero,List.drop_succ_cons,List.take_succ_cons,List.take_zero] at k0 k1 k2 k3
 have hx4:xs.length=4:=by simpa using hxl
 match xs,hx4,w,k0,k1,k2,k3 with
 | [y0,y1,y2,y3],_,w,k0,k1,k2,k3 =>
  simp only [List.getElem?_cons_zero,List.getElem?_cons_succ] at k0 k1 k2 k3
  obtain ⟨a0,q0,_,w0⟩:=DataW.trod_int h0 k0
  obtain ⟨a2,q2,_,w2⟩:=DataW.trod_int h2 k2
  have s1:=slice_of h1 k1
  have s3:=slice_of h3 k3
  obtain ⟨l1,v1,b1⟩:=open_OL (j:=1) (t:=f1.type) (v:=c1) (d:=y1.1) (p:=y1.2) w rfl rfl h1 he hc hb ⟨n,by obtain ⟨a,len,cap,rfl⟩:=s1;exact k1⟩ s1
  obtain ⟨l3,v3,b3⟩:=open_OL (j:=3) (t:=f3.type) (v:=c3) (d:=y3.1) (p:=y3.2) w rfl rfl h3 he hc hb ⟨n,by obtain ⟨a,len,cap,rfl⟩:=s3;exact k3⟩ s3
  simp only [List.cons.injEq,and_true] at q0 q2
  subst q0 q2
  exact ⟨⟨a0,l1,a2,l3⟩,Cells.cons (.int _ _) (Cells.cons v1 (Cells.cons (.int _ _) (Cells.cons v3 Cells.nil))),w0,b1,w2,b3⟩
theorem open_CS {eo eb:TypeId} {f0 f1 f2 f3 g0 g1 g2 g3 g4 o0 o1 o2 o3 x0 x1 x2 x3:Field} {ei:TypeId} (hsz:(DataW.weightsEach P ts ds).all (· ≤ reachBytes)=true) (ht:ts[j]? = some t) (hd:ds[j]? = some d) (hu:P.underlying t=some (.struct #[f0,f1,f2,f3])) (hof:f0.offset=0∧f1.offset=5∧f2.offset=6∧f3.offset=7)
  (hcs:P.cellsOf f0.type=5∧P.cellsOf f1.type=1∧P.cellsOf f2.type=1∧P.cellsOf f3.type=4∧P.cellsOf t=11) (T0:CfT P f0.type g0 g1 g2 g3 g4) (h1:P.underlying f1.type=some (.slice eo)) (To:OpT P eo o0 o1 o2 o3) (hbo:1≤P.bytesOf eo)
  (h2:P.underlying f2.type=some (.slice ei)) (hei:P.underlying ei=some (.int .i64)) (hci:P.cellsOf ei=1) (hbi:1≤P.bytesOf ei) (Tx:CrT P f3.type eb x0 x1 x2 x3)
  (h:DataW.Trod enc P W 0 (fun _=>true) true t v d p) (hv:∃ cs,v = .agg cs∧cs.size=P.cellsOf t) :
  ∃ (c:Cfg) (ws:List OpD) (fs:List Int) (x:CrD),VR W (fun B=>B < W.heap.size) noMap (.agg (CsC c ws fs x)) v∧CfW c∧ws.length < 2 ^ 48∧(∀ y∈ws,OpW y)∧fs.length < 2 ^ 48∧(∀ y∈fs,(Lit.int .i64 y).wf=true) ∧
   (Lit.int .i64 x.f).wf=true∧x.kp.length < 2 ^ 48∧(Lit.int .i64 x.ag).wf=true∧x.mo.length < 2 ^ 48:=by
 obtain ⟨fuel,hf⟩:=h
 obtain ⟨cs,rfl,hsize⟩:=hv
 obtain ⟨xs,n,rfl,hx,hl,hxl,hfs⟩:=DataW.trod_struct hu hf
 have hd':d = .agg (xs.map (·.1)):=by simp only [Prod.mk.injEq] at hx;exact hx.1
 subst hd'
 have w:=weights_in hsz ht hd hu
 obtain ⟨c0,c1,c2,c3,c4,c5,c6,c7,c8,c9,c10,hcl⟩:∃ c0 c1 c2 c3 c4 c5 c6 c7 c8 c9 c10,cs.toList=[c0,c1,c2,c3,c4,c5,c6,c7,c8,c9,c10]:=by
  rw [hcs.2.2.2.2] at hsize
  have:cs.toList.length=11:=by simpa using hsize
  match cs.toList,this with
  | [a,b,c,d,e,f,g,h,i,j,k],_=>exact ⟨a,b,c,d,e,f,g,h,i,j,k,rfl⟩
 have hcells:(Value.agg cs).cells.toList=[c0,c1,c2,c3,c4,c5,c6,c7,c8,c9,c10]:=hcl
 rw [hcells] at hfs
 have k0:=hfs 0 f0 rfl
 have k1:=hfs 1 f1 rfl
 have k2:=hfs 2 f2 rfl
 have k3:=hfs 3 f3 rfl
 rw [hof.1,hcs.1] at k0
 rw [hof.2.1,hcs.2.1] at k1
 rw [hof.2.2.1,hcs.2.2.1] at k2
 rw [hof.2.2.2,hcs.2.2.2.1] at k3
 simp only [List.drop_zero,List.drop_succ_cons,List.take_succ_cons,List.take_zero] at k0 k1 k2 k3
 have hx4:xs.length=4:=by simpa using hxl
 match xs,hx4,w,k0,k1,k2,k3 with
 | [y0,y1,y2,y3],_,w,k0,k1,k2,k3 =>
  simp only [List.getElem?_cons_zero,List.getElem?_cons_succ] at k0 k1 k2 k3
  obtain ⟨c,q0,w0⟩:=trod_CF T0 k0
  have s1:=slice_of h1 k1
  have s2:=slice_of h2 k2
  obtain ⟨l1,v1,b1,b1'⟩:=open_OPS (j:=1) (t:=f1.type) (v:=c5) (d:=y1.1) (p:=y1.2) w rfl rfl h1 To hbo ⟨n,by obtain ⟨a,len,cap,rfl⟩:=s1;exact k1⟩ s1
  obtain ⟨l2,v2,b2,b2'⟩:=open_IL (j:=2) (t:=f2.type) (v:=c6) (d:=y2.1) (p:=y2.2) w rfl rfl h2 hei hci hbi ⟨n,by obtain ⟨a,len,cap,rfl⟩:=s2;exact k2⟩ s2
  obtain ⟨x,vx,e1,e2,e3,e4⟩:=trod_CR Tx (j:=3) w rfl rfl k3
  simp only [List.cons.injEq,and_true] at q0
  obtain ⟨rfl,rfl,rfl,rfl,rfl⟩:=q0
  refine ⟨c,l1,l2,x,?_,w0,b1,b1',b2,b2',e1,e2,e3,e4⟩
  have cc:=(cells_CF (W:=W) (I:=fun B=>B < W.heap.size) (ρ := noMap) c).append (Cells.cons v1 (Cells.cons v2 vx))
  have:=cc.agg
  have e:cs=([Value.int .i64 c.k,.int .i64 c.m,.int .i64 c.sh,.int .i64 c.st,.int .i64 c.sl] ++ (c5 :: c6 :: [c7,c8,c9,c10])).toArray:=by
   show cs=[Value.int .i64 c.k,.int .i64 c.m,.int .i64 c.sh,.int .i64 c.st,.int .i64 c.sl,c5,c6,c7,c8,c9,c10].toArray
   rw [←hcl]
  rw [e]
  exact this
end
end Go.Proofs.YtjcnihmbpakipaaGreatDoor.X
