/-
  Rows: a layout, two fields more, and a struct of fields.
-/
import Derived.Test.YtpabfpccpbakfaaGreatDoorXRowZ
namespace Go.Proofs.YtpabfpccpbakfaaGreatDoor.X
open Go.RowKit Go.ChangeShapes Go.WideShapes Go.Deep
set_option linter.unusedVariables false
section
variable {H:Type} {enc:TypeId×Value→H} {P:Program} {W:World} {t:TypeId} {v:Value} {d:DataW H} {p:List MemPlace} {ts:List TypeId} {ds:List (DataW H)} {j:Nat}
theorem rd_OL {e:TypeId} (hu:P.underlying t=some (.slice e)) (he:P.underlying e=some .bool) (hc:P.cellsOf e=1) (hb:1≤P.bytesOf e):Rd enc P W t OL fun l=>l.length < 2 ^ 48:=fun ts ds j n cv y hsz ht hd hf=>by
 have s:=Qw hu hf
 obtain ⟨l,v,b⟩:=Am4 (j:=j) (v:=cv) (d:=y.1) (p:=y.2) hsz ht hd hu he hc hb ⟨n,by obtain ⟨a,len,cap,rfl⟩:=s;exact hf⟩ s
 exact ⟨l,v,b⟩
def RdS {α:Type} (enc:TypeId×Value→H) (P:Program) (W:World) (t:TypeId) (z:Nat) (g:α→List AV) (Q:α→Prop):Prop :=
 ∀ (ts:List TypeId) (ds:List (DataW H)) (j n:Nat) (cvs:List Value) (y:DataW H×List MemPlace),(DataW.weightsEach P ts ds).all (· ≤ reachBytes)=true→ts[j]? = some t→ds[j]? = some y.1→DataW.trod enc P W 0 (fun _=>true) true n t cvs=some y→∃ x:α,Cells W (fun B=>B < W.heap.size) Fk (g x) cvs∧Q x
theorem Rx {fs:Array Field} {xs:List (DataW H×List MemPlace)} (hsz:(DataW.weightsEach P ts ds).all (· ≤ reachBytes)=true) (ht:ts[j]? = some t) (hd:ds[j]? = some (.agg (xs.map (·.1)))) (hu:P.underlying t=some (.struct fs)) :
  (DataW.weightsEach P (fs.toList.map (·.type)) (xs.map (·.1))).all (· ≤ reachBytes)=true:=by
 rw [List.all_eq_true]
 intro m hm
 refine List.all_eq_true.1 hsz m (DataW.weights_mem_each ht hd m ?_)
 simpa [DataW.weights,hu] using hm
theorem rd_S2 {α β:Type} {g1:α→AV} {g2:β→AV} {Q1:α→Prop} {Q2:β→Prop} {f0 f1:Field} (hu:P.underlying t=some (.struct #[f0,f1])) (hof:f0.offset=0∧f1.offset=1) (hcs:P.cellsOf f0.type=1∧P.cellsOf f1.type=1∧P.cellsOf t=2)
  (R1:Rd enc P W f0.type g1 Q1) (R2:Rd enc P W f1.type g2 Q2):RdS enc P W t 2 (fun x:α×β=>[g1 x.1,g2 x.2]) fun x=>Q1 x.1∧Q2 x.2:=fun ts ds j n cvs y hsz ht hd hf=>by
 obtain ⟨xs,m,rfl,rfl,hl,hxl,hfs⟩:=DataW.trod_struct hu hf
 have w:=Rx hsz ht hd hu
 obtain ⟨c0,c1,rfl⟩:∃ c0 c1,cvs=[c0,c1]:=by
  rw [hcs.2.2] at hl
  match cvs,hl with
  | [a,b],_=>exact ⟨a,b,rfl⟩
 have k0:=hfs 0 f0 rfl
 have k1:=hfs 1 f1 rfl
 rw [hof.1,hcs.1] at k0
 rw [hof.2,hcs.2.1] at k1
 simp only [List.drop_zero,List.drop_succ_cons,List.take_succ_cons,List.take_zero] at k0 k1
 have hx2:xs.length=2:=by simpa using hxl
 match xs,hx2,w,k0,k1 with
 | [y0,y1],_,w,k0,k1 =>
  simp only [List.getElem?_cons_zero,List.getElem?_cons_succ] at k0 k1
  obtain ⟨x1,v1,b1⟩:=R1 _ _ 0 m c0 y0 w rfl rfl k0
  obtain ⟨x2,v2,b2⟩:=R2 _ _ 1 m c1 y1 w rfl rfl k1
  exact ⟨(x1,x2),Cells.cons v1 (Cells.cons v2 Cells.nil),b1,b2⟩
theorem rd_S3 {α β γ:Type} {g1:α→AV} {g2:β→AV} {g3:γ→AV} {Q1:α→Prop} {Q2:β→Prop} {Q3:γ→Prop} {f0 f1 f2:Field} (hu:P.underlying t=some (.struct #[f0,f1,f2])) (hof:f0.offset=0∧f1.offset=1∧f2.offset=2) (hcs:P.cellsOf f0.type=1∧P.cellsOf f1.type=1∧P.cellsOf f2.type=1∧P.cellsOf t=3)
  (R1:Rd enc P W f0.type g1 Q1) (R2:Rd enc P W f1.type g2 Q2) (R3:Rd enc P W f2.type g3 Q3):RdS enc P W t 3 (fun x:α×β×γ=>[g1 x.1,g2 x.2.1,g3 x.2.2]) fun x=>Q1 x.1∧Q2 x.2.1∧Q3 x.2.2:=fun ts ds j n cvs y hsz ht hd hf=>by
 obtain ⟨xs,m,rfl,rfl,hl,hxl,hfs⟩:=DataW.trod_struct hu hf
 have w:=Rx hsz ht hd hu
 obtain ⟨c0,c1,c2,rfl⟩:∃ c0 c1 c2,cvs=[c0,c1,c2]:=by
  rw [hcs.2.2.2] at hl
  match cvs,hl with
  | [a,b,c],_=>exact ⟨a,b,c,rfl⟩
 have k0:=hfs 0 f0 rfl
 have k1:=hfs 1 f1 rfl
 have k2:=hfs 2 f2 rfl
 rw [hof.1,hcs.1] at k0
 rw [hof.2.1,hcs.2.1] at k1
 rw [hof.2.2,hcs.2.2.1] at k2
 simp only [List.drop_zero,List.drop_succ_cons,List.take_succ_cons,List.take_zero] at k0 k1 k2
 have hx3:xs.length=3:=by simpa using hxl
 match xs,hx3,w,k0,k1,k2 with
 | [y0,y1,y2],_,w,k0,k1,k2 =>
  simp only [List.getElem?_cons_zero,List.getElem?_cons_succ] at k0 k1 k2
  obtain ⟨x1,v1,b1⟩:=R1 _ _ 0 m c0 y0 w rfl rfl k0
  obtain ⟨x2,v2,b2⟩:=R2 _ _ 1 m c1 y1 w rfl rfl k1
  obtain ⟨x3,v3,b3⟩:=R3 _ _ 2 m c2 y2 w rfl rfl k2
  exact ⟨(x1,x2,x3),Cells.cons v1 (Cells.cons v2 (Cells.cons v3 Cells.nil)),b1,b2,b3⟩
theorem A47 {α β γ:Type} {z:Nat} {g1:α→AV} {g2:β→AV} {g3:γ→List AV} {Q1:α→Prop} {Q2:β→Prop} {Q3:γ→Prop} {f0 f1 f2 f3 k0 k1 k2 k3 k4:Field} (hsz:(DataW.weightsEach P ts ds).all (· ≤ reachBytes)=true) (ht:ts[j]? = some t) (hd:ds[j]? = some d)
  (hu:P.underlying t=some (.struct #[f0,f1,f2,f3])) (hof:f0.offset=0∧f1.offset=5∧f2.offset=6∧f3.offset=7) (hcs:P.cellsOf f0.type=5∧P.cellsOf f1.type=1∧P.cellsOf f2.type=1∧P.cellsOf f3.type=z∧P.cellsOf t=7+z)
  (T:CfT P f0.type k0 k1 k2 k3 k4) (R1:Rd enc P W f1.type g1 Q1) (R2:Rd enc P W f2.type g2 Q2) (R3:RdS enc P W f3.type z g3 Q3)
  (h:DataW.Trod enc P W 0 (fun _=>true) true t v d p) (hv:∃ cs,v = .agg cs∧cs.size=P.cellsOf t) :
  ∃ (c:Cfg) (x1:α) (x2:β) (x3:γ),VR W (fun B=>B < W.heap.size) Fk (.agg (.int .i64 c.k :: .int .i64 c.m :: .int .i64 c.sh :: .int .i64 c.st :: .int .i64 c.sl :: g1 x1 :: g2 x2 :: g3 x3)) v∧CfW c∧Q1 x1∧Q2 x2∧Q3 x3:=by
 obtain ⟨fuel,hf⟩:=h
 obtain ⟨cs,rfl,hsize⟩:=hv
 obtain ⟨xs,n,rfl,hx,hl,hxl,hfs⟩:=DataW.trod_struct hu hf
 have hd':d = .agg (xs.map (·.1)):=by simp only [Prod.mk.injEq] at hx;exact hx.1
 subst hd'
 have w:=Rx hsz ht hd hu
 obtain ⟨c0,c1,c2,c3,c4,c5,c6,rest,hcl,hrl⟩:∃ c0 c1 c2 c3 c4 c5 c6 rest,cs.toList=c0 :: c1 :: c2 :: c3 :: c4 :: c5 :: c6 :: rest∧rest.length=z:=by
  rw [hcs.2.2.2.2] at hsize
  have:cs.toList.length=7+z:=by simpa using hsize
  match cs.toList,this with
  | a :: b :: c :: d :: e :: f :: g :: l,h=>exact ⟨a,b,c,d,e,f,g,l,rfl,by simp at h;omega⟩
  | [],h=>simp at h;omega
  | [_],h=>simp at h;omega
  | [_,_],h=>simp at h;omega
  | [_,_,_],h=>simp at h;omega
  | [_,_,_,_],h=>simp at h;omega
  | [_,_,_,_,_],h=>simp at h;omega
  | [_,_,_,_,_,_],h=>simp at h;omega
 have hcells:(Value.agg cs).cells.toList=c0 :: c1 :: c2 :: c3 :: c4 :: c5 :: c6 :: rest:=hcl
 rw [hcells] at hfs
 have j0:=hfs 0 f0 rfl
 have j1:=hfs 1 f1 rfl
 have j2:=hfs 2 f2 rfl
 have j3:=hfs 3 f3 rfl
 rw [hof.1,hcs.1] at j0
 rw [hof.2.1,hcs.2.1] at j1
 rw [hof.2.2.1,hcs.2.2.1] at j2
 rw [hof.2.2.2,hcs.2.2.2.1] at j3
 simp only [List.drop_zero,List.drop_succ_cons,List.take_succ_cons,List.take_zero] at j0 j1 j2 j3
 rw [List.take_of_length_le (by omega)] at j3
 have hx4:xs.length=4:=by simpa using hxl
 match xs,hx4,w,j0,j1,j2,j3 with
 | [y0,y1,y2,y3],_,w,j0,j1,j2,j3 =>
  simp only [List.getElem?_cons_zero,List.getElem?_cons_succ] at j0 j1 j2 j3
  obtain ⟨c,q0,w0⟩:=Akh T j0
  obtain ⟨x1,v1,b1⟩:=R1 _ _ 1 n c5 y1 w rfl rfl j1
  obtain ⟨x2,v2,b2⟩:=R2 _ _ 2 n c6 y2 w rfl rfl j2
  obtain ⟨x3,v3,b3⟩:=R3 _ _ 3 n rest y3 w rfl rfl j3
  simp only [List.cons.injEq,and_true] at q0
  obtain ⟨rfl,rfl,rfl,rfl,rfl⟩:=q0
  refine ⟨c,x1,x2,x3,?_,w0,b1,b2,b3⟩
  have cc:=(Agt (W:=W) (I:=fun B=>B < W.heap.size) (ρ := Fk) c).append (Cells.cons v1 (Cells.cons v2 v3))
  have:=cc.agg
  have e:cs=([Value.int .i64 c.k,.int .i64 c.m,.int .i64 c.sh,.int .i64 c.st,.int .i64 c.sl] ++ (c5 :: c6 :: rest)).toArray:=by
   show cs=(Value.int .i64 c.k :: .int .i64 c.m :: .int .i64 c.sh :: .int .i64 c.st :: .int .i64 c.sl :: c5 :: c6 :: rest).toArray
   rw [←hcl]
  rw [e]
  exact this
end
end Go.Proofs.YtpabfpccpbakfaaGreatDoor.X
