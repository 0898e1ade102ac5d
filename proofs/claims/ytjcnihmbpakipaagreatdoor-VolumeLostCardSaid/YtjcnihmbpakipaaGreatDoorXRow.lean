/-
  Rows: what comes into a law, read as plain lists.
-/
import Derived.Test.YtjcnihmbpakipaaGreatDoorXB
import Derived.SizedLaws
import Derived.SliceStrings
import Derived.ChangeSlices
import Derived.Deep.Grids
import Derived.Carry
import Derived.ShutString
import Derived.OpenShut
import Derived.ChangeArms
namespace Go.Proofs.YtjcnihmbpakipaaGreatDoor.X
open Go.RowKit Go.ChangeShapes Go.WideShapes Go.Deep
set_option linter.unusedVariables false
section
variable {H:Type} {enc:TypeId×Value→H} {P:Program} {W:World}
theorem cells_at {a:Addr} {n:Nat} {u:Nat→Value} (hn:0 < n) (h:∀ i,i < n→W.cell? (a.add i)=some (u i)) :
  ∃ (B o:Nat) (cs:Array Value) (e:TypeId) (fz:Nat×Nat),a=⟨B,o,none⟩∧W.heap[B]? = some (.cells cs e fz)∧∀ i,i < n→cs[o+i]? = some (u i):=by
 obtain ⟨B,o,sp⟩:=a
 have h0:=h 0 hn
 simp only [Addr.add,if_true] at h0
 unfold World.cell? at h0
 cases hB:W.heap[B]? with
 | none=>rw [hB] at h0;cases h0
 | some ob =>
  rw [hB] at h0
  cases ob with
  | cells cs e fz =>
   simp only at h0
   cases sp with
   | some s=>simp at h0
   | none =>
    refine ⟨B,o,cs,e,fz,rfl,hB,fun i hi=> ?_⟩
    have hi':=h i hi
    have e1:(Addr.mk B o none).add i=⟨B,o+i,none⟩:=by unfold Addr.add;split<;>simp_all
    rw [e1] at hi'
    unfold World.cell? at hi'
    simpa [hB] using hi'
  | map es c=>simp at h0
  | _=>simp at h0
theorem VR.of_cells {α:Type} {f:α→AV} {l:List α} {a:Addr} {cap:Nat} (hl:l.length≤cap) {u:Nat→Value} (h:∀ i,i < l.length→W.cell? (a.add i)=some (u i))
  (hv:∀ i (hi:i < l.length) (I:Nat→Prop) (ρ : BMap),VR W I ρ (f l[i]) (u i)):VR W (fun B=>B < W.heap.size) noMap (TL f l) (.slice (some a) l.length cap):=by
 cases hn:l with
 | nil=>exact .vec0 a cap
 | cons x m =>
  rw [←hn]
  have hp:0 < l.length:=by rw [hn];simp
  obtain ⟨B,o,cs,e,fz,rfl,hB,hc⟩:=cells_at hp h
  refine .vec _ _ B o cap cs e fz u (Array.getElem?_eq_some_iff.1 hB).1 hB hl (fun i hi=>hc i (by simpa using hi)) (fun i hi=> ?_)
  have hi':i < l.length:=by simpa using hi
  rw [List.getElem_map]
  exact hv i hi' _ _
theorem reach_lt {n b:Nat} (h:n * b≤reachBytes) (hb:1≤b):n < 2 ^ 48:=by
 have h1:=reachBytes_lt
 have:n * 1≤n * b:=Nat.mul_le_mul_left n hb
 omega
variable {ts:List TypeId} {ds:List (DataW H)} {j:Nat} {t e:TypeId} {v:Value} {d:DataW H} {p:List MemPlace}
theorem open_SL (hsz:(DataW.weightsEach P ts ds).all (· ≤ reachBytes)=true) (ht:ts[j]? = some t) (hd:ds[j]? = some d) (hu:P.underlying t=some (.slice e)) (he:P.underlying e=some .string) (hc:P.cellsOf e=1) (hb:1≤P.bytesOf e)
  (h:DataW.Trod enc P W 0 (fun _=>true) true t v d p) (hv:∃ a len cap,v = .slice a len cap):∃ l:List (List UInt8),VR W (fun B=>B < W.heap.size) noMap (SL l) v∧l.length < 2 ^ 48∧∀ x∈l,x.length < 2 ^ 63:=by
 obtain ⟨fuel,hf⟩:=h
 obtain ⟨a0,len0,cap0,rfl⟩:=hv
 rcases open_strings hu he hc hf with ⟨hcs,_⟩|⟨a,len,cap,ss,hcs,_,hl,hm,hz,hx,hcell,hw⟩
 ·simp [Value.cells] at hcs
  obtain ⟨rfl,rfl,rfl⟩:=hcs
  exact ⟨[],.vecN,by simp,by simp⟩
 ·simp [Value.cells] at hcs
  obtain ⟨rfl,rfl,rfl⟩:=hcs
  simp only [if_true] at hz
  have hlen:((ss.take len0).map fun s=>s.data.toList).length=len0:=by simp [hz,hl]
  refine ⟨(ss.take len0).map fun s=>s.data.toList,?_,?_,fun x hx=> ?_⟩
  ·have:=VR.of_cells (W:=W) (f:=S) (l:=(ss.take len0).map fun s=>s.data.toList) (a:=a) (cap:=cap0) (by rw [hlen];exact hl) (u:=fun i=> .string (ss.getD i ByteArray.empty))
    (fun i hi=>hcell i (by rw [hlen] at hi;omega)) (fun i hi I ρ => by
     have hi':i < ss.length:=by rw [hlen] at hi;omega
     simp only [List.getElem_map,List.getElem_take,S,List.getD_eq_getElem?_getD,List.getElem?_eq_getElem hi',Option.getD_some]
     have e1:(⟨ss[i].data.toList.toArray⟩:ByteArray)=ss[i]:=by simp
     rw [e1]
     exact .str _)
   rwa [hlen] at this
  ·rw [hlen]
   have:=sized_slice hsz ht (by rw [hd];simp only [Prod.mk.injEq] at hx;rw [hx.1]) hu
   simp only [strs,List.length_map,List.length_take,List.length_drop] at this
   have:=reach_lt this hb
   omega
  ·obtain ⟨s,hs,rfl⟩:=List.mem_map.1 hx
   have:=hw s (List.mem_of_mem_take hs)
   rw [Array.length_toList]
   have h2:s.data.size≤maxLen:=this
   have:maxLen=2 ^ 63 - 1:=rfl
   omega
theorem open_IL (hsz:(DataW.weightsEach P ts ds).all (· ≤ reachBytes)=true) (ht:ts[j]? = some t) (hd:ds[j]? = some d) (hu:P.underlying t=some (.slice e)) (he:P.underlying e=some (.int .i64)) (hc:P.cellsOf e=1) (hb:1≤P.bytesOf e)
  (h:DataW.Trod enc P W 0 (fun _=>true) true t v d p) (hv:∃ a len cap,v = .slice a len cap):∃ l:List Int,VR W (fun B=>B < W.heap.size) noMap (IL l) v∧l.length < 2 ^ 48∧∀ x∈l,(Lit.int .i64 x).wf=true:=by
 obtain ⟨fuel,hf⟩:=h
 obtain ⟨a0,len0,cap0,rfl⟩:=hv
 rcases open_ints hu he hc hf with ⟨hcs,_⟩|⟨a,len,cap,zs,hcs,_,hl,hm,hz,hx,hcell,hw⟩
 ·simp [Value.cells] at hcs
  obtain ⟨rfl,rfl,rfl⟩:=hcs
  exact ⟨[],.vecN,by simp,by simp⟩
 ·simp [Value.cells] at hcs
  obtain ⟨rfl,rfl,rfl⟩:=hcs
  simp only [if_true] at hz
  have hlen:(zs.take len0).length=len0:=by simp [hz,hl]
  refine ⟨zs.take len0,?_,?_,fun x hx=>hw x (List.mem_of_mem_take hx)⟩
  ·have:=VR.of_cells (W:=W) (f:=I64) (l:=zs.take len0) (a:=a) (cap:=cap0) (by rw [hlen];exact hl) (u:=fun i=> .int .i64 (zs.getD i 0))
    (fun i hi=>hcell i (by rw [hlen] at hi;omega)) (fun i hi I ρ => by
     have hi':i < zs.length:=by rw [hlen] at hi;omega
     simp only [List.getElem_take,I64,List.getD_eq_getElem?_getD,List.getElem?_eq_getElem hi',Option.getD_some]
     exact .int _ _)
   rwa [hlen] at this
  ·rw [hlen]
   have:=sized_slice hsz ht (by rw [hd];simp only [Prod.mk.injEq] at hx;rw [hx.1]) hu
   simp only [lits,List.length_map,List.length_take,List.length_drop] at this
   have:=reach_lt this hb
   omega
theorem open_OL (hsz:(DataW.weightsEach P ts ds).all (· ≤ reachBytes)=true) (ht:ts[j]? = some t) (hd:ds[j]? = some d) (hu:P.underlying t=some (.slice e)) (he:P.underlying e=some .bool) (hc:P.cellsOf e=1) (hb:1≤P.bytesOf e)
  (h:DataW.Trod enc P W 0 (fun _=>true) true t v d p) (hv:∃ a len cap,v = .slice a len cap):∃ l:List Bool,VR W (fun B=>B < W.heap.size) noMap (OL l) v∧l.length < 2 ^ 48:=by
 obtain ⟨fuel,hf⟩:=h
 obtain ⟨a0,len0,cap0,rfl⟩:=hv
 rcases open_bools hu he hc hf with ⟨hcs,_⟩|⟨a,len,cap,bs,hcs,_,hl,hm,hx,hcell⟩
 ·simp [Value.cells] at hcs
  obtain ⟨rfl,rfl,rfl⟩:=hcs
  exact ⟨[],.vecN,by simp⟩
 ·simp [Value.cells] at hcs
  obtain ⟨rfl,rfl,rfl⟩:=hcs
  have hlen:((List.range len0).map bs).length=len0:=by simp
  refine ⟨(List.range len0).map bs,?_,?_⟩
  ·have:=VR.of_cells (W:=W) (f:=AV.bool) (l:=(List.range len0).map bs) (a:=a) (cap:=cap0) (by rw [hlen];exact hl) (u:=fun i=> .bool (bs i))
    (fun i hi=>hcell i (by rw [hlen] at hi;omega)) (fun i hi I ρ => by
     simp only [List.getElem_map,List.getElem_range]
     exact .bool _)
   rwa [hlen] at this
  ·rw [hlen]
   have:=sized_slice hsz ht (by rw [hd];simp only [Prod.mk.injEq] at hx;rw [hx.1,boolRow]) hu
   simp only [List.length_map,List.length_range] at this
   have:=reach_lt this hb
   omega
theorem vr_S {I:Nat→Prop} {ρ : BMap} (s:ByteArray):VR W I ρ (S s.data.toList) (.string s):=by
 have e1:(⟨s.data.toList.toArray⟩:ByteArray)=s:=by simp
 have:=VR.str (w:=W) (I:=I) (ρ := ρ) ⟨s.data.toList.toArray⟩
 rw [e1] at this
 exact this
theorem len_S {s:ByteArray} (h:s.size≤maxLen):s.data.toList.length < 2 ^ 63:=by
 rw [Array.length_toList]
 have h2:s.data.size≤maxLen:=h
 have:maxLen=2 ^ 63 - 1:=rfl
 omega
theorem i64_of {n:Int} (h:(Lit.int .i64 n).wf=true) : -9223372036854775808≤n∧n≤9223372036854775807:=bounds_i64 h
theorem open_CH (hsz:(DataW.weightsEach P ts ds).all (· ≤ reachBytes)=true) (ht:ts[j]? = some t) (hd:ds[j]? = some d) {f0 f1 f2 f3:Field} (hu:P.underlying t=some (.struct #[f0,f1,f2,f3])) (hof:f0.offset=0∧f1.offset=1∧f2.offset=2∧f3.offset=3)
  (hcs:P.cellsOf f0.type=1∧P.cellsOf f1.type=1∧P.cellsOf f2.type=1∧P.cellsOf f3.type=1∧P.cellsOf t=4) (h0:P.underlying f0.type=some (.slice e)) (he:P.underlying e=some .string) (hc:P.cellsOf e=1) (hb:1≤P.bytesOf e)
  (h1:P.underlying f1.type=some (.int .i64)) (h2:P.underlying f2.type=some (.int .i64)) (h3:P.underlying f3.type=some .string) (h:DataW.Trod enc P W 0 (fun _=>true) true t v d p) (hv:∃ cs,v = .agg cs∧cs.size=P.cellsOf t) :
  ∃ (l:List (List UInt8)) (a b:Int) (x:List UInt8),VR W (fun B=>B < W.heap.size) noMap (.agg [.vec l.length (l.map S),.int .i64 a,.int .i64 b,S x]) v∧l.length < 2 ^ 48∧(∀ x∈l,x.length < 2 ^ 63)∧(Lit.int .i64 a).wf=true∧(Lit.int .i64 b).wf=true∧x.length < 2 ^ 63:=by
 obtain ⟨fuel,hf⟩:=h
 obtain ⟨cs,rfl,hsize⟩:=hv
 obtain ⟨xs,n,rfl,hx,hl,hxl,hfs⟩:=DataW.trod_struct hu hf
 obtain ⟨c0,c1,c2,c3,hcl⟩:∃ c0 c1 c2 c3,cs.toList=[c0,c1,c2,c3]:=by
  rw [hcs.2.2.2.2] at hsize
  have:cs.toList.length=4:=by simpa using hsize
  match cs.toList,this with
  | [a,b,c,d],_=>exact ⟨a,b,c,d,rfl⟩
 have hcells:(Value.agg cs).cells.toList=[c0,c1,c2,c3]:=hcl
 rw [hcells] at hfs
 have g0:=hfs 0 f0 rfl
 have g1:=hfs 1 f1 rfl
 have g2:=hfs 2 f2 rfl
 have g3:=hfs 3 f3 rfl
 rw [hof.1,hcs.1] at g0
 rw [hof.2.1,hcs.2.1] at g1
 rw [hof.2.2.1,hcs.2.2.1] at g2
 rw [hof.2.2.2,hcs.2.2.2.1] at g3
 simp only [List.drop_zero,List.drop_succ_cons,List.take_succ_cons,List.take_zero] at g0 g1 g2 g3
 have hx4:xs.length=4:=by simpa using hxl
 match xs,hx4,hx,g0,g1,g2,g3 with
 | [y0,y1,y2,y3],_,hx,g0,g1,g2,g3 =>
  simp only [List.getElem?_cons_zero,List.getElem?_cons_succ] at g0 g1 g2 g3
  obtain ⟨a,q1,q2,q3⟩:=DataW.trod_int h1 g1
  obtain ⟨b,r1,r2,r3⟩:=DataW.trod_int h2 g2
  obtain ⟨s,s1,s2,s3⟩:=DataW.trod_string h3 g3
  have w:(DataW.weightsEach P [f0.type,f1.type,f2.type,f3.type] [y0.1,y1.1,y2.1,y3.1]).all (· ≤ reachBytes)=true:=by
   rw [List.all_eq_true]
   intro m hm
   refine List.all_eq_true.1 hsz m (DataW.weights_mem_each ht hd m ?_)
   have hd':d = .agg [y0.1,y1.1,y2.1,y3.1]:=by simp only [Prod.mk.injEq] at hx;exact hx.1
   rw [hd']
   simpa [DataW.weights,hu] using hm
  have hsl:∃ a len cap,c0 = .slice a len cap:=by
   rcases open_strings h0 he hc g0 with ⟨hc0,_⟩|⟨a,len,cap,ss,hc0,_⟩
   ·exact ⟨none,0,0,by simpa using hc0⟩
   ·exact ⟨_,_,_,by simpa using hc0⟩
  obtain ⟨l,y,k1,k2⟩:=open_SL (j:=0) (v:=c0) w rfl rfl h0 he hc hb (p:=y0.2) ⟨n,by obtain ⟨a,len,cap,rfl⟩:=hsl;exact g0⟩ hsl
  simp only [List.cons.injEq,and_true] at q1 r1 s1
  subst q1 r1 s1
  refine ⟨l,a,b,s.data.toList,?_,k1,k2,q3,r3,len_S s3⟩
  have cc:=Cells.cons y (Cells.cons (.int .i64 a) (Cells.cons (.int .i64 b) (Cells.cons (vr_S s) Cells.nil)))
  have:=cc.agg
  have e:cs=[c0,.int .i64 a,.int .i64 b,.string s].toArray:=by rw [←hcl]
  rw [e]
  exact this
end
end Go.Proofs.YtjcnihmbpakipaaGreatDoor.X
