/-
  Rows: a layout and three fields more, each read by its own rule; hurts.
-/
import Derived.Test.YtpabfpccpbakfaaGreatDoorVG
namespace Go.Proofs.YtpabfpccpbakfaaGreatDoor.X
open Go.RowKit Go.ChangeShapes Go.WideShapes Go.Deep
set_option linter.unusedVariables false
section
variable {H:Type} {enc:TypeId×Value→H} {P:Program} {W:World} {t:TypeId} {v:Value} {d:DataW H} {p:List MemPlace} {ts:List TypeId} {ds:List (DataW H)} {j:Nat}
def Rd {α:Type} (enc:TypeId×Value→H) (P:Program) (W:World) (t:TypeId) (g:α→AV) (Q:α→Prop):Prop :=
 ∀ (ts:List TypeId) (ds:List (DataW H)) (j n:Nat) (cv:Value) (y:DataW H×List MemPlace),(DataW.weightsEach P ts ds).all (· ≤ reachBytes)=true→ts[j]? = some t→ds[j]? = some y.1→DataW.trod enc P W 0 (fun _=>true) true n t [cv]=some y→∃ x:α,VR W (fun B=>B < W.heap.size) Fk (g x) cv∧Q x
theorem Aeu (h:P.underlying t=some (.int .i64)):Rd enc P W t (AV.int .i64) fun x=>(Lit.int .i64 x).wf=true:=fun ts ds j n cv y _ _ _ hf=>by
 obtain ⟨a,q,_,w⟩:=DataW.trod_int h hf
 simp only [List.cons.injEq,and_true] at q
 subst q
 exact ⟨a,.int _ _,w⟩
theorem Qw {e:TypeId} {n:Nat} {c:Value} {y:DataW H×List MemPlace} (hu:P.underlying t=some (.slice e)) (g:DataW.trod enc P W 0 (fun _=>true) true n t [c]=some y):∃ a len cap,c = .slice a len cap:=by
 rcases open_slice hu g with ⟨hc0,_⟩|⟨a,len,cap,_,_,_,_,hc0,_⟩
 ·exact ⟨none,0,0,by simpa using hc0⟩
 ·exact ⟨_,_,_,by simpa using hc0⟩
theorem rd_SL {e:TypeId} (hu:P.underlying t=some (.slice e)) (he:P.underlying e=some .string) (hc:P.cellsOf e=1) (hb:1≤P.bytesOf e):Rd enc P W t SL fun l=>l.length < 2 ^ 48∧∀ x∈l,x.length < 2 ^ 63:=fun ts ds j n cv y hsz ht hd hf=>by
 have s:=Qw hu hf
 obtain ⟨l,v,b,b'⟩:=Am2 (j:=j) (v:=cv) (d:=y.1) (p:=y.2) hsz ht hd hu he hc hb ⟨n,by obtain ⟨a,len,cap,rfl⟩:=s;exact hf⟩ s
 exact ⟨l,v,b,b'⟩
theorem rd_IL {e:TypeId} (hu:P.underlying t=some (.slice e)) (he:P.underlying e=some (.int .i64)) (hc:P.cellsOf e=1) (hb:1≤P.bytesOf e):Rd enc P W t IL fun l=>l.length < 2 ^ 48∧∀ x∈l,(Lit.int .i64 x).wf=true:=fun ts ds j n cv y hsz ht hd hf=>by
 have s:=Qw hu hf
 obtain ⟨l,v,b,b'⟩:=Am3 (j:=j) (v:=cv) (d:=y.1) (p:=y.2) hsz ht hd hu he hc hb ⟨n,by obtain ⟨a,len,cap,rfl⟩:=s;exact hf⟩ s
 exact ⟨l,v,b,b'⟩
structure HuD where
 d:Int
 n:Int
 s:List UInt8
 al:Bool
def HuC (x:HuD):List AV:=[.int .i64 x.d,.int .i64 x.n,S x.s,.bool x.al]
def HuW (x:HuD):Prop:=(Lit.int .i64 x.d).wf=true∧(Lit.int .i64 x.n).wf=true∧x.s.length < 2 ^ 63
structure HuT (P:Program) (t:TypeId) (f0 f1 f2 f3:Field):Prop where
 hu:P.underlying t=some (.struct #[f0,f1,f2,f3])
 hof:f0.offset=0∧f1.offset=1∧f2.offset=2∧f3.offset=3
 hcs:P.cellsOf f0.type=1∧P.cellsOf f1.type=1∧P.cellsOf f2.type=1∧P.cellsOf f3.type=1∧P.cellsOf t=4
 h0:P.underlying f0.type=some (.int .i64)
 h1:P.underlying f1.type=some (.int .i64)
 h2:P.underlying f2.type=some .string
 h3:P.underlying f3.type=some .bool
theorem Am5 {f0 f1 f2 f3:Field} (T:HuT P t f0 f1 f2 f3) {fuel:Nat} {cs:List Value} {x:DataW H×List MemPlace} (hf:DataW.trod enc P W 0 (fun _=>true) true fuel t cs=some x) :
  ∃ o:HuD,(∀ I ρ,Cells W I ρ (HuC o) cs)∧HuW o:=by
 obtain ⟨hu,hof,hcs,h0,h1,h2,h3⟩:=T
 obtain ⟨xs,n,rfl,hx,hl,hxl,hfs⟩:=DataW.trod_struct hu hf
 obtain ⟨c0,c1,c2,c3,rfl⟩:∃ c0 c1 c2 c3,cs=[c0,c1,c2,c3]:=by
  rw [hcs.2.2.2.2] at hl
  match cs,hl with
  | [a,b,c,d],_=>exact ⟨a,b,c,d,rfl⟩
 have k0:=hfs 0 f0 rfl
 have k1:=hfs 1 f1 rfl
 have k2:=hfs 2 f2 rfl
 have k3:=hfs 3 f3 rfl
 rw [hof.1,hcs.1] at k0
 rw [hof.2.1,hcs.2.1] at k1
 rw [hof.2.2.1,hcs.2.2.1] at k2
 rw [hof.2.2.2,hcs.2.2.2.1] at k3
 simp only [List.drop_zero,List.drop_succ_cons,List.take_succ_cons,List.take_zero] at k0 k1 k2 k3
 have hx4:xs.length=4:=by simpa using hxl
 match xs,hx4,hx,k0,k1,k2,k3 with
 | [y0,y1,y2,y3],_,hx,k0,k1,k2,k3 =>
  simp only [List.getElem?_cons_zero,List.getElem?_cons_succ] at k0 k1 k2 k3
  obtain ⟨a0,q0,_,w0⟩:=DataW.trod_int h0 k0
  obtain ⟨a,q1,_,w1⟩:=DataW.trod_int h1 k1
  obtain ⟨s,q2,_,w2⟩:=DataW.trod_string h2 k2
  obtain ⟨b,q3,_⟩:=DataW.trod_bool h3 k3
  simp only [List.cons.injEq,and_true] at q0 q1 q2 q3
  subst q0 q1 q2 q3
  exact ⟨⟨a0,a,s.data.toList,b⟩,fun I ρ => Cells.cons (.int _ _) (Cells.cons (.int _ _) (Cells.cons (vr_S s) (Cells.cons (.bool _) Cells.nil))),w0,w1,len_S w2⟩
theorem Ahh {e:TypeId} {f0 f1 f2 f3:Field} (hsz:(DataW.weightsEach P ts ds).all (· ≤ reachBytes)=true) (ht:ts[j]? = some t) (hd:ds[j]? = some d) (hu:P.underlying t=some (.slice e)) (T:HuT P e f0 f1 f2 f3) (hb:1≤P.bytesOf e)
  (h:DataW.Trod enc P W 0 (fun _=>true) true t v d p) (hv:∃ a len cap,v = .slice a len cap):∃ l:List HuD,VR W (fun B=>B < W.heap.size) Fk (TR HuC l) v∧l.length < 2 ^ 48∧∀ x∈l,HuW x:=by
 obtain ⟨fuel,hf⟩:=h
 obtain ⟨a0,len0,cap0,rfl⟩:=hv
 rcases open_slice hu hf with ⟨hcs,_⟩|⟨a,len,cap,m,n,D,Pl,hcs,_,hl,hm,hmm,hx,hall⟩
 ·simp [Value.cells] at hcs
  obtain ⟨rfl,rfl,rfl⟩:=hcs
  exact ⟨[],.vecN,by simp,by simp⟩
 ·simp [Value.cells] at hcs
  obtain ⟨rfl,rfl,rfl⟩:=hcs
  simp only [if_true] at hmm
  have hz:=T.hcs.2.2.2.2
  have key:∀ i,i < len0→∃ o:HuD,(∃ cs',W.cells? 0 (a.add (i * 4)) 4=some cs'∧∀ I ρ,Cells W I ρ (HuC o) cs')∧HuW o:=fun i hi=>by
   obtain ⟨cs',h1,h2⟩:=hall i (by omega)
   rw [hz] at h1
   obtain ⟨o,h3,h4⟩:=Am5 T h2
   exact ⟨o,⟨cs',h1,h3⟩,h4⟩
  haveI:Inhabited HuD:=⟨⟨0,0,[],false⟩⟩
  obtain ⟨f,hf⟩:=choose_lt (α:=HuD) (p:=fun i o=>(∃ cs',W.cells? 0 (a.add (i * 4)) 4=some cs'∧∀ I ρ,Cells W I ρ (HuC o) cs')∧HuW o) key
  have hlen:((List.range len0).map f).length=len0:=by simp
  refine ⟨(List.range len0).map f,?_,?_,fun x hx=> ?_⟩
  ·have:=VR.Akj (W:=W) (g:=HuC) (z:=4) (fun _=>rfl) (by decide) (l:=(List.range len0).map f) (a:=a) (cap:=cap0) (by rw [hlen];exact hl) (fun i hi=>by
    simp only [List.getElem_map,List.getElem_range]
    exact (hf i (by rw [hlen] at hi;exact hi)).1)
   rwa [hlen] at this
  ·rw [hlen]
   have:=sized_slice hsz ht (by rw [hd];simp only [Prod.mk.injEq] at hx;rw [hx.1]) hu
   simp only [List.length_map,List.length_range] at this
   have:=Te this hb
   omega
  ·obtain ⟨i,hi,rfl⟩:=List.mem_map.1 hx
   exact (hf i (List.mem_range.1 hi)).2
theorem rd_HU {e:TypeId} {f0 f1 f2 f3:Field} (hu:P.underlying t=some (.slice e)) (T:HuT P e f0 f1 f2 f3) (hb:1≤P.bytesOf e):Rd enc P W t (TR HuC) fun l=>l.length < 2 ^ 48∧∀ x∈l,HuW x:=fun ts ds j n cv y hsz ht hd hf=>by
 have s:=Qw hu hf
 obtain ⟨l,v,b,b'⟩:=Ahh (j:=j) (v:=cv) (d:=y.1) (p:=y.2) hsz ht hd hu T hb ⟨n,by obtain ⟨a,len,cap,rfl⟩:=s;exact hf⟩ s
 exact ⟨l,v,b,b'⟩
end
end Go.Proofs.YtpabfpccpbakfaaGreatDoor.X
