/-
  Rows: what comes into a law, read as plain lists.
-/
import Derived.Test.YtmbndhciflilbaaGreatDoorXB
import Derived.SizedLaws
import Derived.SliceStrings
import Derived.ChangeSlices
import Derived.Deep.Grids
import Derived.Carry
import Derived.ShutString
import Derived.OpenShut
import Derived.ChangeArms
namespace Go.Proofs.YtmbndhciflilbaaGreatDoor.X
open Go.RowKit Go.ChangeShapes Go.WideShapes Go.Deep
set_option linter.unusedVariables false
section
variable {H:Type} {enc:TypeId×Value→H} {P:Program} {W:World}
theorem A4z {a:Addr} {n:Nat} {u:Nat→Value} (hn:0 < n) (h:∀ i,i < n→W.cell? (a.add i)=some (u i)) :
  ∃ (B o:Nat) (cs:Array Value) (e:TypeId) (fz:Nat×Nat),a=⟨B,o,none⟩∧W.heap[B]? = some (.cells cs e fz)∧∀ i,i < n→cs[o+i]? = some (u i):=by
 obtain ⟨B,o,sp⟩:=a
 have h0:=h 0 hn
 simp only [Addr.add,if_true] at h0
 unfold World.cell? at h0
 cases hB:W.heap[B]? with
 | none=>rw [hB] at h0;cases h0
 | some ob =>
  rw [hB] at h0
  cases ob with
  | cells cs e fz =>
   simp only at h0
   cases sp with
   | some s=>simp at h0
   | none =>
    refine ⟨B,o,cs,e,fz,rfl,hB,fun i hi=> ?_⟩
    have hi':=h i hi
    have e1:(Addr.mk B o none).add i=⟨B,o+i,none⟩:=by unfold Addr.add;split<;>simp_all
    rw [e1] at hi'
    unfold World.cell? at hi'
    simpa [hB] using hi'
  | map es c=>simp at h0
  | _=>simp at h0
theorem VR.Ag6 {α:Type} {f:α→AV} {l:List α} {a:Addr} {cap:Nat} (hl:l.length≤cap) {u:Nat→Value} (h:∀ i,i < l.length→W.cell? (a.add i)=some (u i))
  (hv:∀ i (hi:i < l.length) (I:Nat→Prop) (ρ : BMap),VR W I ρ (f l[i]) (u i)):VR W (fun B=>B < W.heap.size) Gn (TL f l) (.slice (some a) l.length cap):=by
 cases hn:l with
 | nil=>exact .vec0 a cap
 | cons x m =>
  rw [←hn]
  have hp:0 < l.length:=by rw [hn];simp
  obtain ⟨B,o,cs,e,fz,rfl,hB,hc⟩:=A4z hp h
  refine .vec _ _ B o cap cs e fz u (Array.getElem?_eq_some_iff.1 hB).1 hB hl (fun i hi=>hc i (by simpa using hi)) (fun i hi=> ?_)
  have hi':i < l.length:=by simpa using hi
  rw [List.getElem_map]
  exact hv i hi' _ _
theorem A5q {n b:Nat} (h:n * b≤reachBytes) (hb:1≤b):n < 2 ^ 48:=by
 have h1:=reachBytes_lt
 have:n * 1≤n * b:=Nat.mul_le_mul_left n hb
 omega
variable {ts:List TypeId} {ds:List (DataW H)} {j:Nat} {t e:TypeId} {v:Value} {d:DataW H} {p:List MemPlace}
theorem Aju (hsz:(DataW.weightsEach P ts ds).all (· ≤ reachBytes)=true) (ht:ts[j]? = some t) (hd:ds[j]? = some d) (hu:P.underlying t=some (.slice e)) (he:P.underlying e=some .bool) (hc:P.cellsOf e=1) (hb:1≤P.bytesOf e)
  (h:DataW.Trod enc P W 0 (fun _=>true) true t v d p) (hv:∃ a len cap,v = .slice a len cap):∃ l:List Bool,VR W (fun B=>B < W.heap.size) Gn (OL l) v∧l.length < 2 ^ 48:=by
 obtain ⟨fuel,hf⟩:=h
 obtain ⟨a0,len0,cap0,rfl⟩:=hv
 rcases open_bools hu he hc hf with ⟨hcs,_⟩|⟨a,len,cap,bs,hcs,_,hl,hm,hx,hcell⟩
 ·simp [Value.cells] at hcs
  obtain ⟨rfl,rfl,rfl⟩:=hcs
  exact ⟨[],.vecN,μ⟩
 ·simp [Value.cells] at hcs
  obtain ⟨rfl,rfl,rfl⟩:=hcs
  have hlen:((List.range len0).map bs).length=len0:=by simp
  refine ⟨(List.range len0).map bs,?_,?_⟩
  ·have:=VR.Ag6 (W:=W) (f:=AV.bool) (l:=(List.range len0).map bs) (a:=a) (cap:=cap0) (by rw [hlen];exact hl) (u:=fun i=> .bool (bs i))
    (fun i hi=>hcell i (by rw [hlen] at hi;omega)) (fun i hi I ρ => by
     simp only [List.getElem_map,List.getElem_range]
     exact .bool _)
   rwa [hlen] at this
  ·rw [hlen]
   have:=sized_slice hsz ht (by rw [hd];simp only [Prod.mk.injEq] at hx;rw [hx.1,boolRow]) hu
   simp only [List.length_map,List.length_range] at this
   have:=A5q this hb
   omega
theorem vr_S {I:Nat→Prop} {ρ : BMap} (s:ByteArray):VR W I ρ (S s.data.toList) (.string s):=by
 have e1:(⟨s.data.toList.toArray⟩:ByteArray)=s:=by simp
 have:=VR.str (w:=W) (I:=I) (ρ := ρ) ⟨s.data.toList.toArray⟩
 rw [e1] at this
 exact this
theorem len_S {s:ByteArray} (h:s.size≤maxLen):s.data.toList.length < 2 ^ 63:=by
 rw [Array.length_toList]
 have h2:s.data.size≤maxLen:=h
 have:maxLen=2 ^ 63 - 1:=rfl
 omega
theorem i64_of {n:Int} (h:(Lit.int .i64 n).wf=true) : -9223372036854775808≤n∧n≤9223372036854775807:=bounds_i64 h
end
end Go.Proofs.YtmbndhciflilbaaGreatDoor.X
