/-
  Texts of a proof, as one: B1, B2, V20, V21, V22, XOL, V23, V24, V25, V26, V27, V28, V29.
-/
import Derived.Shelf.Lay
import Derived.Shelf.Strings.BuilderF
import Derived.Ground.NamesProg
import Derived.Test.YtmbndhciflilbaaGreatDoorEA
import Derived.Test.YtmbndhciflilbaaGreatDoorVA
namespace Go.Proofs.YtmbndhciflilbaaGreatDoor.X
open Go.RowKit Go.Shelf
set_option linter.unusedVariables false
section
variable {P:Program} {ρ : Ren}
def SzK (w w':World):Prop:= ∀ (k:Nat) (cs:Array Value) (e:TypeId) (fz:Nat×Nat),w.heap[k]? = some (.cells cs e fz)→∃ (cs':Array Value) (e':TypeId) (fz':Nat×Nat),w'.heap[k]? = some (.cells cs' e' fz')∧cs'.size=cs.size
theorem SzK.refl (w:World):SzK w w:=fun k cs e fz h=>⟨cs,e,fz,h,rfl⟩
theorem SzK.trans {w w1 w2:World} (a:SzK w w1) (b:SzK w1 w2):SzK w w2:=fun k cs e fz h=>by
 obtain ⟨c1,e1,f1,h1,s1⟩:=a k cs e fz h
 obtain ⟨c2,e2,f2,h2,s2⟩:=b k c1 e1 f1 h1
 exact ⟨c2,e2,f2,h2,s2.trans s1⟩
theorem SzK.set (w:World) (a:Addr) (v:Value):SzK w (w.setCell a v):=fun k cs e fz h=>by
 simp only [World.setCell,Array.getElem?_modify]
 by_cases hk:a.block=k
 ·rw [if_pos hk,h]
  refine ⟨_,_,_,rfl,?_⟩
  split<;>simp
 ·rw [if_neg hk];exact ⟨cs,e,fz,h,rfl⟩
theorem Ahs (w:World) (t u ty e:TypeId) (i:TypeInfo) (ht:P.underlying t=some (.slice e)) (hu:P.underlying u=some .string) (hi:P.info? e=some i) (hz:i.zero=some (.int .u8 0)) (hs1:i.size=1) (hb1:i.bytes=1)
  (v:Value) (n:Nat) (xs:List Value) (hown:w.ownsRowF 0 e 1 v n xs) (s:ByteArray) (hn:n+s.size≤140737488355328) :
  ∃ v' w',(Builtin.append_ #[t,u] ty #[v,.string s]).run P w = .ok v' w'∧w'.ownsRowF 0 e 1 v' (n+s.size) (xs ++ Lib.strCells s)∧w.grownBy w' v.ownBlock∧(v'.ownBlock=v.ownBlock∨∃ g,v'.ownBlock=some g∧w.heap.size≤g)∧SzK w w':=by
 have lt:∀ {k:Nat} {o:Obj},w.heap[k]? = some o→k < w.heap.size:=fun h=>(Array.getElem?_eq_some_iff.1 h).1
 rcases hown.2 with ⟨rfl,h0⟩|⟨g,cap,cur,fz,rfl,_,hg,hfz,hnc,hcm,hcs,htk⟩
 ·subst h0
  have hx:xs=[]:=List.eq_nil_of_length_eq_zero (by simpa using hown.1)
  subst hx
  obtain ⟨v',w',h1,h2,h3,h4⟩:=Lib.run_append_own_string (P:=P) w w.heap.size t u ty e i ht hu hi hz hs1 hb1 (.slice none 0 0) 0 [] ⟨μ,.inl ⟨rfl,rfl⟩⟩ s (by unfold maxLen;omega) hn (Nat.le_refl _)
  refine ⟨v',w',h1,?_,h3,?_,fun k cs e fz hk=>⟨cs,e,fz,by rw [h3.block k (lt hk) (by simp [Value.ownBlock])];exact hk,rfl⟩⟩
  ·refine ⟨h2.1,?_⟩
   rcases h2.2 with hh|⟨g,cap,cur,hv,hb,hg,r1,r2,r3,r4⟩
   ·exact .inl hh
   ·exact .inr ⟨g,cap,cur,(0,0),hv,Nat.zero_le _,hg,Nat.zero_le _,r1,r2,r3,r4⟩
  ·rcases h2.2 with ⟨hh,_⟩|⟨g,cap,cur,hv,hb,hg,_⟩
   ·left;rw [hh]
   ·right;exact ⟨g,by rw [hv];rfl,hb⟩
 ·have hxl:xs.length=n:=by simpa using hown.1
  have hlen:(xs ++ Lib.strCells s).length=(n+s.size) * 1:=by rw [List.length_append,hxl,Lib.strCells_length,Nat.mul_one]
  by_cases hroom:n+s.size≤cap
  ·have hcs':cur.size=cap:=by simpa using hcs
   have hr:=Lib.run_append_room_stringF (P:=P) w t u ty e i ht hu hi hs1 g n cap cur fz hg (by simpa using hfz) s hroom ω
   refine ⟨_,_,hr,⟨hlen,.inr ⟨g,cap,_,fz,rfl,Nat.zero_le _,setRow_heap w g cur _ e _ hg,ω,hroom,hcm,?_,?_⟩⟩,⟨rfl,rfl,rfl,μ,fun k _ hk=>setRow_other w g k _ (fun e=>hk (by simp [Value.ownBlock,e]))⟩,.inl rfl,fun k cs e' fz' hk=> ?_⟩
   ·simp only [List.size_toArray,List.length_append,List.length_take,List.length_drop,Array.length_toList,Lib.strCells_length]
    omega
   ·have ht':cur.toList.take n=xs:=by simpa using htk
    rw [ht',←hlen]
    exact List.take_left
   ·by_cases hkg:k=g
    ·subst hkg
     rw [hg] at hk
     cases hk
     refine ⟨_,_,_,setRow_heap w _ _ _ _ _ hg,?_⟩
     simp only [List.size_toArray,List.length_append,List.length_take,List.length_drop,Array.length_toList,Lib.strCells_length]
     omega
    ·exact ⟨cs,e',fz',by rw [setRow_other w g k _ hkg];exact hk,rfl⟩
  ·have holds:∀ j u,xs[j]? = some u→w.cell? ((⟨g,0,none⟩:Addr).add j)=some u:=hown.cells (g:=g) rfl
   have hr:=Lib.run_append_grow_string (P:=P) w t u ty e i (.int .u8 0) ht hu hi hz ⟨g,0,none⟩ n cap xs (by rw [hs1];simpa using hxl) holds s ω ω (by rw [hb1];exact growslice_fits ω ω)
   refine ⟨_,_,hr,⟨hlen,.inr ⟨w.heap.size,_,_,(0,0),rfl,Nat.zero_le _,heap_alloc_new w.drew _,Nat.zero_le _,grownCap_ge w (n+s.size) cap e,grownCap_le_maxLen w (n+s.size) cap e (by unfold maxLen;omega),?_,?_⟩⟩,
    ⟨rfl,rfl,rfl,μ,fun k hk _=>heap_alloc_old w.drew _ hk⟩,.inr ⟨w.heap.size,rfl,Nat.le_refl _⟩,fun k cs e' fz' hk=>⟨cs,e',fz',by rw [heap_alloc_old w.drew _ (lt hk)];exact hk,rfl⟩⟩
   ·have hz1:(Value.int IntKind.u8 0).cells.size=1:=rfl
    have hge:=grownCap_ge w (n+s.size) cap e
    simp only [Array.size_append,List.size_toArray,size_zeroCells,hz1,hxl,Lib.strCells_length]
    omega
   ·simp only [Array.toList_append,List.append_assoc]
    rw [←List.append_assoc,←hlen]
    exact List.take_left
theorem A75 {w:World} {ops:Array Oper} {rest:List Oper} {o:Oper} {a:Act} {Q:Exit→Act→World→Prop} (hgd:o.guard=none) (sl x:Operand) (t u:TypeId)
  (ho:o.op = .call { callee:= .builtin .append,args := #[sl,x],argTypes := #[t,u] }) (e:TypeId) (i:TypeInfo) (ht:P.underlying t=some (.slice e)) (hu:P.underlying u=some .string) (hi:P.info? e=some i)
  (hz:i.zero=some (.int .u8 0)) (hs1:i.size=1) (hb1:i.bytes=1) (v:Value) (n:Nat) (xs:List Value) (hs:a.eval sl=v) (hown:w.ownsRowF 0 e 1 v n xs) (s:ByteArray) (hx:a.eval x = .string s) (hn:n+s.size≤140737488355328)
  (h:∀ v' w',w'.ownsRowF 0 e 1 v' (n+s.size) (xs ++ Lib.strCells s)→w.grownBy w' v.ownBlock→(v'.ownBlock=v.ownBlock∨∃ g,v'.ownBlock=some g∧w.heap.size≤g)→SzK w w'→wpList P ops Q rest (a.put o.dst v') w'):wpList P ops Q (o :: rest) a w:=by
 refine wpList_plain hgd fun K hK=> ?_
 obtain ⟨v',w',hr,h2,h3,h4,h5⟩:=Ahs (P:=P) w t u o.type e i ht hu hi hz hs1 hb1 v n xs hown s hn
 unfold Oper.wp execOp
 simp only [ho,resolve,invoke,builtin,Sem.run_bind,Sem.run_pure,Result.andThen_ok,List.map_toArray,List.map_cons,List.map_nil,hs,hx,hr]
 exact hK _ _ (h v' w' h2 h3 h4 h5)
structure BAt (T e:TypeId) (b:Nat) (v:Value) (n:Nat) (xs:List Value) (w:World):Prop where
 blk:∃ p:Value,(p = .pointer none∨p = .pointer (some ⟨b,0,none⟩))∧w.heap[b]? = some (.cells #[p,v] T (0,0))
 own:w.ownsRowF 0 e 1 v n xs
 ne:v.ownBlock≠some b
set_option maxHeartbeats 2000000 in
set_option maxRecDepth 100000 in
theorem Ab1 (L:Lays.n166 P ρ) (X:Builder.Extra P ρ) {b:Nat} {v:Value} {n:Nat} {xs:List Value} {w:World} (h:BAt (ρ.t 72) (ρ.t 5) b v n xs w) (s:ByteArray) (hlen:n+s.size≤140737488355328) :
  Calls P (ρ.f 166) #[.pointer (some ⟨b,0,none⟩),.string s] w fun e w'=>e = .returned (.tuple #[.int .i64 s.size,.nilIface])∧∃ v',BAt (ρ.t 72) (ρ.t 5) b v' (n+s.size) (xs ++ Lib.strCells s) w' ∧
   (∀ k,k < w.heap.size→k≠b→v.ownBlock≠some k→w'.heap[k]? = w.heap[k]?)∧w.heap.size≤w'.heap.size∧w'.os=w.os∧w'.tape=w.tape∧w'.output=w.output∧(v'.ownBlock=v.ownBlock∨∃ g,v'.ownBlock=some g∧w.heap.size≤g)∧SzK w w':=by
 obtain ⟨i0,hi,hz0,hz1,hz2⟩:=info_parts X.infoByte
 have mixed:=L.mixed
 have t72:=L.t72;have a72:=L.a72;have z72:=L.z72;have v72:=L.v72;have u72:=run_underlying L.t72
 have t70:=L.t70;have a70:=L.a70;have z70:=L.z70;have v70:=L.v70;have u70:=run_underlying L.t70
 have t37:=L.t37;have a37:=L.a37;have z37:=L.z37;have v37:=L.v37;have u37:=run_underlying L.t37
 have t3:=L.t3;have a3:=L.a3;have z3:=L.z3;have v3:=L.v3;have u3:=run_underlying L.t3
 have t9:=L.t9;have a9:=L.a9;have z9:=L.z9;have v9:=L.v9;have u9:=run_underlying L.t9
 have t4:=L.t4;have a4:=L.a4;have z4:=L.z4;have v4:=L.v4;have u4:=run_underlying L.t4
 have t164:=L.t164;have a164:=L.a164;have z164:=L.z164;have v164:=L.v164;have u164:=run_underlying L.t164
 have t5:=X.t5;have a5:=X.a5;have z5:=X.z5;have v5:=X.v5;have u5:=run_underlying X.t5
 have e240:∀ args w,(callFunc (ρ.f 240) args).run P w = .ok (.enter (ρ.f 240) args) w:=enters_of L.f240 κ rfl
 obtain ⟨p,hp,hbk⟩:=h.blk
 have hlt:b < w.heap.size:=(Array.getElem?_eq_some_iff.1 hbk).1
 have w0:w.cell? ⟨b,0,none⟩=some p:=by rw [Lib.cell_of_heap hbk];rfl
 have copy:Calls P (ρ.f 240) #[.pointer (some ⟨b,0,none⟩)] w fun e w'=>e = .returned (.tuple #[])∧w'.heap[b]? = some (.cells #[.pointer (some ⟨b,0,none⟩),v] (ρ.t 72) (0,0)) ∧
   (∀ k,k≠b→w'.heap[k]? = w.heap[k]?)∧w'.heap.size=w.heap.size∧w'.os=w.os∧w'.tape=w.tape∧w'.output=w.output∧SzK w w':=by
  rcases hp with rfl|rfl
  ·refine (Any.Builder_copyCheck_fresh { L with } X.toX72 b w w0 (by simp [World.shape?,hbk]) (Lib.frozen_of_heap hbk 0)).mono ?_
   rintro e w' ⟨rfl,rfl⟩
   refine ⟨rfl,?_,fun k hk=> ?_,by simp [World.setCell],rfl,rfl,rfl,SzK.set _ _ _⟩
   ·simp [World.setCell,Array.getElem?_modify,hbk]
   ·simp [World.setCell,Array.getElem?_modify,Ne.symm hk]
  ·refine (Any.Builder_copyCheck_used { L with } X.toX72 b w w0).mono ?_
   rintro e w' ⟨rfl,rfl⟩
   exact ⟨rfl,hbk,fun _ _=>rfl,rfl,rfl,rfl,rfl,SzK.refl _⟩
 go_enter L.f166,Body.n166_ntmps ρ
 go_wp2_with (go_at_fn (ρ.f 240);refine copy.mono ?_)
 rintro e w1 ⟨rfl,hb1,hk1,hs1,ho1,ht1,hu1,hz1'⟩
 have hown1:w1.ownsRowF 0 (ρ.t 5) 1 v n xs:=by
  refine ⟨h.own.1,?_⟩
  rcases h.own.2 with hh|⟨g,cap,cur,fz,hv,r0,r1,r2⟩
  ·exact .inl hh
  ·exact .inr ⟨g,cap,cur,fz,hv,r0,by rw [hk1 g (fun e=>h.ne (by rw [hv,e];rfl))];exact r1,r2⟩
 have c0:w1.cell? ⟨b,0,none⟩=some (.pointer (some ⟨b,0,none⟩)):=by rw [Lib.cell_of_heap hb1];rfl
 have c1:w1.cell? ⟨b,1,none⟩=some v:=by rw [Lib.cell_of_heap hb1];rfl
 go_wp2_with (at_builtin;refine A75 rfl _ _ (ρ.t 37) (ρ.t 9) rfl (ρ.t 5) i0 L.t37 L.t9 hi hz0 hz1 hz2 _ _ _ rfl hown1 s rfl hlen ?_)
 intro v' w2 hown' hgrow hrow hsz
 have hb2:w2.heap[b]? = some (.cells #[.pointer (some ⟨b,0,none⟩),v] (ρ.t 72) (0,0)):=by
  rw [hgrow.block b ω (fun e=>h.ne e.symm)]
  exact hb1
 have d0:w2.cell? ⟨b,0,none⟩=some (.pointer (some ⟨b,0,none⟩)):=by rw [Lib.cell_of_heap hb2];rfl
 have d1:w2.cell? ⟨b,1,none⟩=some v:=by rw [Lib.cell_of_heap hb2];rfl
 have f1:w2.frozen? ⟨b,1,none⟩=false:=Lib.frozen_of_heap hb2 1
 obtain ⟨ao,n',cap,rfl⟩:∃ ao n' cap,v' = .slice ao n' cap:=by
  rcases hown'.2 with ⟨hv,_⟩|⟨g,cap,cur,fz,hv,_⟩
  ·exact ⟨_,_,_,hv⟩
  ·exact ⟨_,_,_,hv⟩
 have hne':(Value.slice ao n' cap).ownBlock≠some b:=by
  rcases hrow with hrow|⟨g,hg,hgs⟩
  ·rw [hrow];exact h.ne
  ·rw [hg];intro e;cases e;omega
 go_wp2
 go_ret2
 refine ⟨rfl,.slice ao n' cap,⟨⟨_,.inr rfl,?_⟩,⟨hown'.1,?_⟩,hne'⟩,fun k hk hkb hkr=> ?_,?_,?_,?_,?_,?_,(hz1'.trans hsz).trans (SzK.set _ _ _)⟩
 ·simp [World.setCell,Array.getElem?_modify,hb2]
 ·rcases hown'.2 with hh|⟨g,cap,cur,fz,hv,r0,r1,r2⟩
  ·exact .inl hh
  ·refine .inr ⟨g,cap,cur,fz,hv,r0,?_,r2⟩
   have:g≠b:=fun e=>hne' (by rw [hv,e];rfl)
   simp [World.setCell,Array.getElem?_modify,Ne.symm this,r1]
 ·simp only [World.setCell,Array.getElem?_modify,if_neg (Ne.symm hkb)]
  rw [hgrow.block k ω (fun e=>hkr e.symm),hk1 k hkb]
 ·have:=hgrow.size;simp [World.setCell];omega
 ·exact hgrow.os.trans ho1
 ·exact hgrow.tape.trans ht1
 ·exact hgrow.output.trans hu1
 ·rcases hrow with hrow|⟨g,hg,hgs⟩
  ·exact .inl hrow
  ·exact .inr ⟨g,hg,ω⟩
set_option maxHeartbeats 1000000 in
set_option maxRecDepth 100000 in
theorem A76 (L:Lays.n169 P ρ) (X:Builder.Extra P ρ) {b g cap:Nat} {p:Value} {cur:Array Value} {fz:Nat×Nat} {l:List UInt8} {w:World} (hbk:w.heap[b]? = some (.cells #[p,.slice (some ⟨g,0,none⟩) l.length cap] (ρ.t 72) (0,0)))
  (hg:w.heap[g]? = some (.cells cur (ρ.t 5) fz)) (hle:l.length≤cap) (hcm:cap≤maxLen) (hcs:cur.size=cap) (htk:cur.toList.take l.length=Lib.byteCells l) (h0:l≠[]) :
  Calls P (ρ.f 169) #[.pointer (some ⟨b,0,none⟩)] w fun e w'=>e = .returned (.string ⟨l.toArray⟩)∧w'=w.drew.freeze ⟨g,0,none⟩ l.length:=by
 have hl0:l.length≠0:=by simpa using h0
 have c1:w.drew.cell? ⟨b,1,none⟩=some (.slice (some ⟨g,0,none⟩) l.length cap):=by
  have:w.drew.heap[b]? = some (.cells #[p,.slice (some ⟨g,0,none⟩) l.length cap] (ρ.t 72) (0,0)):=hbk
  rw [Lib.cell_of_heap this];rfl
 have hSD:(Builtin.unsafeSliceData_ #[(ρ.t 37)] (ρ.t 127) #[.slice (some ⟨g,0,none⟩) l.length cap]).run P w.drew = .ok (.pointer (some ⟨g,0,none⟩)) w.drew :=
  Lib.run_unsafeSliceData_row _ _ _ _ _ _ ω
 have hUS:(Builtin.unsafeString_ #[(ρ.t 127),(ρ.t 3)] (ρ.t 9) #[.pointer (some ⟨g,0,none⟩),.int .i64 l.length]).run P w.drew = .ok (.string ⟨l.toArray⟩) (w.drew.freeze ⟨g,0,none⟩ l.length):=by
  have hg':w.drew.heap[g]? = some (.cells cur (ρ.t 5) fz):=hg
  refine Lib.run_unsafeString_row w.drew (ρ.t 127) (ρ.t 3) (ρ.t 9) (ρ.t 5) L.t127 X.cellsByte g cur.size (by simp [World.shape?,hg']) l h0 ω (by unfold maxLen at hcm;omega) ?_
  intro j x hx
  have hjl:=(List.getElem?_eq_some_iff.1 hx).1
  have:(cur.toList.take l.length)[j]? = some (.int .u8 x.toNat):=by rw [htk];simp [Lib.byteCells,hx]
  rw [List.getElem?_take_of_lt hjl] at this
  have ha:(⟨g,0,none⟩:Addr).add j=⟨g,j,none⟩:=by
   simp [Addr.add]
   exact fun h=>h.symm
  rw [ha,Lib.cell_of_heap hg']
  simpa using this
 have mixed:=L.mixed
 have t72:=L.t72;have a72:=L.a72;have z72:=L.z72;have v72:=L.v72;have u72:=run_underlying L.t72
 have t70:=L.t70;have a70:=L.a70;have z70:=L.z70;have v70:=L.v70;have u70:=run_underlying L.t70
 have t37:=L.t37;have a37:=L.a37;have z37:=L.z37;have v37:=L.v37;have u37:=run_underlying L.t37
 have t127:=L.t127;have a127:=L.a127;have z127:=L.z127;have v127:=L.v127;have u127:=run_underlying L.t127
 have t3:=L.t3;have a3:=L.a3;have z3:=L.z3;have v3:=L.v3;have u3:=run_underlying L.t3
 have t9:=L.t9;have a9:=L.a9;have z9:=L.z9;have v9:=L.v9;have u9:=run_underlying L.t9
 have t5:=X.t5;have a5:=X.a5;have z5:=X.z5;have v5:=X.v5;have u5:=run_underlying X.t5
 go_enter L.f169,Body.n169_ntmps ρ
 go_wp2
 go_region_o
 all_goals (go_wp2;go_ret;exact ⟨rfl,rfl⟩)
end
open F
set_option maxRecDepth 100000
set_option linter.unusedSimpArgs false
def Aem (h:Heap) (txt:List UInt8):Option (Nat×Nat)→Prop
 | none=>True
 | some (g,cap)=>h.gh g=some (.brow 5 txt cap)
def L3 (h:Heap) (b:Nat) (txt:List UInt8):Prop:= ∃ row,h.gh b=some (.bld 160 5 txt row)∧Aem h txt row
theorem L3.at {I:Nat→Prop} {ρ : BMap} {w:World} {h:Heap} {b:Nat} {txt:List UInt8} {row:Option (Nat×Nat)} (R:RelL I ρ w h) (h1:h.gh b=some (.bld 160 5 txt row)) (h2:Aem h txt row):BAt 160 5 b (bufV txt.length row) txt.length (Lib.byteCells txt) w:=by
 obtain ⟨⟨k1,p,k2,k3⟩,_⟩:=R.gh b _ h1
 refine ⟨⟨p,k2,k3⟩,⟨by simp [Lib.byteCells],?_⟩,?_⟩
 ·match row,h2 with
  | none,_=>left;exact ⟨rfl,by rw [k1 rfl];rfl⟩
  | some (g,cap),h2 =>
   obtain ⟨⟨cur,fz,j1,j2,j3,j4,j5,j6⟩,_⟩:=R.gh g _ h2
   exact .inr ⟨g,cap,cur,fz,rfl,Nat.zero_le _,j1,ω,j3,j4,ω,by rw [Nat.mul_one];exact j6⟩
 ·match row,h2 with
  | none,_=>simp [bufV,Value.ownBlock]
  | some (g,cap),h2 =>
   intro e
   have:g=b:=by simpa [bufV,Value.ownBlock] using e
   subst this
   have h3:h.gh g=some (.brow 5 txt cap):=h2
   rw [h1] at h3
   cases h3
def ghW (h:Heap) (b:Nat) (txt:List UInt8) (row row':Option (Nat×Nat)):Nat→Option GO:=fun k =>
 if k=b then some (.bld 160 5 txt row') else match row' with
  | some (g',cap')=>if k=g' then some (.brow 5 txt cap') else if row.map Prod.fst=some k then none else h.gh k
  | none=>if row.map Prod.fst=some k then none else h.gh k
theorem Mf {h:Heap} {b:Nat} {txt:List UInt8} (hb:L3 h b txt) (s:List UInt8) (hl:txt.length+s.length≤140737488355328) :
  CSem Tryz.prog 106 [.gpt b,S s] h fun x h'=>x = .tup [.int .i64 s.length,.nilIf]∧∃ gh',h' = { h with gh:=gh' } ∧ L3 h' b (txt ++ s):=by
 obtain ⟨row,h1,h2⟩:=hb
 refine ⟨κ,fun I ρ w cargs R hc=> ?_⟩
 obtain ⟨cv,cs,rfl⟩:∃ cv cs,cargs=[cv,cs]:=by
  match cargs,hc.len with
  | [cv,cs],_=>exact ⟨cv,cs,rfl⟩
 have hv0:=hc.ok 0 _ _ rfl rfl
 have hv1:=hc.ok 1 _ _ rfl rfl
 cases hv0
 have hs:cs = .string ⟨s.toArray⟩:=by cases hv1;rfl
 subst hs
 have A:=L3.at R h1 h2
 have hsz:(ByteArray.mk s.toArray).size=s.length:=rfl
 refine (Ab1 (L:= { Tryz.Uj with }) Tryz.Ey A ⟨s.toArray⟩ (by rw [hsz];exact hl)).mono ?_
 rintro e w' ⟨rfl,v',A',frame,hsize,hos,htape,hout,hrow,hszk⟩
 have hown0:(bufV txt.length row).ownBlock=row.map Prod.fst:=by cases row<;>rfl
 rw [hown0] at frame hrow
 have hlen':(txt ++ s).length=txt.length+s.length:=List.length_append
 have hcells:Lib.byteCells txt ++ Lib.strCells ⟨s.toArray⟩=bytC (txt ++ s):=by rw [Lib.strCells_eq];simp [bytC,Lib.byteCells]
 rw [hcells,hsz,←hlen'] at A'
 obtain ⟨row',hv',hnil',hrw⟩:∃ row':Option (Nat×Nat),v'=bufV (txt ++ s).length row'∧(row'=none→txt ++ s=[])∧∀ g' cap',row'=some (g',cap')→GOk I ρ w' g' (.brow 5 (txt ++ s) cap'):=by
  rcases A'.own.2 with ⟨hv,h0⟩|⟨g',cap',cur,fz,hv,_,j1,j2,j3,j4,j5,j6⟩
  ·exact ⟨none,hv,fun _=>List.eq_nil_of_length_eq_zero h0,fun _ _ e=>by cases e⟩
  ·refine ⟨some (g',cap'),hv,fun e=>by (cases e),fun g2 cap2 e=> ?_⟩
   cases e
   exact ⟨cur,fz,j1,ω,j3,j4,ω,by rw [Nat.mul_one] at j6;exact j6⟩
 subst hv'
 have hown1:(bufV (txt ++ s).length row').ownBlock=row'.map Prod.fst:=by cases row'<;>rfl
 rw [hown1] at hrow
 have gb:=R.gh b _ h1
 have hblt:=gb.1.lt
 have hold:∀ g,row.map Prod.fst=some g→¬I g∧¬C9 ρ h g∧g < w.heap.size∧GhAt h g∧∃ cs e fz,w.heap[g]? = some (.cells cs e fz):=by
  intro g hg
  match row,h2,hg with
  | some (g0,cap),h2,hg =>
   cases hg
   have k:=R.gh g0 _ h2
   obtain ⟨cur,fz,k1,_⟩:=k.1
   exact ⟨k.2.1,k.2.2,Ce k1,⟨_,h2⟩,_,_,_,k1⟩
 obtain ⟨p0,_,hbk0⟩:=A.blk
 have K:E7 I ρ w I ρ w':=⟨fun B hB=>⟨hB,frame B (R.rel.imm B hB).1 (fun e=>gb.2.1 (e ▸ hB)) (fun e=>(hold B e).1 hB)⟩,fun _ _ h=>h,hszk⟩
 have hne':∀ g',row'.map Prod.fst=some g'→g'≠b:=by
  intro g' hg e
  refine A'.ne ?_
  rw [hown1,hg,e]
 have ghb:ghW h b (txt ++ s) row row' b=some (.bld 160 5 (txt ++ s) row'):=by unfold ghW;rw [if_pos rfl]
 have ghr:∀ g' cap',row'=some (g',cap')→ghW h b (txt ++ s) row row' g'=some (.brow 5 (txt ++ s) cap'):=by
  intro g' cap' e
  subst e
  unfold ghW
  rw [if_neg (hne' g' rfl)]
  simp
 have ghi:∀ B g,ghW h b (txt ++ s) row row' B=some g→B=b∨(∃ cap',row'=some (B,cap'))∨(B≠b∧row.map Prod.fst≠some B∧h.gh B=some g):=by
  intro B g hg
  unfold ghW at hg
  split at hg
  ·exact .inl ‹_›
  ·rename_i hB
   split at hg
   ·split at hg
    ·rename_i e;subst e;exact .inr (.inl ⟨_,rfl⟩)
    ·split at hg
     ·cases hg
     ·exact .inr (.inr ⟨hB, ‹_›,hg⟩)
   ·split at hg
    ·cases hg
    ·exact .inr (.inr ⟨hB, ‹_›,hg⟩)
 have hfresh:∀ g',row'.map Prod.fst=some g'→¬I g'∧¬C9 ρ h g'∧(GhAt h g'∨w.heap.size≤g'):=by
  intro g' hg
  rcases hrow with e|⟨g2,e,hge⟩
  ·rw [hg] at e
   obtain ⟨a1,a2,_,a4,_⟩:=hold g' e.symm
   exact ⟨a1,a2,.inl a4⟩
  ·rw [hg] at e
   cases e
   refine ⟨fun hi=>by have:=(R.rel.imm _ hi).1;omega,?_,.inr hge⟩
   rintro ⟨k,cs,o,hk,hρ⟩
   obtain ⟨ds,e,fz,q1,_⟩:=R.rel.cont k cs _ o hk hρ
   have:=Ce q1
   omega
 refine ⟨_,.tup [.int .i64 s.length,.nilIf], { h with gh:=ghW h b (txt ++ s) row row' },I, ρ,rfl,⟨rfl,_,rfl,row',ghb,?_⟩,⟨⟨R.rel.dom,fun k cells B o hk hρ => ?_,R.rel.inj,fun B hB=>⟨Nat.lt_of_lt_of_le (R.rel.imm B hB).1 hsize,(R.rel.imm B hB).2⟩⟩,fun lp hl=> ?_,fun B g hg=> ?_⟩,?_,
  ⟨hos,htape,hout,hsize,Nat.le_refl _,fun _ h=>h,fun _ _ h=>h,fun B hB ho hl hg=>frame B hB (fun e=>hg ⟨_,e ▸ h1⟩) (fun e=>hg (hold B e).2.2.2.1),K.cells,fun B h=> .inl h,fun _ h=> .inl h,rfl,?_⟩⟩
 ·match row',ghr with
  | none,_=>trivial
  | some (g',cap'),ghr=>exact ghr g' cap' rfl
 ·obtain ⟨cs,e,fz,g1,g2,g3⟩:=R.rel.cont k cells B o hk hρ
  have hO:C9 ρ h B:=⟨k,cells,o,hk,hρ⟩
  exact ⟨cs,e,fz,by rw [frame B (Ce g1) (fun e=>gb.2.2 (e ▸ hO)) (fun e=>(hold B e).2.1 hO)];exact g1,g2,g3.keep K⟩
 ·refine (R.lp lp hl).step K (fun _ h=> .inl h) (fun B l hcl=> ?_)
  rw [frame B (Ce hcl) (fun e=>by subst e;rw [hbk0] at hcl;cases hcl) (fun e=>by obtain ⟨_,_,_,_,cs,e',fz,q⟩:=hold B e;rw [q] at hcl;cases hcl)]
  exact hcl
 ·rcases ghi B g hg with rfl|⟨cap',e⟩|⟨n1,n2,n3⟩
  ·have:g = .bld 160 5 (txt ++ s) row':=by have:=hg.symm.trans ghb;cases this;rfl
   subst this
   obtain ⟨p,hp,hbk⟩:=A'.blk
   exact ⟨⟨hnil',p,hp,hbk⟩,gb.2.1,gb.2.2⟩
  ·have:g = .brow 5 (txt ++ s) cap':=by have:=hg.symm.trans (ghr B cap' e);cases this;rfl
   subst this
   have:=hfresh B (by rw [e];rfl)
   exact ⟨hrw B cap' e,this.1,this.2.1⟩
  ·obtain ⟨k1,k2,k3⟩:=R.gh B g n3
   exact ⟨k1.step K (frame B k1.lt n1 n2),k2,k3⟩
 ·have:=(Cells.cons (.int .i64 (s.length:Int)) (Cells.cons .nilIf Cells.nil):Cells w' I ρ _ _).arr
  exact .tup _ _ this.1 this.2
 ·rintro B ⟨g,hg⟩
  rcases ghi B g hg with rfl|⟨cap',e⟩|⟨n1,n2,n3⟩
  ·exact .inl ⟨_,h1⟩
  ·exact (hfresh B (by rw [e];rfl)).2.2
  ·exact .inl ⟨_,n3⟩
theorem RelL.frz {I:Nat→Prop} {ρ : BMap} {w w':World} {h:Heap} {g:Nat} {e:TypeId} {txt:List UInt8} {cap:Nat} (R:RelL I ρ w h) (hg:h.gh g=some (.brow e txt cap)) (hos:w'.os=w.os) (htape:w'.tape=w.tape) (hout:w'.output=w.output) (hsz:w'.heap.size=w.heap.size)
  (hother:∀ k,k≠g→w'.heap[k]? = w.heap[k]?) (hrow:∀ (cur:Array Value) (fz:Nat×Nat),w.heap[g]? = some (.cells cur e fz)→fz.2≤txt.length→∃ fz':Nat×Nat,w'.heap[g]? = some (.cells cur e fz')∧fz'.2≤txt.length) :
  RelL I ρ w' h∧Cb I ρ w h I ρ w' h:=by
 obtain ⟨⟨cur,fz,j1,j2,j3⟩,gi,go⟩:=R.gh g _ hg
 obtain ⟨fz',q1,q2⟩:=hrow cur fz j1 j2
 have K:E7 I ρ w I ρ w':=⟨fun B hB=>⟨hB,hother B (fun e=>gi (e ▸ hB))⟩,fun _ _ h=>h,fun B cs e' fz0 hc=>by
  by_cases hB:B=g
  ·subst hB
   rw [j1] at hc
   cases hc
   exact ⟨_,_,_,q1,rfl⟩
  ·exact ⟨_,_,_,by rw [hother B hB];exact hc,rfl⟩⟩
 refine ⟨⟨⟨R.rel.dom,fun k cells B o hk hρ => ?_,R.rel.inj,fun B hB=>⟨by rw [hsz];exact (R.rel.imm B hB).1,(R.rel.imm B hB).2⟩⟩,fun lp hl=> ?_,fun B x hx=> ?_⟩,
  ⟨hos,htape,hout,Nat.le_of_eq hsz.symm,Nat.le_refl _,fun _ h=>h,fun _ _ h=>h,fun B _ _ _ hn=>hother B (fun e=>hn ⟨_,e ▸ hg⟩),K.cells,fun B h=> .inl h,fun _ h=> .inl h,rfl,fun B h=> .inl h⟩⟩
 ·obtain ⟨cs,e',fz0,g1,g2,g3⟩:=R.rel.cont k cells B o hk hρ
  exact ⟨cs,e',fz0,by rw [hother B (fun e=>go (e ▸ ⟨k,cells,o,hk,hρ⟩))];exact g1,g2,g3.keep K⟩
 ·refine (R.lp lp hl).step K (fun _ h=> .inl h) (fun B l hcl=> ?_)
  rw [hother B (fun e=>by subst e;rw [j1] at hcl;cases hcl)]
  exact hcl
 ·obtain ⟨k1,k2,k3⟩:=R.gh B x hx
  by_cases hB:B=g
  ·subst hB
   rw [hg] at hx
   cases hx
   exact ⟨⟨cur,fz',q1,q2,j3⟩,k2,k3⟩
  ·exact ⟨k1.step K (hother B hB),k2,k3⟩
theorem Nn {h:Heap} {b:Nat} {txt:List UInt8} (hb:L3 h b txt) (h0:txt≠[]):CSem Tryz.prog 107 [.gpt b] h fun x h'=>x=S txt∧h'=h:=by
 obtain ⟨row,h1,h2⟩:=hb
 refine ⟨κ,fun I ρ w cargs R hc=> ?_⟩
 obtain ⟨cv,rfl⟩:∃ cv,cargs=[cv]:=by
  match cargs,hc.len with
  | [cv],_=>exact ⟨cv,rfl⟩
 have hv0:=hc.ok 0 _ _ rfl rfl
 cases hv0
 obtain ⟨⟨k1,p,k2,k3⟩,_⟩:=R.gh b _ h1
 match row,h1,h2,k1,k3 with
 | none,_,_,k1,_=>exact absurd (k1 rfl) h0
 | some (g,cap),h1,h2,_,k3 =>
  have hg:h.gh g=some (.brow 5 txt cap):=h2
  obtain ⟨⟨cur,fz,j1,j2,j3,j4,j5,j6⟩,gi,go⟩:=R.gh g _ hg
  refine (A76 (L:= { Tryz.Uj with }) Tryz.Ey (b:=b) (g:=g) (cap:=cap) (p:=p) (cur:=cur) (fz:=fz) (l:=txt) k3 j1 j3 j4 j5 j6 h0).mono ?_
  rintro e w' ⟨rfl,rfl⟩
  have hl0:txt.length≠0:=by simpa using h0
  obtain ⟨R',G'⟩:=R.frz (w':=w.drew.freeze ⟨g,0,none⟩ txt.length) hg (by unfold World.freeze;rw [if_neg hl0];rfl) (by unfold World.freeze;rw [if_neg hl0];rfl) (by unfold World.freeze;rw [if_neg hl0];rfl)
   (by unfold World.freeze;rw [if_neg hl0];simp)
   (fun k hk=>by unfold World.freeze;rw [if_neg hl0];simp only [Array.getElem?_modify,if_neg (Ne.symm hk)];rfl)
   (fun cur fz hc hf=>by
    unfold World.freeze
    rw [if_neg hl0]
    have hc':w.drew.heap[g]? = some (.cells cur 5 fz):=hc
    simp only [Array.getElem?_modify,if_true,hc',Option.map_some]
    refine ⟨_,rfl,?_⟩
    split
    ·simp
    ·simp only [Nat.zero_add];omega)
  exact ⟨_,S txt,h,I, ρ,rfl,⟨rfl,rfl⟩,R',.str _,G'⟩
def Zu (s:Txt):AV:= .tup [S (E8 s).1,.int .i64 (E8 s).2]
theorem Aen (s:Txt):putR (s.length:Int) 2=if s.length < 65536 then (le s.length 2,0) else ([],12):=by
 have hP:PutP (s.length:Int) 2:=⟨ν,ν,ω⟩
 unfold putR
 rw [if_pos hP,Int.toNat_natCast]
 have:(dv s.length (2:Int).toNat=s.length / 65536):=by
  show dv s.length 2=_
  simp [dv]
  try omega
 rw [this]
 by_cases h:s.length < 65536
 ·rw [if_neg ω,if_pos h];rfl
 ·rw [if_pos ω,if_neg h]
theorem Ab2 (s:Txt) (hs:s.length < 2 ^ 46):As Tryz.prog 110 [S s] (Zu s):=by
 refine As.Ba (k:=2) ?_
 refine CSem.body hm Tryz.func110 rfl κ κ (by simp [Tryz.ntmps110]) ?_
 simp [Tryz.f110]
 refine (Jq s.length 2 ω _).use ?_
 have hp:=Aen s
 by_cases h:s.length < 65536
 ·rw [if_pos h] at hp
  have hl:(le s.length 2).length+s.length≤2 ^ 47:=by simp;omega
  simp [putA,hp,Zu,E8,h,Zv _ _ hl]
 ·rw [if_neg h] at hp
  simp [putA,hp,Zu,E8,h]
theorem Zw (s:Txt) (hs:s.length < 2 ^ 46) (h:Heap):CSem Tryz.prog 110 [S s] h fun x' h'=>x'=Zu s∧h'=h:=(Ab2 s hs).call (k:=1) μ
def Ht (s:Txt):Txt×Txt×Int:=if (cutR s 2).2.2=0∧(cutR s 2).1≤(cutR s 2).2.1.length then ((cutR s 2).2.1.take (cutR s 2).1.toNat,(cutR s 2).2.1.drop (cutR s 2).1.toNat,0) else ([],[],4)
def A91 (s:Txt):AV:= .tup [S (Ht s).1,S (Ht s).2.1,.int .i64 (Ht s).2.2]
theorem cut_nn (s:Txt) (z:Int):0≤(cutR s z).1:=by
 unfold cutR
 split
 ·split<;>simp
 ·simp
theorem Zx (s:Txt) (hs:s.length < 2 ^ 46):As Tryz.prog 132 [S s] (A91 s):=by
 refine As.Ba (k:=2) ?_
 refine CSem.body hm Tryz.func132 rfl κ κ (by simp [Tryz.ntmps132]) ?_
 simp [Tryz.f132]
 refine (Jr s 2 ω _).use ?_
 have hnn:=cut_nn s 2
 simp only [A91,Ht,cutA]
 generalize cutR s 2=r at hnn ⊢
 obtain ⟨n,r,e⟩:=r
 simp only at hnn ⊢
 by_cases he:e=0
 rotate_left
 ·simp [he]
 by_cases hl:n≤r.length
 rotate_left
 ·have hl2:(r.length:Int) < n:=by omega
  simp [he,hl,hl2]
 have hl2:¬(r.length:Int) < n:=by omega
 simp [he,hl,hl2]
 refine Aeh 6 3 κ ?_
 simp [Ej,hnn,hl]
theorem Ab3 (s p:Txt):As Tryz.prog 154 [S s,S p] (.bool (decide (p.length≤s.length∧s.take p.length=p))):=by
 refine As.Ba (k:=1) ?_
 refine CSem.body hm Tryz.func154 rfl κ κ (by simp [Tryz.ntmps154]) ?_
 by_cases h:p.length≤s.length
 ·simp [Tryz.f154,h,Ej]
 ·have h2:¬(p.length:Int)≤s.length:=by omega
  simp [Tryz.f154,h,h2]
def cutP (s p:Txt):AV:=if p.length≤s.length∧s.take p.length=p then .tup [S (s.drop p.length),.bool true] else .tup [S s,.bool false]
theorem A77 (s p:Txt):As Tryz.prog 128 [S s,S p] (cutP s p):=by
 refine As.Ba (k:=2) ?_
 refine CSem.body hm Tryz.func128 rfl κ κ (by simp [Tryz.ntmps128]) ?_
 simp [Tryz.f128]
 refine ((Ab3 s p).call (k:=1) μ).use ?_
 unfold cutP
 by_cases h:p.length≤s.length∧s.take p.length=p
 ·have h1:=h.1
  simp [h,Ej]
 ·simp [h]
theorem Ab4 (s p:Txt):As Tryz.prog 93 [S s,S p] (cutP s p):=by
 refine As.Ba (k:=2) ?_
 refine CSem.body hm Tryz.func93 rfl κ κ (by simp [Tryz.ntmps93]) ?_
 simp [Tryz.f93]
 refine ((A77 s p).call (k:=1) μ).use ?_
 unfold cutP
 by_cases h:p.length≤s.length∧s.take p.length=p<;>simp [h]
theorem Tj (s p:Txt) (h:Heap):CSem Tryz.prog 93 [S s,S p] h fun x' h'=>x'=cutP s p∧h'=h:=(Ab4 s p).call (k:=1) μ
def BlkA (b:BlkD):AV:= .agg [.int .i64 b.ar,.int .i64 b.dk,.int .i64 b.pl,.int .i64 b.ep,S b.tx]
def fldC (p:Nat):List AV:=[.ptr p 0,.int .i64 4,.ptr p 1,.int .i64 2,.ptr p 2,.int .i64 4,.ptr p 3,.int .i64 7]
def FldV (h0:Heap) (p:Nat):Nat→AV→Heap→Prop
 | 2,v,_=>v = .ptr p 0
 | 3,v,_=>v = .agg [.ptr p 0,.int .i64 4]
 | 6,v,_=>v = .ptr p 1
 | 7,v,_=>v = .agg [.ptr p 1,.int .i64 2]
 | 10,v,_=>v = .ptr p 2
 | 11,v,_=>v = .agg [.ptr p 2,.int .i64 4]
 | 14,v,_=>v = .ptr p 3
 | 15,v,_=>v = .agg [.ptr p 3,.int .i64 7]
 | 16,v,H=> ∃ q,v = .sl q 0 4 4 2∧h0.next≤q∧H.get q=some (fldC p)
 | 17,v,H=> ∃ q,v = .sl q 0 4 4 2∧h0.next≤q∧H.get q=some (fldC p)
 | _,v,_=>v = .ptr p 0
theorem FldV.mono {h0:Heap} {p:Nat} (j:Nat) (v:AV) (h h':Heap) (E:Ext h h') (hv:FldV h0 p j v h):FldV h0 p j v h':=by
 unfold FldV at hv ⊢
 split at hv
 all_goals first
  | exact hv
  | (obtain ⟨q,h1,h2,h3⟩:=hv;exact ⟨q,h1,h2,E.got h3⟩)
theorem A1y {P:Program} {id dst:Nat} {x:Operand} {type:TypeId} {pos:String} {after:Array Edge} {b:Code} {Q:Out→Regs→Heap→Prop} {r:Regs} {h:Heap} {v:AV} (hx:Ae r x=some v) (hw:wpc P b Q (rset r dst v) h) :
  wpc P (.seq (.region id #[⟨some dst,.assign x,type,pos,after,none⟩] false) b) Q r h:=by
 simp only [Eb,X5,Pq,A78,hx,Cy,Aep]
 exact hw
theorem X6 {P:Program} {a:Code} {Q:Out→Regs→Heap→Prop} {r:Regs} {h:Heap} (hw:wpc P a (fun o r h=>match o with | .norm=>Q .ret r h|o=>Q o r h) r h):wpc P (.seq a .ret) Q r h:=by
 rw [Eb]
 refine Ru a _ _ ?_ r h hw
 intro o r h hq
 cases o<;>exact hq
theorem X7 (p:Nat) (h:Heap):CSem Tryz.prog 109 [.ptr p 0] h fun x h'=> ∃ q,x = .sl q 0 4 4 2∧h.next≤q∧h'.get q=some (fldC p)∧Ext h h':=by
 refine CSem.body hm Tryz.func109 rfl κ κ (by simp [Tryz.ntmps109]) ?_
 have hb:∀ (q o:Nat) (n:Int),Ct Tryz.prog 169 [(0,.ptr q o),(1,.int .i64 n)]=some (.agg [.ptr q o,.int .i64 n]):=fun q o n=>by kernel_rfl
 have hs:∀ (h:Heap),C8 Tryz.prog h 166 4 [(0,.agg [.ptr p 0,.int .i64 4]),(1,.agg [.ptr p 1,.int .i64 2]),(2,.agg [.ptr p 2,.int .i64 4]),(3,.agg [.ptr p 3,.int .i64 7])] =
  some (.sl h.next 0 4 4 2,h.alloc (fldC p)):=fun h=>by kernel_rfl
 refine A1y (v:= .nilSl) rfl ?_
 refine X6 ?_
 refine A90 (Ext h) (FldV h p) [(0,.ptr p 0)] κ κ FldV.mono (Ext.refl h) μ (fun h1 h2 e1 e2=>e2.trans e1) ?_ ?_
 ·intro r H hE hB
  have hr0:rg r 0 = .ptr p 0:=hB (0,.ptr p 0) μ
  have hEn:=hE.next
  refine ⟨?_,?_,?_,?_,?_,?_,?_,?_,?_,?_,?_,?_,?_,?_,?_,?_,?_,?_,trivial⟩
  all_goals (intro hd;simp [Dep,VO,FldV,Region.binds] at hd)
  all_goals (try simp [hd,hr0,FldV,Ext.refl,A8,hb,hs])
  ·exact ⟨_,rfl,⟨_,rfl,hEn,Heap.A9 _ _⟩,(Ext.refl H).alloc _⟩
  ·obtain ⟨⟨q,e1,g1,g2⟩,_⟩:=hd
   exact ⟨_,rfl,q,e1,g1,g2⟩
 ·intro r H hI hE hr hA
  obtain ⟨_,_,_,_,_,_,_,_,_,_,_,_,_,_,_,_,_,hz,_⟩:=hA
  simp [VO,FldV] at hz
  obtain ⟨q,h1,h2,h3⟩:=hz
  simp [h1]
  exact ⟨h2,h3,hI⟩
theorem X8 {h:Heap} {B eb:Nat} {e0 f:Int} {txt t:Txt} (hb:L3 h B txt) (he:h.get eb=some [.int .i64 e0]) (hl:txt.length+t.length≤140737488355328) :
  CSem Tryz.prog 108 [S t,.int .i64 f,.ptr eb 0,.gpt B] h fun x h'=>x = .tup []∧∃ gh',h' = { (if e0=0 then h.put eb [.int .i64 f] else h) with gh:=gh' } ∧ L3 h' B (txt ++ t):=by
 refine CSem.body hm Tryz.func108 rfl κ κ (by simp [Tryz.ntmps108]) ?_
 have hel:=Heap.Ah he
 by_cases h0:e0=0
 ·subst h0
  simp [Tryz.f108,he]
  have hb':L3 (h.put eb [.int .i64 f]) B txt:=hb
  refine (Mf hb' t hl).then ?_
  rintro _ h' ⟨rfl,gh',rfl,hb2⟩
  simp
  exact hb2
 ·simp [Tryz.f108,he,h0]
  refine (Mf hb t hl).then ?_
  rintro _ h' ⟨rfl,gh',rfl,hb2⟩
  simp
  exact hb2
def N1 (b:BlkD):List (Int×Int):=[(b.ar,4),(b.dk,2),(b.pl,4),(b.ep,7)]
def N2 (b:BlkD) (i:Nat):Txt:=mag ++ (((N1 b).take i).map fun p=>(putR p.1 p.2).1).flatten
def Ks (b:BlkD) (i:Nat):Int:=err1 (((N1 b).take i).map fun p=>(putR p.1 p.2).2)
def Du (b:BlkD):Txt:=N2 b 4 ++ (E8 b.tx).1
def Qc (b:BlkD):Int:=if Ks b 4=0 then (E8 b.tx).2 else Ks b 4
def Dc (b:BlkD):Txt×Int:=if Qc b=0 then (Du b ++ (putR (crcR (Du b)) 4).1,0) else ([],Qc b)
def A41 (b:BlkD):AV:= .tup [S (Dc b).1,.int .i64 (Dc b).2]
theorem Zy:∀ (l:List Int) (e:Int),err1 (l ++ [e])=if err1 l=0 then e else err1 l
 | [],e=>by simp only [List.nil_append,err1];by_cases h:e=0<;>simp [h]
 | a :: l,e=>by
  by_cases h:a=0
  ·have e1:∀ l,err1 (a :: l)=err1 l:=fun l=>by simp [err1,h]
   simp only [List.cons_append,e1]
   exact Zy l e
  ·have e1:∀ l,err1 (a :: l)=a:=fun l=>by simp [err1,h]
   simp only [List.cons_append,e1,if_neg h]
theorem Gu (n z:Int):(putR n z).1.length≤7:=by
 unfold putR
 split
 ·rename_i h
  split
  ·simp
  ·simp;have:=h.2.1;omega
 ·simp
theorem Zz (b:BlkD) (i:Nat):(N2 b i).length≤31:=by
 have h:∀ l:List (Int×Int),((l.map fun p=>(putR p.1 p.2).1).flatten).length≤7 * l.length:=by
  intro l
  induction l with
  | nil=>simp
  | cons p l ih=>have:=Gu p.1 p.2;simp only [List.map_cons,List.flatten_cons,List.length_append,List.length_cons];omega
 have h1:=h ((N1 b).take i)
 have h2:((N1 b).take i).length≤4:=by rw [List.length_take];simp [N1];omega
 unfold N2
 simp only [List.length_append,show mag.length=3 from rfl]
 omega
structure SealI (b:BlkD) (pb eb q B:Nat) (i:Nat) (r:Regs) (h:Heap):Prop where
 le:i≤4
 r1:rg r 1 = .ptr pb 0
 r4:rg r 4 = .gpt B
 r5:rg r 5 = .ptr eb 0
 r6:rg r 6 = .fn 108 [] [.ptr eb 0,.gpt B]
 r11:rg r 11 = .sl q 0 4 4 2
 r12:rg r 12 = .int .i64 4
 r13:rg r 13 = .int .i64 i
 pbc:h.get pb=some [.int .i64 b.ar,.int .i64 b.dk,.int .i64 b.pl,.int .i64 b.ep,S b.tx]
 ebc:h.get eb=some [.int .i64 (Ks b i)]
 qc:h.get q=some (fldC pb)
 bld:L3 h B (N2 b i)
 ne1:pb≠eb
 ne2:q≠eb
structure BlkB (b:BlkD):Prop where
 ar:b.ar < 2 ^ 62
 dk:b.dk < 2 ^ 62
 pl:b.pl < 2 ^ 62
 ep:b.ep < 2 ^ 62
 tx:b.tx.length < 2 ^ 46
theorem Ab5 (b:BlkD) (hb:BlkB b):As Tryz.prog 81 [BlkA b] (A41 b):=by
 refine As.Ba (k:=2) ?_
 refine CSem.body hm Tryz.func81 rfl κ κ (by simp [Tryz.ntmps81]) ?_
 simp [Tryz.f81,BlkA,AV.cells]
 refine Alc.right ⟨5,fun B hB=> ?_⟩
 simp
 have hb0:L3 ((Heap.empty.alloc [.int .i64 b.ar,.int .i64 b.dk,.int .i64 b.pl,.int .i64 b.ep,S b.tx]).setG B (.bld 160 5 [] none)) B []:=⟨none,μ,trivial⟩
 generalize hH0:(Heap.empty.alloc _).setG B _=H0 at hb0
 have m0:H0.get 0=some [.int .i64 b.ar,.int .i64 b.dk,.int .i64 b.pl,.int .i64 b.ep,S b.tx]:=by rw [←hH0];exact Heap.A9 Heap.empty _
 have n0:H0.next=1:=by rw [←hH0];rfl
 refine (Mf hb0 mag (by simp [mag])).then ?_
 rintro _ h1 ⟨rfl,gh1,hh1,hb1⟩
 have m1:h1.get 0=some [.int .i64 b.ar,.int .i64 b.dk,.int .i64 b.pl,.int .i64 b.ep,S b.tx]:=by rw [hh1];exact m0
 have n1:h1.next=1:=by rw [hh1];exact n0
 clear hh1 hb0 m0 n0 hH0
 simp
 simp [n1,Heap.Aa,Heap.Ad]
 generalize hH1:Heap.put (Heap.alloc h1 _) _ _=H1
 have k0:H1.get 0=some [.int .i64 b.ar,.int .i64 b.dk,.int .i64 b.pl,.int .i64 b.ep,S b.tx]:=by
  rw [←hH1,Heap.Ad _ _ _ _ (by simp [n1]),if_neg ν]
  exact Heap.Ag m1
 have k1:H1.get 1=some [.int .i64 0]:=by rw [←hH1,Heap.Ad _ _ _ _ (by simp [n1]),if_pos rfl]
 have kb:L3 H1 B mag:=by rw [←hH1];exact hb1
 clear hH1 hb1 m1 n1
 refine (X7 0 H1).then ?_
 rintro _ h2 ⟨q,rfl,hq,hqc,E2⟩
 have hz0:B7 Tryz.prog 169=some (.agg [.nilPtr,.int .i64 0]):=by kernel_rfl
 have hsz:szT Tryz.prog 169=some 2:=by kernel_rfl
 simp
 refine Ar (SealI b 0 1 q B) (4 - ·) ?_ 0 ?_
 ·rintro i r h ⟨le,r1,r4,r5,r6,r11,r12,r13,pbc,ebc,qc,bld,ne1,ne2⟩
  rcases Nat.lt_or_eq_of_le le with hlt|heq
  ·have hlt':(i:Int) < 4:=by omega
   have hw1:IntKind.i64.wrap ((i:Int)+1)=(i:Int)+1:=wrap64 ω ω
   obtain ⟨n,z,hf,hld,hci,hz1,hz2,hn⟩:∃ n z,(N1 b)[i]? = some (n,z)∧Fc Tryz.prog h 169 (.ptr q (i * 2))=some (.agg [.ptr 0 i,.int .i64 z]) ∧
     [AV.int .i64 b.ar,.int .i64 b.dk,.int .i64 b.pl,.int .i64 b.ep,S b.tx][i]? = some (.int .i64 n)∧1≤z∧z≤7∧n < 2 ^ 62:=by
    rcases i with _|_|_|_|i
    ·exact ⟨b.ar,4,rfl,by rw [Ac κ,hsz,qc];rfl,rfl,ν,ν,hb.ar⟩
    ·exact ⟨b.dk,2,rfl,by rw [Ac κ,hsz,qc];rfl,rfl,ν,ν,hb.dk⟩
    ·exact ⟨b.pl,4,rfl,by rw [Ac κ,hsz,qc];rfl,rfl,ν,ν,hb.pl⟩
    ·exact ⟨b.ep,7,rfl,by rw [Ac κ,hsz,qc];rfl,rfl,ν,ν,hb.ep⟩
    ·omega
   have htk:(N1 b).take (i+1)=(N1 b).take i ++ [(n,z)]:=by rw [List.take_add_one,hf];rfl
   simp [r1,r4,r5,r6,r11,r12,r13,hlt',hld,Aj,hsz,Heap.Aa,putN,hz0,AV.cells,show (AV.ptr 0 i).atom=true from rfl]
   generalize hH:Heap.put (Heap.alloc h _) _ _=H
   have hq0:=Heap.Ah qc
   have h00:=Heap.Ah pbc
   have h10:=Heap.Ah ebc
   have g0:H.get h.next=some [.ptr 0 i,.int .i64 z]:=by rw [←hH,Heap.Ad _ _ _ _ μ,if_pos rfl]
   have gold:∀ k cs,h.get k=some cs→H.get k=some cs:=fun k cs hk=>by
    rw [←hH,Heap.Ad _ _ _ _ μ,if_neg (by have:=Heap.Ah hk;omega)]
    exact Heap.Ag hk
   have gp:=gold 0 _ pbc
   have ge:=gold 1 _ ebc
   have gq:=gold q _ qc
   have gb:L3 H B (N2 b i):=by rw [←hH];exact bld
   clear hH
   refine ⟨rfl,?_⟩
   refine Br 10 κ ?_
   simp [r1,r4,r5,r6,r11,r12,r13,A8,g0,gp,hci]
   refine D7.use (x:=putA n z) (Jq n z ω H) ?_
   have hTl:=Zz b i
   have hpl:=Gu n z
   simp [putA,r1,r4,r5,r6]
   refine (X8 (t:=(putR n z).1) (f:=(putR n z).2) gb ge ω).then ?_
   rintro _ h3 ⟨rfl,gh3,rfl,gb3⟩
   have hsT:N2 b (i+1)=N2 b i ++ (putR n z).1:=by
    unfold N2
    rw [htk,List.map_append,List.flatten_append,←List.append_assoc]
    simp only [List.map_cons,List.map_nil,List.flatten_cons,List.flatten_nil,List.append_nil]
   have hsE:Ks b (i+1)=if Ks b i=0 then (putR n z).2 else Ks b i:=by
    have:=Zy (((N1 b).take i).map fun p=>(putR p.1 p.2).2) (putR n z).2
    unfold Ks
    rw [htk,List.map_append]
    exact this
   have hge:=Heap.Ah ge
   simp [r1,r4,r5,r6,r11,r12,r13,hw1]
   refine ⟨i+1,ω,ω,by simpa using r1,by simpa using r4,by simpa using r5,by simpa using r6,by simpa using r11,by simpa using r12,μ,?_,?_,?_,by rw [hsT];exact gb3,ne1,ne2⟩
   ·show Heap.get (if Ks b i=0 then _ else _) 0=_
    split
    ·rw [Heap.Ad _ _ _ _ hge,if_neg ν];exact gp
    ·exact gp
   ·show Heap.get (if Ks b i=0 then _ else _) 1=_
    rw [hsE]
    split
    ·rw [Heap.Ad _ _ _ _ hge,if_pos rfl]
    ·exact ge
   ·show Heap.get (if Ks b i=0 then _ else _) q=_
    split
    ·rw [Heap.Ad _ _ _ _ hge,if_neg ne2];exact gq
    ·exact gq
  ·subst heq
   have h4:((4:Nat):Int)=4:=rfl
   simp [r1,r4,r5,r6,r11,r12,r13,A8,pbc]
   refine (Zw b.tx hb.tx h).use ?_
   have hTl:=Zz b 4
   have htl:(E8 b.tx).1.length≤65538:=by
    unfold E8
    split<;>simp<;>omega
   simp [Zu,r1,r4,r5,r6]
   refine (X8 (t:=(E8 b.tx).1) (f:=(E8 b.tx).2) bld ebc ω).then ?_
   rintro _ h3 ⟨rfl,gh3,rfl,gb3⟩
   have hge:=Heap.Ah ebc
   have hE:Heap.get { (if Ks b 4=0 then h.put 1 [.int .i64 (E8 b.tx).2] else h) with gh:=gh3 } 1=some [.int .i64 (Qc b)]:=by
    show Heap.get (if Ks b 4=0 then _ else _) 1=_
    unfold Qc
    split
    ·rw [Heap.Ad _ _ _ _ hge,if_pos rfl]
    ·exact ebc
   have hT:N2 b 4 ++ (E8 b.tx).1=Du b:=rfl
   rw [hT] at gb3
   generalize hH:({ (if Ks b 4=0 then h.put 1 [.int .i64 (E8 b.tx).2] else h) with gh:=gh3 } : Heap)=H at gb3 hE
   clear hH
   simp [r1,r4,r5,r6,hE]
   by_cases he:Qc b=0
   rotate_left
   ·simp [he]
    refine Br 3 κ ?_
    simp [r1,r4,r5,r6,hE,A41,Dc,he]
   have hne:Du b≠[]:=by simp [Du,N2,mag]
   have hTT:(Du b).length≤70000:=by simp only [Du,List.length_append];omega
   have hcr:=A1k (Du b)
   have hcw:IntKind.i64.wrap (crcR (Du b):Int)=crcR (Du b):=wrap64 ω ω
   simp [he,r1,r4,r5,r6]
   refine (Nn gb3 hne).use ?_
   simp
   refine ((Zt (Du b) ω).call (k:=1) μ).use ?_
   simp [hcw]
   refine (Jq (crcR (Du b)) 4 ω H).use ?_
   simp [putA,r6]
   refine (X8 (t:=(putR (crcR (Du b)) 4).1) (f:=(putR (crcR (Du b)) 4).2) gb3 hE (by have:=Gu (crcR (Du b)) 4;omega)).then ?_
   rintro _ h4 ⟨rfl,gh4,hh4,gb4⟩
   simp [r4]
   refine (Nn gb4 (by simp [hne])).use ?_
   simp [A41,Dc,he]
 ·refine ⟨ω,μ,μ,μ,μ,μ,μ,μ,E2.got k0,?_,hqc,?_,ν,?_⟩
  ·exact E2.got k1
  ·obtain ⟨row,a1,a2⟩:=kb
   exact ⟨row,by rw [E2.gh];exact a1,by unfold Aem at a2 ⊢;rw [E2.gh];exact a2⟩
  ·have:=Heap.Ah k1;omega
section
variable {P:Program}
def depB (l:List Oper) (i j:Nat):Bool:=match l[i]? with
 | some o=>o.after.toList.any fun e=>Region.binds .any e && e.on == j
 | none=>false
def VL (V:Nat→AV→Prop) (j:Nat) (o:Oper) (r:Regs):Prop:=match o.dst with
 | some d=>V j (rg r d)
 | none=>True
def DepL (V:Nat→AV→Prop) (ops:List Oper) (r:Regs) (e:Edge):Prop:=Region.binds .any e=true→match ops[e.on]? with
 | some o=>VL V e.on o r
 | none=>True
theorem Aht (Hp:(Nat→Bool)→Heap→Prop) (V:Nat→AV→Prop) {id:Nat} {l:List Oper} {Q:Out→Regs→Heap→Prop} {r0:Regs} {h0:Heap} (hs:ssaB l=true) (hi0:Hp (fun _=>false) h0)
  (hstep:∀ (L:Nat→Bool) (r:Regs) (h:Heap),Hp L h→(∀ i j,depB l i j=true→L j=false→L i=false)→(∀ d,(∀ j o,l[j]? = some o→o.dst=some d→L j=false)→rg r d=rg r0 d) →
   AllO (fun i o=>L i=false→(∀ e∈o.after.toList,DepL V l r e)→wpI P o.op o.dst (fun r' h'=> ∃ v,r'=Av r o.dst v∧(o.dst.isSome=true→V i v)∧Hp (fun k=>if k=i then true else L k) h') r h) 0 l)
  (hend:∀ (L:Nat→Bool) (r:Regs) (h:Heap),(∀ k,k < l.length→L k=true)→Hp L h→(∀ d,d ∉ l.filterMap (·.dst)→rg r d=rg r0 d)→AllO (fun i o=>VL V i o r) 0 l→Q .norm r h):wpc P (.region id l.toArray true) Q r0 h0:=by
 unfold ssaB at hs
 simp only [Bool.and_eq_true,decide_eq_true_eq] at hs
 obtain ⟨⟨hgd,hnd⟩,hac⟩:=hs
 have hdst:=Ln hnd
 have hac':∀ (i:Nat) (o:Oper) (e:Edge),l[i]? = some o→e∈o.after.toList→Region.binds .any e=true→e.on < i:=by
  intro i o e hi he hb
  have:=List.all_eq_true.1 hac i (by simpa using (List.getElem?_eq_some_iff.1 hi).1)
  rw [hi] at this
  have:=List.all_eq_true.1 this e he
  simpa [hb] using this
 refine Nx ?_
 have key:∀ (f:Nat) (listed:Array Bool) (r:Regs) (h:Heap),listed.size=l.length→(List.range l.length).countP (fun i => !listed.getD i true)=f→Hp (fun k=>listed.getD k false) h →
   (∀ i j,depB l i j=true→listed.getD j false=false→listed.getD i false=false)→(∀ d,(∀ j o,l[j]? = some o→o.dst=some d→listed.getD j false=false)→rg r d=rg r0 d) →
   (∀ i o,l[i]? = some o→listed.getD i false=true→VL V i o r)→Bn P l.toArray (Q .norm) f listed r h:=by
  intro f
  induction f with
  | zero =>
   intro listed r h hsz hc hi hx hr hv
   have hall:∀ i,i < l.length→listed.getD i true=true:=by
    intro i hil
    have:=List.countP_eq_zero.1 hc i (by simpa using hil)
    simpa using this
   have hallF:∀ i,i < l.length→listed.getD i false=true:=by
    intro i hil
    have:=hall i hil
    simpa [hsz,hil] using this
   refine ⟨?_,hend (fun k=>listed.getD k false) r h hallF hi (fun d hd=>hr d fun j o hj hjd=>(hd (List.mem_filterMap.2 ⟨o,List.mem_of_getElem? hj,hjd⟩)).elim) ?_⟩
   ·rw [Region.ready,List.filter_eq_nil_iff]
    intro i hil
    have:=hall i (by simpa using hil)
    simp [this]
   ·have:∀ (m:List Oper) (k:Nat),(∀ j o,m[j]? = some o→VL V (k+j) o r)→AllO (fun i o=>VL V i o r) k m:=by
     intro m
     induction m with
     | nil=>intro k _;trivial
     | cons o m ih =>
      intro k hk
      exact ⟨hk 0 o rfl,ih (k+1) (fun j o' hj=>by have:=hk (j+1) o' (by simpa using hj);rwa [show k+(j+1)=k+1+j by omega] at this)⟩
    refine this l 0 fun j o hj=> ?_
    rw [Nat.zero_add]
    exact hv j o hj (hallF j (List.getElem?_eq_some_iff.1 hj).1)
  | succ f ih =>
   intro listed r h hsz hc hi hx hr hv
   refine ⟨fun he=> ?_,fun i hir=> ?_⟩
   ·exfalso
    have hex:∃ i,i < l.length∧listed.getD i true=false:=by
     have:0 < (List.range l.length).countP (fun i => !listed.getD i true):=by omega
     obtain ⟨i,h1,h2⟩:=List.countP_pos_iff.1 this
     exact ⟨i,by simpa using h1,by simpa using h2⟩
    have least:∀ n,(∃ i,i < n∧i < l.length∧listed.getD i true=false)→∃ i,i < l.length∧listed.getD i true=false∧∀ j,j < i→listed.getD j true=true:=by
     intro n
     induction n with
     | zero=>rintro ⟨i,h1,_⟩;omega
     | succ n ihn =>
      rintro ⟨i,h1,h2,h3⟩
      by_cases hlt:∃ j,j < n∧j < l.length∧listed.getD j true=false
      ·exact ihn hlt
      ·refine ⟨i,h2,h3,fun j hj=> ?_⟩
       cases hb:listed.getD j true with
       | true=>rfl
       | false=>exact (hlt ⟨j,ω,ω,hb⟩).elim
    obtain ⟨i0,h1,h2⟩:=hex
    obtain ⟨i,g1,g2,g3⟩:=least (i0+1) ⟨i0,ω,h1,h2⟩
    have:i∈Region.ready .any l.toArray listed:=by
     rw [Region.ready,List.mem_filter]
     refine ⟨by simpa using g1,?_⟩
     simp only [g2,Bool.not_false,Bool.true_and]
     have hget:l[i]? = some l[i]:=List.getElem?_eq_getElem g1
     simp only [List.getElem?_toArray,hget,Option.map_some,Option.getD_some]
     rw [←Array.all_toList,List.all_eq_true]
     intro e hee
     by_cases hb:Region.binds .any e=true
     ·have hon:=hac' i _ e hget hee hb
      have:=g3 e.on hon
      have hel:e.on < listed.size:=by omega
      simp [hb]
      simpa [hel] using this
     ·simp [hb]
    rw [he] at this
    cases this
   ·rw [Region.ready,List.mem_filter] at hir
    obtain ⟨h1,h2⟩:=hir
    have hil:i < l.length:=by simpa using h1
    have hget:l[i]? = some l[i]:=List.getElem?_eq_getElem hil
    simp only [Bool.and_eq_true,Bool.not_eq_true',List.getElem?_toArray,hget,Option.map_some,Option.getD_some] at h2
    obtain ⟨hun,hdep⟩:=h2
    simp only [List.getElem?_toArray,hget]
    have hgn:l[i].guard=none:=by
     have:=List.all_eq_true.1 hgd l[i] (List.getElem_mem hil)
     simpa using this
    have hdep':∀ e∈l[i].after.toList,Region.binds .any e=true→listed.getD e.on false=true:=by
     intro e he hb
     rw [←Array.all_toList,List.all_eq_true] at hdep
     have:=hdep e he
     simpa only [hb,Bool.not_true,Bool.false_or] using this
    have hunF:listed.getD i false=false:=by
     have:i < listed.size:=by omega
     simpa [this] using hun
    have hst:=AllO.get _ _ (hstep (fun k=>listed.getD k false) r h hi hx hr) i l[i] hget (by rw [Nat.zero_add];exact hunF) (fun e he hb=>by
     have hon:=hac' i _ e hget he hb
     have heg:l[e.on]? = some l[e.on]:=List.getElem?_eq_getElem ω
     rw [heg]
     exact hv e.on _ heg (hdep' e he hb))
    rw [Nat.zero_add] at hst
    refine ⟨true,by simp [Ch,hgn],fun _=> ?_,fun e=>by cases e⟩
    have hsetF:∀ k,(listed.setIfInBounds i true).getD k false=if k=i then true else listed.getD k false:=by
     intro k
     simp only [Array.getD_eq_getD_getElem?,Array.getElem?_setIfInBounds]
     by_cases hk:i=k
     ·subst hk;simp [hsz,hil]
     ·rw [if_neg hk,if_neg (Ne.symm hk)]
    have cont:∀ (v:AV) (h':Heap),(l[i].dst.isSome=true→V i v)→Hp (fun k=>if k=i then true else listed.getD k false) h'→Bn P l.toArray (Q .norm) f (listed.setIfInBounds i true) (Av r l[i].dst v) h':=by
     intro v h' hV hP
     refine ih _ _ _ (by simp [hsz]) ?_ (by simp only [hsetF];exact hP) (fun i' j hij hj=> ?_) (fun d hd=> ?_) (fun j o hj hlj=> ?_)
     ·have hset:∀ k,(listed.setIfInBounds i true).getD k true=if k=i then true else listed.getD k true:=by
       intro k
       simp only [Array.getD_eq_getD_getElem?,Array.getElem?_setIfInBounds]
       by_cases hk:i=k
       ·subst hk;simp [hsz,hil]
       ·rw [if_neg hk,if_neg (Ne.symm hk)]
      have hcnt:∀ (m:List Nat),m.Nodup→i∈m→m.countP (fun k => !listed.getD k true)=m.countP (fun k => !(listed.setIfInBounds i true).getD k true)+1:=by
       intro m
       induction m with
       | nil=>intro _ hm;cases hm
       | cons a m ihm =>
        intro hnd' hm
        obtain ⟨n1,n2⟩:=List.nodup_cons.1 hnd'
        rw [List.countP_cons,List.countP_cons]
        by_cases ha:a=i
        ·subst ha
         have:m.countP (fun k => !listed.getD k true)=m.countP (fun k => !(listed.setIfInBounds a true).getD k true):=by
          apply List.countP_congr
          intro k hk
          rw [hset k,if_neg (fun e:k=a=>n1 (e ▸ hk))]
         rw [this,hset a,if_pos rfl,hun]
         simp
        ·have hm':i∈m:=by
          rcases List.mem_cons.1 hm with e|e
          ·exact (ha e.symm).elim
          ·exact e
         rw [ihm n2 hm',hset a,if_neg ha]
         omega
      have:=hcnt (List.range l.length) List.nodup_range (by simpa using hil)
      omega
     ·rw [hsetF] at hj ⊢
      by_cases hji:j=i
      ·rw [if_pos hji] at hj;cases hj
      ·rw [if_neg hji] at hj
       by_cases hii:i'=i
       ·exfalso
        subst hii
        unfold depB at hij
        rw [hget] at hij
        simp only [List.any_eq_true,Bool.and_eq_true,beq_iff_eq] at hij
        obtain ⟨e,he,hb,rfl⟩:=hij
        rw [hdep' e he hb] at hj
        cases hj
       ·rw [if_neg hii];exact hx i' j hij hj
     ·rw [←hr d fun j o hj hjd=>by
       have:=hd j o hj hjd
       rw [hsetF] at this
       by_cases hji:j=i
       ·rw [if_pos hji] at this;cases this
       ·rwa [if_neg hji] at this]
      cases hds:l[i].dst with
      | none=>rfl
      | some d' =>
       have hne:d≠d':=fun e=>by
        have:=hd i _ hget (by rw [hds,e])
        rw [hsetF,if_pos rfl] at this
        cases this
       simp only [Av,Ec,if_neg hne]
     ·by_cases hji:j=i
      ·subst hji
       rw [hget] at hj
       cases hj
       unfold VL
       cases hds:l[j].dst with
       | none=>trivial
       | some d=>simp only [Av,Ec,if_pos rfl];exact hV (by rw [hds];rfl)
      ·rw [hsetF,if_neg hji] at hlj
       have:=hv j o hj hlj
       unfold VL at this ⊢
       cases hdo:o.dst with
       | none=>trivial
       | some d =>
        rw [hdo] at this
        simp only at this ⊢
        cases hds:l[i].dst with
        | none=>exact this
        | some d' =>
         have hne:d≠d':=fun e=>hji (hdst j i o l[i] d hj hget hdo (by rw [hds,e]))
         simp only [Av,Ec,if_neg hne];exact this
    have e:wpO P l[i] (Bn P l.toArray (Q .norm) f (listed.setIfInBounds i true)) r h=wpI P l[i].op l[i].dst (Bn P l.toArray (Q .norm) f (listed.setIfInBounds i true)) r h:=rfl
    show wpO P l[i] _ r h
    rw [e]
    exact X9 (fun r' h' ⟨v,hr',hV,hP⟩=>by rw [hr'];exact cont v h' hV hP) hst
 refine key l.length (Array.replicate l.length false) r0 h0 μ ?_ ?_ (fun i j _ _=>getD_replicate_false _ _) (fun _ _=>rfl) (fun i o hi hl=> ?_)
 ·have:∀ (m:List Nat),(∀ k∈m,k < l.length)→m.countP (fun i => !(Array.replicate l.length false).getD i true)=m.length:=by
   intro m hm
   rw [List.countP_eq_length]
   intro k hk
   have:=hm k hk
   simp [this]
  rw [this _ (fun k hk=>by simpa using hk),List.length_range]
 ·simp only [getD_replicate_false];exact hi0
 ·rw [getD_replicate_false] at hl;cases hl
theorem ordReg {l:List Oper} (hs:ssaB l=true) {L:Nat→Bool} {r r0:Regs} (hr:∀ d,(∀ j o,l[j]? = some o→o.dst=some d→L j=false)→rg r d=rg r0 d) {m:Nat} {o:Oper} {d:Tmp} (hm:l[m]? = some o) (hd:o.dst=some d) (hL:L m=false):rg r d=rg r0 d:=by
 unfold ssaB at hs
 simp only [Bool.and_eq_true,decide_eq_true_eq] at hs
 exact hr d fun j o' hj hd'=>by rw [Ln hs.1.2 j m o' o d hj hm hd' hd];exact hL
theorem Dr {l:List Oper} {L:Nat→Bool} {r r0:Regs} (hr:∀ d,(∀ j o,l[j]? = some o→o.dst=some d→L j=false)→rg r d=rg r0 d) {d:Tmp} (hd:(l.filterMap (·.dst)).contains d=false):rg r d=rg r0 d :=
 hr d fun j o hj hd'=>absurd (List.mem_filterMap.2 ⟨o,List.mem_of_getElem? hj,hd'⟩) (by simpa using hd)
end
theorem Ab6 (s:Txt) (hl:s.length < 2 ^ 62) (h:Heap):CSem Tryz.prog 111 [S s] h fun x' h'=>x' = .int .u32 (crcR s)∧h'=h:=(Zt s hl).call (k:=1) μ
def opSz:Nat→Int
 | 0=>4
 | 1=>2
 | 2=>4
 | _=>7
def opRs (s:Txt):Nat→Txt
 | 0=>s.drop 3
 | i+1=>(cutR (opRs s i) (opSz i)).2.1
def opVl (s:Txt) (i:Nat):Int:=(cutR (opRs s i) (opSz i)).1
def J3 (s:Txt) (i:Nat):List AV:=((List.range 4).map fun j=>AV.int .i64 (if j < i then opVl s j else 0)) ++ [S []]
def opT (s:Txt):Txt×Txt×Int:=Ht (opRs s 4)
def Dy (s:Txt):BlkD×Int :=
 if s.length < 26 then (blk0,4) else if ¬s.take 3=mag then (blk0,5) else if ¬(opT s).2.2=0∨(opT s).2.1.length < 4 then (blk0,4) else if 4 < (opT s).2.1.length then (blk0,5)
 else if ¬(cutR (opT s).2.1 4).1=crcR (s.take (s.length - 4)) then (blk0,6) else (⟨opVl s 0,opVl s 1,opVl s 2,opVl s 3,(opT s).1⟩,0)
def Q8 (s:Txt):AV:= .tup [BlkA (Dy s).1,.int .i64 (Dy s).2]
theorem Je (s:Txt) (z:Int):(cutR s z).2.1.length≤s.length:=by
 unfold cutR
 split
 ·split<;>simp
 ·simp
theorem A42 (s:Txt):∀ i,(opRs s i).length≤s.length
 | 0=>by simp [opRs]
 | i+1=>Nat.le_trans (Je _ _) (A42 s i)
theorem A79 (s:Txt) {i:Nat} (hi:i < 4):(J3 s i).set i (.int .i64 (opVl s i))=J3 s (i+1):=by
 rcases i with _|_|_|_|i
 ·rfl
 ·rfl
 ·rfl
 ·rfl
 ·omega
structure OpenI (s:Txt) (b q:Nat) (h0:Heap) (i:Nat) (r:Regs) (h:Heap):Prop where
 le:i≤4
 r0:rg r 0=S s
 r2:rg r 2 = .ptr 0 0
 r4:rg r 4=S (opRs s i)
 r6:rg r 6 = .ptr b 0
 r27:rg r 27 = .sl q 0 4 4 2
 r28:rg r 28 = .int .i64 4
 r29:rg r 29 = .int .i64 i
 res:h.get 0=some [.int .i64 0,.int .i64 0,.int .i64 0,.int .i64 0,S []]
 bc:h.get b=some (J3 s i)
 qc:h.get q=some (fldC b)
 ne1:b≠0
 ne2:q≠b
def OpV (s:Txt) (i hn:Nat):Nat→AV→Prop
 | 0,v=>v = .ptr hn 0
 | 1,v=>v = .ptr 1 i
 | 2,v=>v=S (opRs s i)
 | 3,v=>v = .ptr hn 1
 | 4,v=>v = .int .i64 (opSz i)
 | 5,v=>v=cutA (opRs s i) (opSz i)
 | 6,v=>v=cutA (opRs s i) (opSz i)
 | 7,v=>v = .int .i64 (opVl s i)
 | 8,v=>v=S (opRs s (i+1))
 | 9,v=>v = .int .i64 (cutR (opRs s i) (opSz i)).2.2
 | 10,v=>v = .ptr 1 i
 | _,v=>v=S (opRs s (i+1))
theorem Ab7 (s:Txt) (hs:s.length < 2 ^ 46):As Tryz.prog 127 [S s] (Q8 s):=by
 refine As.Ba (k:=3) ?_
 refine CSem.body hm Tryz.func127 rfl κ κ (by simp [Tryz.ntmps127]) ?_
 have hb0:Ct Tryz.prog 113 []=some (.agg [.int .i64 0,.int .i64 0,.int .i64 0,.int .i64 0,S []]):=by kernel_rfl
 have hz5:szT Tryz.prog 113=some 5:=by kernel_rfl
 have hagg:aggT Tryz.prog 113=some true:=by kernel_rfl
 have hzF:B7 Tryz.prog 169=some (.agg [.nilPtr,.int .i64 0]):=by kernel_rfl
 have hsz:szT Tryz.prog 169=some 2:=by kernel_rfl
 simp [Tryz.f127,AV.cells]
 refine (Tj s mag _).use ?_
 unfold cutP
 have hml:mag.length=3:=rfl
 rw [hml]
 by_cases h26:s.length < 26
 ·have h26':(s.length:Int) < 26:=by omega
  by_cases hp:3≤s.length∧s.take 3=mag
  ·simp [hp,h26,h26',hb0,Aj,hz5,putN,Heap.Aa,Heap.Ad,Ac,takeN,Q8,Dy,BlkA,blk0,Da]
  ·simp [hp,h26,h26',hb0,Aj,hz5,putN,Heap.Aa,Heap.Ad,Ac,takeN,Q8,Dy,BlkA,blk0,Da]
 have h26':¬(s.length:Int) < 26:=by omega
 by_cases hmg:s.take 3=mag
 rotate_left
 ·have hp:¬(3≤s.length∧s.take 3=mag):=fun h=>hmg h.2
  simp [hp,hmg,h26,h26',hb0,Aj,hz5,putN,Heap.Aa,Heap.Ad,Ac,takeN,Q8,Dy,BlkA,blk0,Da]
 have hp:3≤s.length∧s.take 3=mag:=⟨ω,hmg⟩
 simp [hp,h26',AV.cells]
 generalize hH:Heap.alloc _ _=H
 have k0:H.get 0=some [.int .i64 0,.int .i64 0,.int .i64 0,.int .i64 0,S []]:=by rw [←hH];exact Heap.Ag (Heap.A9 Heap.empty _)
 have k1:H.get 1=some [.int .i64 0,.int .i64 0,.int .i64 0,.int .i64 0,S []]:=by rw [←hH];exact Heap.A9 (Heap.alloc Heap.empty _) _
 clear hH
 refine (X7 1 H).then ?_
 rintro _ h2 ⟨q,rfl,hq,hqc,E2⟩
 simp
 refine Ar (OpenI s 1 q H) (4 - ·) ?_ 0 ?_
 ·rintro i r h ⟨le,r0,r2,r4,r6,r27,r28,r29,res,bc,qc,ne1,ne2⟩
  have hrl:=A42 s i
  rcases Nat.lt_or_eq_of_le le with hlt|heq
  ·have hlt':(i:Int) < 4:=by omega
   have hw1:IntKind.i64.wrap ((i:Int)+1)=(i:Int)+1:=wrap64 ω ω
   obtain ⟨hld,hat⟩:Fc Tryz.prog h 169 (.ptr q (i * 2))=some (.agg [.ptr 1 i,.int .i64 (opSz i)])∧i < (J3 s i).length:=by
    rcases i with _|_|_|_|i
    ·exact ⟨by rw [Ac κ,hsz,qc];rfl,by simp [J3]⟩
    ·exact ⟨by rw [Ac κ,hsz,qc];rfl,by simp [J3]⟩
    ·exact ⟨by rw [Ac κ,hsz,qc];rfl,by simp [J3]⟩
    ·exact ⟨by rw [Ac κ,hsz,qc];rfl,by simp [J3]⟩
    ·omega
   simp [r0,r2,r4,r6,r27,r28,r29,hlt',hld,Aj,hsz,Heap.Aa,putN,hzF,AV.cells,show (AV.ptr 1 i).atom=true from rfl]
   generalize hH:Heap.put (Heap.alloc h _) _ _=H2
   have g0:H2.get h.next=some [.ptr 1 i,.int .i64 (opSz i)]:=by rw [←hH,Heap.Ad _ _ _ _ μ,if_pos rfl]
   have gold:∀ k cs,h.get k=some cs→H2.get k=some cs:=fun k cs hk=>by
    rw [←hH,Heap.Ad _ _ _ _ μ,if_neg (by have:=Heap.Ah hk;omega)]
    exact Heap.Ag hk
   have gr:=gold 0 _ res
   have gb:=gold 1 _ bc
   have gq:=gold q _ qc
   have hbl:=Heap.Ah gb
   clear hH
   refine ⟨rfl,?_⟩
   refine Aht (fun L H=>H=if L 11=true then H2.put 1 (J3 s (i+1)) else H2) (OpV s i h.next) κ rfl ?_ ?_
   ·intro L r1 H hH cl hr
    have q8:rg r1 8 = .ptr h.next 0:=(Dr hr κ).trans μ
    have q4:L 2=false→rg r1 4=S (opRs s i):=fun hL=>(ordReg κ hr (m:=12) rfl rfl (cl 12 2 κ hL)).trans (by simpa using r4)
    have hH0:L 11=false→H=H2:=fun hL=>by rw [hH,if_neg (by rw [hL];decide)]
    have hset:(J3 s i).set i (.int .i64 (opVl s i))=J3 s (i+1):=A79 s hlt
    refine ⟨?_,?_,?_,?_,?_,?_,?_,?_,?_,?_,?_,?_,?_,trivial⟩
    all_goals (intro hL hd;simp [DepL,VL,OpV,Region.binds] at hd)
    ·simp [q8,A8,OpV,hH]
    ·have h11:=cl 11 1 κ hL
     simp [hd,hH0 h11,g0,OpV,h11]
    ·simp [q4 hL,OpV,hH]
    ·simp [q8,A8,OpV,hH]
    ·have h11:=cl 11 4 κ hL
     simp [hd,hH0 h11,g0,OpV,h11]
    ·simp [hd]
     refine (Jr (opRs s i) (opSz i) ω H).use ?_
     simp [OpV,hH]
    ·simp [hd,OpV,hH]
    ·simp [hd,cutA,OpV,hH,opVl]
    ·simp [hd,cutA,OpV,hH,opRs]
    ·simp [hd,cutA,OpV,hH]
    ·simp [hd,OpV,hH]
    ·simp [hd,hH0 hL,gb,hat,hset]
    ·simp [hd,OpV,hH]
   intro L r1 H hall hH hr hA
   obtain ⟨_,_,_,_,_,_,_,_,_,_,_,_,hz,_⟩:=hA
   simp [VL,OpV] at hz
   rw [if_pos (hall 11 ν)] at hH
   subst hH
   have q:∀ d,([34,35,36,37,38,39,33,40,41,42,43,4]:List Nat).contains d=false→rg r1 d=rg (rset (rset (rset (rset r 30 (.bool true)) 31 (.ptr q (i * 2))) 32 (.agg [.ptr 1 i,.int .i64 (opSz i)])) 8 (.ptr h.next 0)) d:=fun d hd=>hr d (by simpa using hd)
   have s0:=q 0 rfl
   have s2:=q 2 rfl
   have s6:=q 6 rfl
   have s27:=q 27 rfl
   have s28:=q 28 rfl
   have s29:=q 29 rfl
   simp [r0] at s0
   simp [r2] at s2
   simp [r6] at s6
   simp [r27] at s27
   simp [r28] at s28
   simp [r29] at s29
   simp [s29,hw1]
   refine ⟨i+1,ω,ω,by simpa using s0,by simpa using s2,by simpa using hz,by simpa using s6,by simpa using s27,by simpa using s28,μ,?_,?_,?_,ne1,ne2⟩
   ·rw [Heap.Ad _ _ _ _ hbl,if_neg ν];exact gr
   ·rw [Heap.Ad _ _ _ _ hbl,if_pos rfl]
   ·rw [Heap.Ad _ _ _ _ hbl,if_neg ne2];exact gq
  ·subst heq
   have hrl0:=Heap.Ah res
   have hbl:=Heap.Ah bc
   have h4:((4:Nat):Int)=4:=rfl
   have h4:((4:Nat):Int)=4:=rfl
   simp [r0,r2,r4,r6,r27,r28,r29]
   refine ((Zx (opRs s 4) ω).call (k:=1) μ).use ?_
   have hT:Ht (opRs s 4)=opT s:=rfl
   have htl:(opT s).2.1.length≤s.length:=by
    rw [←hT]
    unfold Ht
    split
    ·have:=Je (opRs s 4) 2
     simp only [List.length_drop]
     omega
    ·simp
   have hcell:(J3 s 4)=[.int .i64 (opVl s 0),.int .i64 (opVl s 1),.int .i64 (opVl s 2),.int .i64 (opVl s 3),S []]:=rfl
   have hopen:Dy s=if ¬(opT s).2.2=0∨(opT s).2.1.length < 4 then (blk0,4) else if 4 < (opT s).2.1.length then (blk0,5) else if ¬(cutR (opT s).2.1 4).1=crcR (s.take (s.length - 4)) then (blk0,6) else (⟨opVl s 0,opVl s 1,opVl s 2,opVl s 3,(opT s).1⟩,0):=by
    unfold Dy
    rw [if_neg h26,if_neg (by simpa using hmg)]
   rw [hcell] at bc
   simp only [A91,hT]
   generalize opT s=T at htl hopen ⊢
   obtain ⟨tx,rs,e⟩:=T
   simp only at htl hopen ⊢
   simp [r0,r2,r4,r6,A8,bc]
   by_cases he:e=0
   rotate_left
   ·simp [he,r0,r2,r4,r6,hb0,Aj,hz5,putN,Ac,takeN,Heap.Ad,res,hrl0,hbl]
    simp [Q8,hopen,he,BlkA,blk0]
   by_cases hl1:rs.length < 4
   ·have hl1':(rs.length:Int) < 4:=by omega
    simp [he,hl1,hl1',r0,r2,r4,r6,hb0,Aj,hz5,putN,Ac,takeN,Heap.Ad,res,hrl0,hbl]
    simp [Q8,hopen,he,hl1,BlkA,blk0]
   have hl1':¬(rs.length:Int) < 4:=by omega
   by_cases hl2:4 < rs.length
   ·have hl2':(4:Int) < rs.length:=by omega
    simp [he,hl1,hl1',hl2,hl2',r0,r2,r4,r6,hb0,Aj,hz5,putN,Ac,takeN,Heap.Ad,res,hrl0,hbl]
    simp [Q8,hopen,he,hl1,hl2,BlkA,blk0]
   have hl2':¬(4:Int) < rs.length:=by omega
   simp [he,hl1,hl1',hl2,hl2',r0,r2,r4,r6]
   refine (Jr rs 4 ω _).use ?_
   have hw4:IntKind.i64.wrap ((s.length:Int) - 4)=(s.length:Int) - 4:=wrap64 ω ω
   have hn4:((s.length:Int) - 4).toNat=s.length - 4:=by omega
   have h04:(0:Int)≤(s.length:Int) - 4:=by omega
   have hle4:(s.length:Int) - 4≤s.length:=by omega
   simp [cutA,r0,r2,r4,r6,hw4,Ej,hn4,h04,hle4]
   refine ⟨ω,?_⟩
   refine (Ab6 (s.take (s.length - 4)) (by rw [List.length_take];omega) _).use ?_
   have hcr:=A1k (s.take (s.length - 4))
   have hcw:IntKind.i64.wrap (crcR (s.take (s.length - 4)):Int)=crcR (s.take (s.length - 4)):=wrap64 ω ω
   by_cases hsum:(cutR rs 4).1=crcR (s.take (s.length - 4))
   ·simp [hcw,hsum,r0,r2,r4,r6,hb0,Aj,hz5,putN,Ac,takeN,Heap.Ad,res,hrl0,hbl,bc]
    simp [Q8,hopen,he,hl1,hl2,hsum,BlkA]
   ·simp [hcw,hsum,r0,r2,r4,r6,hb0,Aj,hz5,putN,Ac,takeN,Heap.Ad,res,hrl0,hbl,bc]
    simp [Q8,hopen,he,hl1,hl2,hsum,BlkA,blk0]
 ·refine ⟨ω,μ,μ,by simp [opRs],μ,μ,μ,μ,E2.got k0,E2.got k1,hqc,ν,?_⟩
  have:=Heap.Ah k1;omega
def Cm (s:Txt) (a d p:Int):BlkD×Int:=if (Dy s).2=0∧(Dy s).1.ar=a∧(Dy s).1.dk=d∧(Dy s).1.pl=p then ((Dy s).1,0) else (blk0,if (Dy s).2=0 then 5 else (Dy s).2)
def A43 (s:Txt) (a d p:Int):AV:= .tup [BlkA (Cm s a d p).1,.int .i64 (Cm s a d p).2]
theorem Ahu (b:BlkD) (a d p:Int):binX Tryz.prog .neq 113 (.agg [.int .i64 b.ar,.int .i64 b.dk,.int .i64 b.pl,.int .i64 b.ep,S b.tx]) (.agg [.int .i64 a,.int .i64 d,.int .i64 p,.int .i64 b.ep,S b.tx])=some (.bool (!decide (b.ar=a∧b.dk=d∧b.pl=p))):=by
 have hf:A92 Tryz.prog 113=some [(0,1),(1,1),(2,1),(3,1),(4,2)]:=by kernel_rfl
 have e5:eq1 2 (S b.tx) (S b.tx)=some true:=by
  show some (J7 _ _)=some true
  simp [J7]
 have e1:∀ x y:Int,eq1 1 (.int .i64 x) (.int .i64 y)=some (x == y):=fun x y=>by simp [eq1]
 simp only [binX,Xa,hf,Option.bind_some,eqL,List.getElem?_cons_zero,List.getElem?_cons_succ,e1,e5,Option.map_some]
 congr 2
 rw [Bool.eq_iff_iff]
 simp
theorem Aeq (s:Txt) (hs:s.length < 2 ^ 46) (a d p:Int):As Tryz.prog 92 [S s,.int .i64 a,.int .i64 d,.int .i64 p] (A43 s a d p):=by
 refine As.Ba (k:=3) ?_
 refine CSem.body hm Tryz.func92 rfl κ κ (by simp [Tryz.ntmps92]) ?_
 have hb0:Ct Tryz.prog 113 []=some (.agg [.int .i64 0,.int .i64 0,.int .i64 0,.int .i64 0,S []]):=by kernel_rfl
 have hb5:∀ (a d p e:Int) (t:Txt),Ct Tryz.prog 113 [(0,.int .i64 a),(1,.int .i64 d),(2,.int .i64 p),(3,.int .i64 e),(4,S t)]=some (.agg [.int .i64 a,.int .i64 d,.int .i64 p,.int .i64 e,S t]):=fun a d p e t=>by kernel_rfl
 have hz5:szT Tryz.prog 113=some 5:=by kernel_rfl
 simp [Tryz.f92,AV.cells]
 refine ((Ab7 s hs).call (k:=1) μ).use ?_
 simp only [Q8,A43,Cm]
 generalize Dy s=o
 obtain ⟨b,e⟩:=o
 have hne:=Ahu b a d p
 simp [BlkA,AV.cells,Aj,hz5,putN,Heap.Aa,Heap.Ad]
 by_cases he:e=0
 rotate_left
 ·simp [he,hb0,Aj,hz5,putN,Ac,takeN,Heap.Ad,Heap.Aa,BlkA,blk0]
 by_cases hm:b.ar=a∧b.dk=d∧b.pl=p
 ·obtain ⟨rfl,rfl,rfl⟩:=hm
  simp at hne
  simp [he,hb0,hb5,hne,Aj,hz5,putN,Ac,takeN,Heap.Ad,Heap.Aa,BlkA,blk0,A8]
 ·simp only [hm,decide_false,Bool.not_false] at hne
  simp [he,hm,hb0,hb5,hne,Aj,hz5,putN,Ac,takeN,Heap.Ad,Heap.Aa,BlkA,blk0,A8]
theorem A44 (s:Txt) (hs:s.length < 2 ^ 46) (a d p:Int) (h:Heap):CSem Tryz.prog 92 [S s,.int .i64 a,.int .i64 d,.int .i64 p] h fun x' h'=>x'=A43 s a d p∧h'=h:=(Aeq s hs a d p).call (k:=1) μ
section
variable {c:Cfg}
theorem A1z (hc:Ax c):As Tryz.prog 67 [CfA c] (.int .i64 (1+c.sl+c.st)):=by
 refine As.Ba (k:=1) ?_
 refine CSem.body hm Tryz.func67 rfl κ κ (by simp [Tryz.ntmps67]) ?_
 have h1:=hc.2.2.2.2.1
 have h2:=hc.2.2.2.1
 have w1:IntKind.i64.wrap (1+c.sl)=1+c.sl:=wrap64 ω ω
 have w2:IntKind.i64.wrap (1+c.sl+c.st)=1+c.sl+c.st:=wrap64 ω ω
 simp [Tryz.f67,CfA,AV.cells,A8,Ac,takeN,Heap.Aa,w1,w2]
 refine (Hs c _ _).use ?_
 simp [hc]
theorem A20 (hc:Ax c) (h:Heap):CSem Tryz.prog 67 [CfA c] h fun x' h'=>x' = .int .i64 (1+c.sl+c.st)∧h'=h:=(A1z hc).call (k:=2) (by simp [CfA,snap,mapL])
theorem Ab8 (hc:Ax c) (q:Int) (h0:0≤q):As Tryz.prog 86 [CfA c,.int .i64 q] (.int .i64 (1+q % c.sl)):=by
 refine As.Ba (k:=1) ?_
 refine CSem.body hm Tryz.func86 rfl κ κ (by simp [Tryz.ntmps86]) ?_
 have h1:=hc.2.2.2.2.1
 have hq:¬q < 0:=by omega
 have hs0:¬c.sl=0:=by omega
 have ht:q.tmod c.sl=q % c.sl:=Int.tmod_eq_emod_of_nonneg h0
 have hm1:=Int.emod_lt_of_pos q (show 0 < c.sl by omega)
 have hm0:=Int.emod_nonneg q hs0
 have w1:IntKind.i64.wrap (1+q % c.sl)=1+q % c.sl:=wrap64 ω ω
 have hrem:intX .rem .i64 q c.sl=some (.int .i64 (q % c.sl)):=by simp [intX,hs0,ht]
 simp [Tryz.f86,CfA,AV.cells,A8,Ac,takeN,Heap.Aa]
 refine (Cw c _).use ?_
 simp [hc,hq,hs0,hrem,w1,Heap.Aa,takeN,CfA,A8,Ac]
theorem Tk (hc:Ax c) (q:Int) (h0:0≤q) (h:Heap):CSem Tryz.prog 86 [CfA c,.int .i64 q] h fun x' h'=>x' = .int .i64 (1+q % c.sl)∧h'=h:=(Ab8 hc q h0).call (k:=2) (by simp [CfA,snap,mapL])
def Au (c:Cfg) (n:Int):Int:=if 0≤n∧n < c.st then 1+c.sl+n else -1
theorem A45 (hc:Ax c) (n:Int):As Tryz.prog 74 [CfA c,.int .i64 n] (.int .i64 (Au c n)):=by
 refine As.Ba (k:=1) ?_
 refine CSem.body hm Tryz.func74 rfl κ κ (by simp [Tryz.ntmps74]) ?_
 have h1:=hc.2.2.2.2.1
 have h2:=hc.2.2.2.1
 have w0:IntKind.i64.wrap (c.st - 1)=c.st - 1:=wrap64 ω ω
 have w1:IntKind.i64.wrap (1+c.sl)=1+c.sl:=wrap64 ω ω
 simp [Tryz.f74,CfA,AV.cells,A8,Ac,takeN,Heap.Aa,w0]
 refine (Kq n 0 (c.st - 1) _).use ?_
 by_cases hn:0≤n∧n < c.st
 ·have hn':0≤n∧n≤c.st - 1:=by omega
  have w2:IntKind.i64.wrap (1+c.sl+n)=1+c.sl+n:=wrap64 ω ω
  simp [hn',Heap.Aa,takeN,w1,w2,A8,Ac]
  refine (Hs c _ _).use ?_
  simp [hc,Au,hn]
 ·have hn':¬(0≤n∧n≤c.st - 1):=by omega
  have hr:Au c n = -1:=by unfold Au;rw [if_neg hn]
  simp [hn',Heap.Aa,takeN,A8,Ac]
  refine (Hs c _ _).use ?_
  simp [hc,hr]
theorem L6 (hc:Ax c) (n:Int) (h:Heap):CSem Tryz.prog 74 [CfA c,.int .i64 n] h fun x' h'=>x' = .int .i64 (Au c n)∧h'=h:=(A45 hc n).call (k:=2) (by simp [CfA,snap,mapL])
end
theorem put2 {n:Int} (h0:0≤n) (h1:n < 65536):putR n 2=(le n.toNat 2,0):=by
 have hP:PutP n 2:=⟨ν,ν,h0⟩
 unfold putR
 rw [if_pos hP]
 have:dv n.toNat (2:Int).toNat=n.toNat / 65536:=rfl
 rw [this,if_neg ω]
 rfl
def J5 (l:List Int):Txt:=(l.map fun n=>(putR n 2).1).flatten
theorem A00 (l:List Int):(J5 l).length≤7 * l.length:=by
 unfold J5
 induction l with
 | nil=>simp
 | cons n l ih=>have:=Gu n 2;simp only [List.map_cons,List.flatten_cons,List.length_append,List.length_cons];omega
structure CputI (l:List Int) (B:Nat) (i:Nat) (r:Regs) (h:Heap):Prop where
 le:i≤l.length
 r3:rg r 3 = .gpt B
 r8:rg r 8=IL l
 r9:rg r 9 = .int .i64 l.length
 r10:rg r 10 = .int .i64 i
 bld:L3 h B (J5 (l.take i))
theorem Ab9 (l:List Int) (hl:l.length < 2 ^ 30) (hs:∀ n∈l,n < 2 ^ 62) (hne:J5 l≠[]):As Tryz.prog 80 [IL l] (S (J5 l)):=by
 refine As.Ba (k:=1) ?_
 refine CSem.body hm Tryz.func80 rfl κ κ (by simp [Tryz.ntmps80]) ?_
 simp [Tryz.f80]
 refine Alc.right ⟨5,fun B hB=> ?_⟩
 have hb0:L3 (Heap.empty.setG B (.bld 160 5 [] none)) B []:=⟨none,μ,trivial⟩
 generalize Heap.empty.setG B _=H0 at hb0
 simp
 refine Ar (CputI l B) (l.length - ·) ?_ 0 ?_
 ·rintro i r h ⟨le,r3,r8,r9,r10,bld⟩
  rcases Nat.lt_or_eq_of_le le with hlt|heq
  ·have hlt':(i:Int) < l.length:=by omega
   have hw1:IntKind.i64.wrap ((i:Int)+1)=(i:Int)+1:=wrap64 ω ω
   have htk:l.take (i+1)=l.take i ++ [l[i]]:=List.take_succ_eq_append_getElem hlt
   have hli:=hs l[i] (List.getElem_mem hlt)
   have hcl:=A00 (l.take i)
   have hcl2:(l.take i).length≤i:=by rw [List.length_take];omega
   have hpl:=Gu l[i] 2
   simp [r3,r8,r9,r10,hlt,hlt',I64]
   refine (Jq l[i] 2 ω h).use ?_
   simp [putA,r3,r8,r9,r10]
   refine (Mf bld (putR l[i] 2).1 ω).then ?_
   rintro _ h' ⟨rfl,gh',rfl,hb'⟩
   have hc:J5 (l.take (i+1))=J5 (l.take i) ++ (putR l[i] 2).1:=by
    unfold J5
    rw [htk,List.map_append,List.flatten_append]
    simp only [List.map_cons,List.map_nil,List.flatten_cons,List.flatten_nil,List.append_nil]
   simp [r3,r8,r9,r10,hw1]
   exact ⟨i+1,ω,ω,by simpa using r3,by simpa using r8,by simpa using r9,μ,by rw [hc];exact hb'⟩
  ·subst heq
   rw [List.take_length] at bld
   simp [r3,r8,r9,r10]
   refine (Nn bld hne).use ?_
   simp
 ·exact ⟨ω,μ,μ,μ,μ,by simpa [J5] using hb0⟩
def Gx (c:Cfg):Txt:=[67,79,78,70] ++ J5 [c.k,c.m,c.sh,c.st,c.sl]
theorem Xb {c:Cfg} (hc:Ax c):As Tryz.prog 56 [CfA c] (.tup [S (Gx c),.int .i64 0]):=by
 refine As.Ba (k:=2) ?_
 refine CSem.body hm Tryz.func56 rfl κ κ (by simp [Tryz.ntmps56]) ?_
 simp [Tryz.f56,CfA,AV.cells,A8,Ac,takeN,Heap.Aa]
 refine (Cw c _).use ?_
 have hb:∀ (h:Heap),C8 Tryz.prog h 74 5 [(0,.int .i64 c.k),(1,.int .i64 c.m),(2,.int .i64 c.sh),(3,.int .i64 c.st),(4,.int .i64 c.sl)]=some (.sl h.next 0 5 5 1,h.alloc [.int .i64 c.k,.int .i64 c.m,.int .i64 c.sh,.int .i64 c.st,.int .i64 c.sl]):=fun h=>by kernel_rfl
 simp [hc,Heap.Aa,takeN,CfA,A8,Ac,hb]
 have hg:=hc.1
 have e1:=put2 (n:=c.k) (by have:=hg.1;omega) (by have:=hg.2.2;omega)
 have hne:J5 [c.k,c.m,c.sh,c.st,c.sl]≠[]:=by
  intro h
  have:=congrArg List.length h
  simp [J5,e1] at this
 have hlen:=A00 [c.k,c.m,c.sh,c.st,c.sl]
 simp only [List.length_cons,List.length_nil] at hlen
 refine ((Ab9 [c.k,c.m,c.sh,c.st,c.sl] μ (fun n hn=> ?_) hne).call (k:=2) κ).use ?_
 ·have h1:=hc.2.2.1;have h2:=hc.2.2.2.1;have h3:=hc.2.2.2.2.1;have h4:=hg.1;have h5:=hg.2.1;have h6:=hg.2.2
  simp only [List.mem_cons,List.not_mem_nil,or_false] at hn
  rcases hn with rfl|rfl|rfl|rfl|rfl<;>omega
 have hadd:binX Tryz.prog .add 9 (S [67,79,78,70]) (S (J5 [c.k,c.m,c.sh,c.st,c.sl]))=some (S (Gx c)):=by
  rw [Zv _ _ (by simp only [List.length_cons,List.length_nil];omega)];rfl
 have hadd':binX Tryz.prog .add 9 (.str ⟨#[67,79,78,70]⟩) (S (J5 [c.k,c.m,c.sh,c.st,c.sl]))=some (S (Gx c)):=hadd
 simp [hadd,hadd']
theorem Xc {c:Cfg} (hc:Ax c) (h:Heap):CSem Tryz.prog 56 [CfA c] h fun x' h'=>x' = .tup [S (Gx c),.int .i64 0]∧h'=h:=(Xb hc).call (k:=2) (by simp [CfA,snap,mapL])
structure IntD where
 sq:Int
 st:Int
 tx:Txt
def int0:IntD:=⟨0,0,[]⟩
def IntA (i:IntD):AV:= .agg [.int .i64 i.sq,.int .i64 i.st,S i.tx]
def imag:Txt:=[73,78,84]
def irA (s:Txt):Int×Txt×Int:=cutR (s.drop 3) 7
def irB (s:Txt):Int×Txt×Int:=cutR (irA s).2.1 2
def irC (s:Txt):Txt×Txt×Int:=Ht (irB s).2.1
def Dd (s:Txt):IntD×Int:=if (3≤s.length∧s.take 3=imag)∧(irA s).2.2=0∧(irB s).2.2=0∧(irC s).2.2=0∧(irC s).2.1=[] then (⟨(irA s).1,(irB s).1,(irC s).1⟩,0) else (int0,5)
def Qm (s:Txt):AV:= .tup [IntA (Dd s).1,.int .i64 (Dd s).2]
@[simp] theorem wpI_max3 {P:Program} {x y z:Operand} {ts:Array TypeId} {dst:Option Tmp} {K:Regs→Heap→Prop} {r:Regs} {h:Heap} : wpI P (.call ⟨.builtin .max, #[x,y,z],ts⟩) dst K r h=Has (Ae r x) fun x=>Has (Ae r y) fun y=>Has (Ae r z) fun z=>Has (Rv x y z) fun v=>K (Av r dst v) h:=by
 simp only [wpI,Ay,opB,spO,ghO,or_false,By,Cs,Bb,Bg,Bh]
 cases Ae r x with
 | none=>simp
 | some x=>cases Ae r y with
  | none=>simp
  | some y=>cases Ae r z with
   | none=>simp
   | some z=>simp [Bb]
theorem Aer {a b c:Int} : Rv (.int .i64 a) (.int .i64 b) (.int .i64 c)=some (.int .i64 (if (if b > a then b else a) < c then c else (if b > a then b else a))):=by
 simp only [Rv,L7,if_true]
theorem cut_e (s:Txt) (z:Int):0≤(cutR s z).2.2:=by
 unfold cutR
 split
 ·split<;>simp
 ·simp
theorem take_e (s:Txt):0≤(Ht s).2.2:=by
 unfold Ht
 split<;>simp
theorem A7a (s:Txt) (hs:s.length < 2 ^ 46):As Tryz.prog 97 [S s] (Qm s):=by
 refine As.Ba (k:=3) ?_
 refine CSem.body hm Tryz.func97 rfl κ κ (by simp [Tryz.ntmps97]) ?_
 have hb0:Ct Tryz.prog 93 []=some (.agg [.int .i64 0,.int .i64 0,S []]):=by kernel_rfl
 have hz:B7 Tryz.prog 93=some (.agg [.int .i64 0,.int .i64 0,S []]):=by kernel_rfl
 have hz3:szT Tryz.prog 93=some 3:=by kernel_rfl
 have hagg:aggT Tryz.prog 93=some true:=by kernel_rfl
 simp [Tryz.f97,AV.cells,hz]
 refine (Tj s imag _).use ?_
 unfold cutP
 have hml:imag.length=3:=rfl
 rw [hml]
 by_cases hp:3≤s.length∧s.take 3=imag
 rotate_left
 ·simp [hp,hb0,Aj,hz3,putN,Heap.Aa,Heap.Ad,Ac hagg,takeN,Qm,Dd,IntA,int0,Da]
 have hr:Dd s=if (irA s).2.2=0∧(irB s).2.2=0∧(irC s).2.2=0∧(irC s).2.1=[] then (⟨(irA s).1,(irB s).1,(irC s).1⟩,0) else (int0,5):=by
  unfold Dd
  by_cases hh:(irA s).2.2=0∧(irB s).2.2=0∧(irC s).2.2=0∧(irC s).2.1=[]
  ·rw [if_pos ⟨hp,hh⟩,if_pos hh]
  ·rw [if_neg (fun h=>hh h.2),if_neg hh]
 have l1:(s.drop 3).length≤s.length:=by simp
 have l2:(irA s).2.1.length≤s.length:=Nat.le_trans (Je _ _) l1
 have l3:(irB s).2.1.length≤s.length:=Nat.le_trans (Je _ _) l2
 have e1:=cut_e (s.drop 3) 7
 have e2:=cut_e (irA s).2.1 2
 have e3:=take_e (irB s).2.1
 simp [hp,AV.cells,hz]
 refine (Jr (s.drop 3) 7 ω _).use ?_
 simp [cutA,A8,Heap.Aa,show (cutR (s.drop 3) 7)=irA s from rfl]
 refine (Jr (irA s).2.1 2 ω _).use ?_
 simp [cutA,A8,Heap.Aa,Heap.Ad,show (cutR (irA s).2.1 2)=irB s from rfl]
 refine ((Zx (irB s).2.1 ω).call (k:=1) μ).use ?_
 simp [A91,A8,Heap.Aa,Heap.Ad,show (Ht (irB s).2.1)=irC s from rfl]
 have hm3:=Aer (a:=(irA s).2.2) (b:=(irB s).2.2) (c:=(irC s).2.2)
 have e1':0≤(irA s).2.2:=e1
 have e2':0≤(irB s).2.2:=e2
 have e3':0≤(irC s).2.2:=e3
 have hm0:((if (if (irB s).2.2 > (irA s).2.2 then (irB s).2.2 else (irA s).2.2) < (irC s).2.2 then (irC s).2.2 else (if (irB s).2.2 > (irA s).2.2 then (irB s).2.2 else (irA s).2.2))=0)↔((irA s).2.2=0∧(irB s).2.2=0∧(irC s).2.2=0):=by
  split<;>split<;>omega
 generalize (if (if (irB s).2.2 > (irA s).2.2 then (irB s).2.2 else (irA s).2.2) < (irC s).2.2 then (irC s).2.2 else (if (irB s).2.2 > (irA s).2.2 then (irB s).2.2 else (irA s).2.2))=M at hm3 hm0
 simp [hm3]
 by_cases hM:M=0
 ·have hall:=hm0.1 hM
  by_cases hrest:(irC s).2.1=[]
  ·simp [hM,hrest,hb0,Aj,hz3,putN,Heap.Aa,Heap.Ad,Ac hagg,takeN,Da]
   simp [Qm,hr,hall,hrest,IntA]
  ·simp [hM,hrest,hb0,Aj,hz3,putN,Heap.Aa,Heap.Ad,Ac hagg,takeN,Da]
   simp [Qm,hr,hrest,IntA,int0]
 ·have hall:¬((irA s).2.2=0∧(irB s).2.2=0∧(irC s).2.2=0):=fun h=>hM (hm0.2 h)
  have hall2:¬((irA s).2.2=0∧(irB s).2.2=0∧(irC s).2.2=0∧(irC s).2.1=[]):=fun h=>hall ⟨h.1,h.2.1,h.2.2.1⟩
  simp [hM,hb0,Aj,hz3,putN,Heap.Aa,Heap.Ad,Ac hagg,takeN,Da]
  simp [Qm,hr,hall2,IntA,int0]
theorem A7b (s:Txt) (hs:s.length < 2 ^ 46) (h:Heap):CSem Tryz.prog 97 [S s] h fun x' h'=>x'=Qm s∧h'=h:=(A7a s hs).call (k:=1) μ
def cmag:Txt:=[67,79,78,70]
def crRs (s:Txt):Nat→Txt
 | 0=>s.drop 4
 | i+1=>(cutR (crRs s i) 2).2.1
def crVl (s:Txt) (i:Nat):Int:=(cutR (crRs s i) 2).1
def Kc (s:Txt) (i:Nat):List AV:=(List.range 5).map fun j=>AV.int .i64 (if j < i then crVl s j else 0)
def crC (s:Txt):Cfg:=⟨crVl s 0,crVl s 1,crVl s 2,crVl s 3,crVl s 4⟩
def cfg0:Cfg:=⟨0,0,0,0,0⟩
def Ga (s:Txt):Cfg×Int:=if (4≤s.length∧s.take 4=cmag)∧(s.drop 4).length=10∧Ax (crC s) then (crC s,0) else (cfg0,5)
def Pr (s:Txt):AV:= .tup [CfA (Ga s).1,.int .i64 (Ga s).2]
theorem A46 (s:Txt):∀ i,(crRs s i).length≤s.length
 | 0=>by simp [crRs]
 | i+1=>Nat.le_trans (Je _ _) (A46 s i)
theorem A7c (s:Txt) {i:Nat} (hi:i < 5):(Kc s i).set i (.int .i64 (crVl s i))=Kc s (i+1):=by
 unfold Kc
 generalize crVl s=f
 rcases i with _|_|_|_|_|i
 ·rfl
 ·rfl
 ·rfl
 ·rfl
 ·rfl
 ·omega
theorem Ahv (s:Txt):Kc s 5=[.int .i64 (crC s).k,.int .i64 (crC s).m,.int .i64 (crC s).sh,.int .i64 (crC s).st,.int .i64 (crC s).sl]:=by
 simp only [crC]
 unfold Kc
 generalize crVl s=f
 rfl
def ptr5 (b:Nat):List AV:=[.ptr b 0,.ptr b 1,.ptr b 2,.ptr b 3,.ptr b 4]
structure CrI (s:Txt) (b q:Nat) (i:Nat) (r:Regs) (h:Heap):Prop where
 le:i≤5
 r2:rg r 2 = .ptr 0 0
 r4:rg r 4=S (crRs s i)
 r6:rg r 6 = .ptr b 0
 r27:rg r 27 = .sl q 0 5 5 1
 r28:rg r 28 = .int .i64 5
 r29:rg r 29 = .int .i64 i
 res:h.get 0=some [.int .i64 0,.int .i64 0,.int .i64 0,.int .i64 0,.int .i64 0]
 bc:h.get b=some (Kc s i)
 qc:h.get q=some (ptr5 b)
 ne1:b≠0
 ne2:q≠b
theorem Yf (s:Txt) (hs:s.length < 2 ^ 46):As Tryz.prog 65 [S s] (Pr s):=by
 refine As.Ba (k:=3) ?_
 refine CSem.body hm Tryz.func65 rfl κ κ (by simp [Tryz.ntmps65]) ?_
 have hb0:Ct Tryz.prog 23 []=some (.agg [.int .i64 0,.int .i64 0,.int .i64 0,.int .i64 0,.int .i64 0]):=by kernel_rfl
 have hz:B7 Tryz.prog 23=some (.agg [.int .i64 0,.int .i64 0,.int .i64 0,.int .i64 0,.int .i64 0]):=by kernel_rfl
 have hz5:szT Tryz.prog 23=some 5:=by kernel_rfl
 have hagg:aggT Tryz.prog 23=some true:=by kernel_rfl
 have hbs:∀ (h:Heap) (b:Nat),C8 Tryz.prog h 143 5 [(0,.ptr b 0),(1,.ptr b 1),(2,.ptr b 2),(3,.ptr b 3),(4,.ptr b 4)]=some (.sl h.next 0 5 5 1,h.alloc (ptr5 b)):=fun h b=>by kernel_rfl
 simp [Tryz.f65,AV.cells,hz]
 refine (Tj s cmag _).use ?_
 unfold cutP
 have hml:cmag.length=4:=rfl
 rw [hml]
 by_cases hp:4≤s.length∧s.take 4=cmag
 rotate_left
 ·simp [hp,hb0,Aj,hz5,putN,Heap.Aa,Heap.Ad,Ac hagg,takeN,Pr,Ga,CfA,cfg0,Da]
 by_cases hl:(s.drop 4).length=10
 rotate_left
 ·have hl':¬((s.length - 4:Nat):Int)=10:=by simp at hl;omega
  have hl2:¬s.length - 4=10:=by simpa using hl
  simp [hp,hl,hl',hl2,hb0,Aj,hz5,putN,Heap.Aa,Heap.Ad,Ac hagg,takeN,Pr,Ga,CfA,cfg0,Da]
 have hl':((s.length - 4:Nat):Int)=10:=by simp at hl;omega
 have hl2:s.length - 4=10:=by simpa using hl
 simp [hp,hl,hl',hl2,AV.cells,hz,A8,hbs]
 generalize hH:Heap.alloc _ (ptr5 _)=H
 have k0:H.get 0=some [.int .i64 0,.int .i64 0,.int .i64 0,.int .i64 0,.int .i64 0]:=by rw [←hH];exact Heap.Ag (Heap.Ag (Heap.A9 Heap.empty _))
 have k1:H.get 1=some [.int .i64 0,.int .i64 0,.int .i64 0,.int .i64 0,.int .i64 0]:=by rw [←hH];exact Heap.Ag (Heap.A9 (Heap.alloc Heap.empty _) _)
 have k2:H.get 2=some (ptr5 1):=by rw [←hH];exact Heap.A9 (Heap.alloc (Heap.alloc Heap.empty _) _) _
 clear hH
 refine Ar (CrI s 1 2) (5 - ·) ?_ 0 ?_
 ·rintro i r h ⟨le,r2,r4,r6,r27,r28,r29,res,bc,qc,ne1,ne2⟩
  have hrl:=A46 s i
  have hbl:=Heap.Ah bc
  rcases Nat.lt_or_eq_of_le le with hlt|heq
  ·have hlt':(i:Int) < 5:=by omega
   have hw1:IntKind.i64.wrap ((i:Int)+1)=(i:Int)+1:=wrap64 ω ω
   have hpt:(ptr5 1)[i]? = some (.ptr 1 i):=by
    rcases i with _|_|_|_|_|i
    ·rfl
    ·rfl
    ·rfl
    ·rfl
    ·rfl
    ·omega
   have hpl:i < (ptr5 1).length:=by simpa [ptr5] using hlt
   have hcl:i < (Kc s i).length:=by simpa [Kc] using hlt
   have hset:(Kc s i).set i (.int .i64 (crVl s i))=Kc s (i+1):=A7c s hlt
   simp [r2,r4,r6,r27,r28,r29,hlt',qc,hpt]
   refine (Jr (crRs s i) 2 ω h).use ?_
   simp [cutA,r2,r4,r6,r27,r28,r29,bc,hcl,hw1,show (cutR (crRs s i) 2).1=crVl s i from rfl,hset]
   refine ⟨i+1,ω,ω,by simpa using r2,by simp [crRs],by simpa using r6,by simpa using r27,by simpa using r28,μ,?_,?_,?_,ne1,ne2⟩
   ·rw [Heap.Ad _ _ _ _ hbl,if_neg ν];exact res
   ·rw [Heap.Ad _ _ _ _ hbl,if_pos rfl]
   ·rw [Heap.Ad _ _ _ _ hbl,if_neg ν];exact qc
  ·subst heq
   have hrl0:=Heap.Ah res
   have hcc:Kc s 5=[.int .i64 (crC s).k,.int .i64 (crC s).m,.int .i64 (crC s).sh,.int .i64 (crC s).st,.int .i64 (crC s).sl]:=Ahv s
   rw [hcc] at bc
   have hrd:Ga s=if Ax (crC s) then (crC s,0) else (cfg0,5):=by
    unfold Ga
    by_cases hc:Ax (crC s)
    ·rw [if_pos ⟨hp,hl,hc⟩,if_pos hc]
    ·rw [if_neg (fun h=>hc h.2.2),if_neg hc]
   simp only [Pr,hrd]
   generalize crC s=c at bc ⊢
   simp [r2,r4,r6,r27,r28,r29,Ac hagg,hz5,bc,takeN]
   refine (Cw c h).use ?_
   by_cases hc:Ax c
   ·simp [hc,r2,r6,hb0,Aj,hz5,putN,Ac hagg,takeN,Heap.Ad,res,hrl0,bc,CfA]
   ·simp [hc,r2,r6,hb0,Aj,hz5,putN,Ac hagg,takeN,Heap.Ad,res,hrl0,bc,CfA,cfg0]
 ·exact ⟨ω,μ,by simp [crRs],μ,μ,μ,μ,k0,k1,k2,ν,ν⟩
theorem Yg (s:Txt) (hs:s.length < 2 ^ 46) (h:Heap):CSem Tryz.prog 65 [S s] h fun x' h'=>x'=Pr s∧h'=h:=(Yf s hs).call (k:=1) μ
structure IwAt (l:List Txt) (e:Int) (pb eb:Nat) (h:Heap):Prop where
 parts:∃ x G,h.get pb=some [x]∧x.atom=true∧CapA x (l.map S) h G∧¬G pb∧¬G eb∧∀ b,G b→pb < b
 err:h.get eb=some [.int .i64 e]
 ne:pb≠eb
theorem Uw {l:List Txt} {e0 f:Int} {pb eb:Nat} {h:Heap} (I:IwAt l e0 pb eb h) (t:Txt) (hl:l.length < 2 ^ 30) :
  CSem Tryz.prog 114 [S t,.int .i64 f,.ptr pb 0,.ptr eb 0] h fun x h'=>x = .tup []∧IwAt (l ++ [t]) (if e0=0 then f else e0) pb eb h'∧(∀ b cs,b < pb→h.get b=some cs→b≠eb→h'.get b=some cs):=by
 obtain ⟨⟨x,G,k1,kx,kc,kp,ke,klt⟩,k2,hne⟩:=I
 refine CSem.body hm Tryz.func114 rfl κ κ (by simp [Tryz.ntmps114]) ?_
 have hp:=Heap.Ah k1
 have hel:=Heap.Ah k2
 obtain ⟨x',h',G',e,w',g1,g2,g3,g4,g5,g6⟩:=Ky (P:=Tryz.prog) (t:=51) (xt:=51) κ (w:=S t) (Jk t) kc (by simp;omega)
 have kp':h'.get pb=some [x]:=(g2 pb hp kp).trans k1
 have ke':h'.get eb=some [.int .i64 e0]:=(g2 eb hel ke).trans k2
 have hp':=Heap.Ah kp'
 have hel':=Heap.Ah ke'
 have hG'p:¬G' pb:=fun hg=>(g1 pb hg).elim kp (fun h=>by omega)
 have hG'e:¬G' eb:=fun hg=>(g1 eb hg).elim ke (fun h=>by omega)
 have hlt':∀ b,G' b→pb < b:=fun b hb=>(g1 b hb).elim (klt b) (fun h=>by omega)
 have ke2:(h'.put pb [x']).get eb=some [.int .i64 e0]:=by rw [Heap.Ad _ _ _ _ hp',if_neg (Ne.symm hne)];exact ke'
 simp [Tryz.f114,k1,Bt (P:=Tryz.prog) (t:=51) (xt:=51) κ (Jk t),e,g6,kp',ke2]
 have base:∀ (v:Int),IwAt (l ++ [t]) v pb eb ((h'.put pb [x']).put eb [.int .i64 v]):=fun v =>
  ⟨⟨x',G',by rw [Heap.Ad _ _ _ _ (by simpa using hel'),if_neg hne,Heap.Ad _ _ _ _ hp',if_pos rfl],g6,by
   rw [List.map_append]
   exact w'.keep fun b hb=>by
    rw [Heap.Ad _ _ _ _ (by simpa using hel'),if_neg (fun e:b=eb=>hG'e (e ▸ hb)),Heap.Ad _ _ _ _ hp',if_neg (fun e:b=pb=>hG'p (e ▸ hb))],hG'p,hG'e,hlt'⟩,by rw [Heap.Ad _ _ _ _ (by simpa using hel'),if_pos rfl],hne⟩
 have fr:∀ b cs,b < pb→h.get b=some cs→b≠eb→(h'.put pb [x']).get b=some cs:=fun b cs hb hg hbe=>by
  rw [Heap.Ad _ _ _ _ hp',if_neg ω,g2 b (Heap.Ah hg) (fun hG=>by have:=klt b hG;omega)]
  exact hg
 by_cases h0:e0=0
 ·subst h0
  simp [ke2]
  refine ⟨base f,fun b cs hb hg hbe=> ?_⟩
  rw [Heap.Ad _ _ _ _ (by simpa using hel'),if_neg hbe]
  exact fr b cs hb hg hbe
 ·simp [h0]
  refine ⟨⟨⟨x',G',by rw [Heap.Ad _ _ _ _ hp',if_pos rfl],g6,by
   rw [List.map_append]
   exact w'.keep fun b hb=>by rw [Heap.Ad _ _ _ _ hp',if_neg (fun e:b=pb=>hG'p (e ▸ hb))],hG'p,hG'e,hlt'⟩,by rw [Heap.Ad _ _ _ _ hp',if_neg (Ne.symm hne)];exact ke',hne⟩,fr⟩
def Ez (i:IntD):List (Txt×Int):=[(imag,0),putR i.sq 7,putR i.st 2,E8 i.tx]
def Bk (i:IntD):Txt×Int:=if err1 ((Ez i).map (·.2))=0 then (((Ez i).map (·.1)).flatten,0) else ([],err1 ((Ez i).map (·.2)))
def Rw (i:IntD):AV:= .tup [S (Bk i).1,.int .i64 (Bk i).2]
theorem CapA.snap {x:AV} {l:List Txt} {h:Heap} {G:Nat→Prop} (c:CapA x (l.map S) h G):snap h true 2 x=some (SL l):=by
 rcases c with ⟨rfl,h0,_⟩|⟨wb,c,cells,rfl,hg,hcl,hle,htk,_⟩
 ·have:l=[]:=by simpa using h0
  subst this
  rfl
 ·rw [List.length_map] at hle htk ⊢
  refine R6 (f:=S) (g:=S) hg ?_ rfl (fun x _=>by simp)
  have:0+l.length≤cells.length:=by omega
  simp [takeN,htk]
  omega
structure IntB (i:IntD):Prop where
 sq:i.sq < 2 ^ 62
 st:i.st < 2 ^ 62
 tx:i.tx.length < 2 ^ 46
theorem A47 (i:IntD) (hi:IntB i):As Tryz.prog 84 [IntA i] (Rw i):=by
 refine As.Ba (k:=2) ?_
 refine CSem.body hm Tryz.func84 rfl κ κ (by simp [Tryz.ntmps84]) ?_
 simp [Tryz.f84,IntA,AV.cells,Heap.Aa,Heap.Ad]
 generalize hH:Heap.put _ 2 _=H
 have k0:H.get 0=some [.int .i64 i.sq,.int .i64 i.st,S i.tx]:=by
  rw [←hH,Heap.Ad _ _ _ _ (by simp [Heap.empty]),if_neg ν]
  exact Heap.Ag (Heap.Ag (Heap.A9 Heap.empty _))
 have k1:H.get 1=some [.nilSl]:=by
  rw [←hH,Heap.Ad _ _ _ _ (by simp [Heap.empty]),if_neg ν]
  exact Heap.Ag (Heap.A9 (Heap.alloc Heap.empty _) _)
 have k2:H.get 2=some [.int .i64 0]:=by rw [←hH,Heap.Ad _ _ _ _ (by simp [Heap.empty]),if_pos rfl]
 clear hH
 have I0:IwAt [] 0 1 2 H:=⟨⟨.nilSl,fun _=>False,k1,rfl,.inl ⟨rfl,rfl,fun _ h=>h⟩,fun h=>h,fun h=>h,fun _ h=>h.elim⟩,k2,ν⟩
 refine (Uw I0 imag μ).then ?_
 rintro _ h1 ⟨rfl,I1,f1⟩
 have q1:=f1 0 _ ν k0 ν
 simp at I1
 simp [A8,q1]
 refine (Jq i.sq 7 (by have:=hi.sq;omega) h1).use ?_
 simp [putA]
 refine (Uw (f:=(putR i.sq 7).2) I1 (putR i.sq 7).1 μ).then ?_
 rintro _ h2 ⟨rfl,I2,f2⟩
 have q2:=f2 0 _ ν q1 ν
 simp at I2
 simp [A8,q2]
 refine (Jq i.st 2 (by have:=hi.st;omega) h2).use ?_
 simp [putA]
 refine (Uw (f:=(putR i.st 2).2) I2 (putR i.st 2).1 μ).then ?_
 rintro _ h3 ⟨rfl,I3,f3⟩
 have q3:=f3 0 _ ν q2 ν
 simp [A8,q3]
 refine (Zw i.tx hi.tx h3).use ?_
 simp [Zu]
 refine (Uw (f:=(E8 i.tx).2) I3 (E8 i.tx).1 μ).then ?_
 rintro _ h4 ⟨rfl,I4,f4⟩
 have hE:(if (if (putR i.sq 7).2=0 then (putR i.st 2).2 else (putR i.sq 7).2)=0 then (E8 i.tx).2 else (if (putR i.sq 7).2=0 then (putR i.st 2).2 else (putR i.sq 7).2))=err1 ((Ez i).map (·.2)):=by
  simp only [Ez,List.map_cons,List.map_nil,err1]
  by_cases h1:(putR i.sq 7).2=0<;>by_cases h2:(putR i.st 2).2=0<;>by_cases h3:(E8 i.tx).2=0<;>simp [h1,h2,h3]
 have hP:[imag] ++ [(putR i.sq 7).1] ++ [(putR i.st 2).1] ++ [(E8 i.tx).1]=(Ez i).map (·.1):=rfl
 obtain ⟨⟨x,G,p1,px,pc,_⟩,p2,_⟩:=I4
 rw [hE] at p2
 have hP2:[imag,(putR i.sq 7).1] ++ [(putR i.st 2).1] ++ [(E8 i.tx).1]=(Ez i).map (·.1):=rfl
 rw [hP2] at pc
 have hsn:=pc.snap
 by_cases he:err1 ((Ez i).map (·.2))=0
 rotate_left
 ·simp [p2,he]
  refine Br 3 κ ?_
  simp [p2,Rw,Bk,he]
 have hfl:((Ez i).map (·.1)).flatten.length≤70000:=by
  have a1:=Gu i.sq 7
  have a2:=Gu i.st 2
  have a3:(E8 i.tx).1.length≤65538:=by
   unfold E8
   split<;>simp<;>omega
  simp only [Ez,List.map_cons,List.map_nil,List.flatten_cons,List.flatten_nil,List.length_append,List.length_nil,show imag.length=3 from rfl]
  omega
 simp [p2,he,p1]
 refine (Vy ((Ez i).map (·.1)) [] (by simp [Ez]) (by rw [M7];omega) hsn).use ?_
 simp [Rw,Bk,he,M7]
theorem A48 (i:IntD) (hi:IntB i) (h:Heap):CSem Tryz.prog 84 [IntA i] h fun x' h'=>x'=Rw i∧h'=h:=(A47 i hi).call (k:=2) (by simp [IntA,Da,mapL])
end Go.Proofs.YtmbndhciflilbaaGreatDoor.X
