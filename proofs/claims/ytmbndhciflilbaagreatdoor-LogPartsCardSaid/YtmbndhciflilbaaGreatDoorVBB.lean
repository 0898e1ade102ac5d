/-
  Texts of a proof, as one: B1, B2, V20, V21, V22, XOL, V23, V24, V25, V26, V27, V28, V29.
-/
import Derived.Shelf.Lay
import Derived.Shelf.Strings.BuilderF
import Derived.Ground.NamesProg
import Derived.Test.YtmbndhciflilbaaGreatDoorEA
import Derived.Test.YtmbndhciflilbaaGreatDoorVA
namespace Go.Proofs.YtmbndhciflilbaaGreatDoor.X
open Go.RowKit Go.Shelf
set_option linter.unusedVariables false
section
variable {P:Program} {ρ : Ren}
def SzK (w w':World):Prop:= ∀ (k:Nat) (cs:Array Value) (e:TypeId) (fz:Nat×Nat),w.heap[k]? = some (.cells cs e fz)→∃ (cs':Array Value) (e':TypeId) (fz':Nat×Nat),w'.heap[k]? = some (.cells cs' e' fz')∧cs'.size=cs.size
theorem SzK.refl (w:World):SzK w w:=fun k cs e fz h=>⟨cs,e,fz,h,rfl⟩
theorem SzK.trans {w w1 w2:World} (a:SzK w w1) (b:SzK w1 w2):SzK w w2:=fun k cs e fz h=>by
 obtain ⟨c1,e1,f1,h1,s1⟩:=a k cs e fz h
 obtain ⟨c2,e2,f2,h2,s2⟩:=b k c1 e1 f1 h1
 exact ⟨c2,e2,f2,h2,s2.trans s1⟩
theorem SzK.set (w:World) (a:Addr) (v:Value):SzK w (w.setCell a v):=fun k cs e fz h=>by
 simp only [World.setCell,Array.getElem?_modify]
 by_cases hk:a.block=k
 ·rw [if_pos hk,h]
  refine ⟨_,_,_,rfl,?_⟩
  split<;>simp
 ·rw [if_neg hk];exact ⟨cs,e,fz,h,rfl⟩
theorem app_str (w:World) (t u ty e:TypeId) (i:TypeInfo) (ht:P.underlying t=some (.slice e)) (hu:P.underlying u=some .string) (hi:P.info? e=some i) (hz:i.zero=some (.int .u8 0)) (hs1:i.size=1) (hb1:i.bytes=1)
  (v:Value) (n:Nat) (xs:List Value) (hown:w.ownsRowF 0 e 1 v n xs) (s:ByteArray) (hn:n+s.size≤140737488355328) :
  ∃ v' w',(Builtin.append_ #[t,u] ty #[v,.string s]).run P w = .ok v' w'∧w'.ownsRowF 0 e 1 v' (n+s.size) (xs ++ Lib.strCells s)∧w.grownBy w' v.ownBlock∧(v'.ownBlock=v.ownBlock∨∃ g,v'.ownBlock=some g∧w.heap.size≤g)∧SzK w w':=by
 have lt:∀ {k:Nat} {o:Obj},w.heap[k]? = some o→k < w.heap.size:=fun h=>(Array.getElem?_eq_some_iff.1 h).1
 rcases hown.2 with ⟨rfl,h0⟩|⟨g,cap,cur,fz,rfl,_,hg,hfz,hnc,hcm,hcs,htk⟩
 ·subst h0
  have hx:xs=[]:=List.eq_nil_of_length_eq_zero (by simpa using hown.1)
  subst hx
  obtain ⟨v',w',h1,h2,h3,h4⟩:=Lib.run_append_own_string (P:=P) w w.heap.size t u ty e i ht hu hi hz hs1 hb1 (.slice none 0 0) 0 [] ⟨by simp,.inl ⟨rfl,rfl⟩⟩ s (by unfold maxLen;omega) hn (Nat.le_refl _)
  refine ⟨v',w',h1,?_,h3,?_,fun k cs e fz hk=>⟨cs,e,fz,by rw [h3.block k (lt hk) (by simp [Value.ownBlock])];exact hk,rfl⟩⟩
  ·refine ⟨h2.1,?_⟩
   rcases h2.2 with hh|⟨g,cap,cur,hv,hb,hg,r1,r2,r3,r4⟩
   ·exact .inl hh
   ·exact .inr ⟨g,cap,cur,(0,0),hv,Nat.zero_le _,hg,Nat.zero_le _,r1,r2,r3,r4⟩
  ·rcases h2.2 with ⟨hh,_⟩|⟨g,cap,cur,hv,hb,hg,_⟩
   ·left;rw [hh]
   ·right;exact ⟨g,by rw [hv];rfl,hb⟩
 ·have hxl:xs.length=n:=by simpa using hown.1
  have hlen:(xs ++ Lib.strCells s).length=(n+s.size) * 1:=by rw [List.length_append,hxl,Lib.strCells_length,Nat.mul_one]
  by_cases hroom:n+s.size≤cap
  ·have hcs':cur.size=cap:=by simpa using hcs
   have hr:=Lib.run_append_room_stringF (P:=P) w t u ty e i ht hu hi hs1 g n cap cur fz hg (by simpa using hfz) s hroom (by omega)
   refine ⟨_,_,hr,⟨hlen,.inr ⟨g,cap,_,fz,rfl,Nat.zero_le _,setRow_heap w g cur _ e _ hg,by omega,hroom,hcm,?_,?_⟩⟩,⟨rfl,rfl,rfl,by simp,fun k _ hk=>setRow_other w g k _ (fun e=>hk (by simp [Value.ownBlock,e]))⟩,.inl rfl,fun k cs e' fz' hk=> ?_⟩
   ·simp only [List.size_toArray,List.length_append,List.length_take,List.length_drop,Array.length_toList,Lib.strCells_length]
    omega
   ·have ht':cur.toList.take n=xs:=by simpa using htk
    rw [ht',←hlen]
    exact List.take_left
   ·by_cases hkg:k=g
    ·subst hkg
     rw [hg] at hk
     cases hk
     refine ⟨_,_,_,setRow_heap w _ _ _ _ _ hg,?_⟩
     simp only [List.size_toArray,List.length_append,List.length_take,List.length_drop,Array.length_toList,Lib.strCells_length]
     omega
    ·exact ⟨cs,e',fz',by rw [setRow_other w g k _ hkg];exact hk,rfl⟩
  ·have holds:∀ j u,xs[j]? = some u→w.cell? ((⟨g,0,none⟩:Addr).add j)=some u:=hown.cells (g:=g) rfl
   have hr:=Lib.run_append_grow_string (P:=P) w t u ty e i (.int .u8 0) ht hu hi hz ⟨g,0,none⟩ n cap xs (by rw [hs1];simpa using hxl) holds s (by omega) (by omega) (by rw [hb1];exact growslice_fits (by omega) (by omega))
   refine ⟨_,_,hr,⟨hlen,.inr ⟨w.heap.size,_,_,(0,0),rfl,Nat.zero_le _,heap_alloc_new w.drew _,Nat.zero_le _,grownCap_ge w (n+s.size) cap e,grownCap_le_maxLen w (n+s.size) cap e (by unfold maxLen;omega),?_,?_⟩⟩,
    ⟨rfl,rfl,rfl,by simp,fun k hk _=>heap_alloc_old w.drew _ hk⟩,.inr ⟨w.heap.size,rfl,Nat.le_refl _⟩,fun k cs e' fz' hk=>⟨cs,e',fz',by rw [heap_alloc_old w.drew _ (lt hk)];exact hk,rfl⟩⟩
   ·have hz1:(Value.int IntKind.u8 0).cells.size=1:=rfl
    have hge:=grownCap_ge w (n+s.size) cap e
    simp only [Array.size_append,List.size_toArray,size_zeroCells,hz1,hxl,Lib.strCells_length]
    omega
   ·simp only [Array.toList_append,List.append_assoc]
    rw [←List.append_assoc,←hlen]
    exact List.take_left
theorem wp_app_str {w:World} {ops:Array Oper} {rest:List Oper} {o:Oper} {a:Act} {Q:Exit→Act→World→Prop} (hgd:o.guard=none) (sl x:Operand) (t u:TypeId)
  (ho:o.op = .call { callee:= .builtin .append,args := #[sl,x],argTypes := #[t,u] }) (e:TypeId) (i:TypeInfo) (ht:P.underlying t=some (.slice e)) (hu:P.underlying u=some .string) (hi:P.info? e=some i)
  (hz:i.zero=some (.int .u8 0)) (hs1:i.size=1) (hb1:i.bytes=1) (v:Value) (n:Nat) (xs:List Value) (hs:a.eval sl=v) (hown:w.ownsRowF 0 e 1 v n xs) (s:ByteArray) (hx:a.eval x = .string s) (hn:n+s.size≤140737488355328)
  (h:∀ v' w',w'.ownsRowF 0 e 1 v' (n+s.size) (xs ++ Lib.strCells s)→w.grownBy w' v.ownBlock→(v'.ownBlock=v.ownBlock∨∃ g,v'.ownBlock=some g∧w.heap.size≤g)→SzK w w'→wpList P ops Q rest (a.put o.dst v') w'):wpList P ops Q (o :: rest) a w:=by
 refine wpList_plain hgd fun K hK=> ?_
 obtain ⟨v',w',hr,h2,h3,h4,h5⟩:=app_str (P:=P) w t u o.type e i ht hu hi hz hs1 hb1 v n xs hown s hn
 unfold Oper.wp execOp
 simp only [ho,resolve,invoke,builtin,Sem.run_bind,Sem.run_pure,Result.andThen_ok,List.map_toArray,List.map_cons,List.map_nil,hs,hx,hr]
 exact hK _ _ (h v' w' h2 h3 h4 h5)
structure BAt (T e:TypeId) (b:Nat) (v:Value) (n:Nat) (xs:List Value) (w:World):Prop where
 blk:∃ p:Value,(p = .pointer none∨p = .pointer (some ⟨b,0,none⟩))∧w.heap[b]? = some (.cells #[p,v] T (0,0))
 own:w.ownsRowF 0 e 1 v n xs
 ne:v.ownBlock≠some b
set_option maxHeartbeats 2000000 in
set_option maxRecDepth 100000 in
theorem bld_write (L:Lays.n166 P ρ) (X:Builder.Extra P ρ) {b:Nat} {v:Value} {n:Nat} {xs:List Value} {w:World} (h:BAt (ρ.t 72) (ρ.t 5) b v n xs w) (s:ByteArray) (hlen:n+s.size≤140737488355328) :
  Calls P (ρ.f 166) #[.pointer (some ⟨b,0,none⟩),.string s] w fun e w'=>e = .returned (.tuple #[.int .i64 s.size,.nilIface])∧∃ v',BAt (ρ.t 72) (ρ.t 5) b v' (n+s.size) (xs ++ Lib.strCells s) w' ∧
   (∀ k,k < w.heap.size→k≠b→v.ownBlock≠some k→w'.heap[k]? = w.heap[k]?)∧w.heap.size≤w'.heap.size∧w'.os=w.os∧w'.tape=w.tape∧w'.output=w.output∧(v'.ownBlock=v.ownBlock∨∃ g,v'.ownBlock=some g∧w.heap.size≤g)∧SzK w w':=by
 obtain ⟨i0,hi,hz0,hz1,hz2⟩:=info_parts X.infoByte
 have mixed:=L.mixed
 have t72:=L.t72;have a72:=L.a72;have z72:=L.z72;have v72:=L.v72;have u72:=run_underlying L.t72
 have t70:=L.t70;have a70:=L.a70;have z70:=L.z70;have v70:=L.v70;have u70:=run_underlying L.t70
 have t37:=L.t37;have a37:=L.a37;have z37:=L.z37;have v37:=L.v37;have u37:=run_underlying L.t37
 have t3:=L.t3;have a3:=L.a3;have z3:=L.z3;have v3:=L.v3;have u3:=run_underlying L.t3
 have t9:=L.t9;have a9:=L.a9;have z9:=L.z9;have v9:=L.v9;have u9:=run_underlying L.t9
 have t4:=L.t4;have a4:=L.a4;have z4:=L.z4;have v4:=L.v4;have u4:=run_underlying L.t4
 have t164:=L.t164;have a164:=L.a164;have z164:=L.z164;have v164:=L.v164;have u164:=run_underlying L.t164
 have t5:=X.t5;have a5:=X.a5;have z5:=X.z5;have v5:=X.v5;have u5:=run_underlying X.t5
 have e240:∀ args w,(callFunc (ρ.f 240) args).run P w = .ok (.enter (ρ.f 240) args) w:=enters_of L.f240 (by kernel_rfl) rfl
 obtain ⟨p,hp,hbk⟩:=h.blk
 have hlt:b < w.heap.size:=(Array.getElem?_eq_some_iff.1 hbk).1
 have w0:w.cell? ⟨b,0,none⟩=some p:=by rw [Lib.cell_of_heap hbk];rfl
 have copy:Calls P (ρ.f 240) #[.pointer (some ⟨b,0,none⟩)] w fun e w'=>e = .returned (.tuple #[])∧w'.heap[b]? = some (.cells #[.pointer (some ⟨b,0,none⟩),v] (ρ.t 72) (0,0)) ∧
   (∀ k,k≠b→w'.heap[k]? = w.heap[k]?)∧w'.heap.size=w.heap.size∧w'.os=w.os∧w'.tape=w.tape∧w'.output=w.output∧SzK w w':=by
  rcases hp with rfl|rfl
  ·refine (Any.Builder_copyCheck_fresh { L with } X.toX72 b w w0 (by simp [World.shape?,hbk]) (Lib.frozen_of_heap hbk 0)).mono ?_
   rintro e w' ⟨rfl,rfl⟩
   refine ⟨rfl,?_,fun k hk=> ?_,by simp [World.setCell],rfl,rfl,rfl,SzK.set _ _ _⟩
   ·simp [World.setCell,Array.getElem?_modify,hbk]
   ·simp [World.setCell,Array.getElem?_modify,Ne.symm hk]
  ·refine (Any.Builder_copyCheck_used { L with } X.toX72 b w w0).mono ?_
   rintro e w' ⟨rfl,rfl⟩
   exact ⟨rfl,hbk,fun _ _=>rfl,rfl,rfl,rfl,rfl,SzK.refl _⟩
 go_enter L.f166,Body.n166_ntmps ρ
 go_wp2_with (go_at_fn (ρ.f 240);refine copy.mono ?_)
 rintro e w1 ⟨rfl,hb1,hk1,hs1,ho1,ht1,hu1,hz1'⟩
 have hown1:w1.ownsRowF 0 (ρ.t 5) 1 v n xs:=by
  refine ⟨h.own.1,?_⟩
  rcases h.own.2 with hh|⟨g,cap,cur,fz,hv,r0,r1,r2⟩
  ·exact .inl hh
  ·exact .inr ⟨g,cap,cur,fz,hv,r0,by rw [hk1 g (fun e=>h.ne (by rw [hv,e];rfl))];exact r1,r2⟩
 have c0:w1.cell? ⟨b,0,none⟩=some (.pointer (some ⟨b,0,none⟩)):=by rw [Lib.cell_of_heap hb1];rfl
 have c1:w1.cell? ⟨b,1,none⟩=some v:=by rw [Lib.cell_of_heap hb1];rfl
 go_wp2_with (at_builtin;refine wp_app_str rfl _ _ (ρ.t 37) (ρ.t 9) rfl (ρ.t 5) i0 L.t37 L.t9 hi hz0 hz1 hz2 _ _ _ rfl hown1 s rfl hlen ?_)
 intro v' w2 hown' hgrow hrow hsz
 have hb2:w2.heap[b]? = some (.cells #[.pointer (some ⟨b,0,none⟩),v] (ρ.t 72) (0,0)):=by
  rw [hgrow.block b (by omega) (fun e=>h.ne e.symm)]
  exact hb1
 have d0:w2.cell? ⟨b,0,none⟩=some (.pointer (some ⟨b,0,none⟩)):=by rw [Lib.cell_of_heap hb2];rfl
 have d1:w2.cell? ⟨b,1,none⟩=some v:=by rw [Lib.cell_of_heap hb2];rfl
 have f1:w2.frozen? ⟨b,1,none⟩=false:=Lib.frozen_of_heap hb2 1
 obtain ⟨ao,n',cap,rfl⟩:∃ ao n' cap,v' = .slice ao n' cap:=by
  rcases hown'.2 with ⟨hv,_⟩|⟨g,cap,cur,fz,hv,_⟩
  ·exact ⟨_,_,_,hv⟩
  ·exact ⟨_,_,_,hv⟩
 have hne':(Value.slice ao n' cap).ownBlock≠some b:=by
  rcases hrow with hrow|⟨g,hg,hgs⟩
  ·rw [hrow];exact h.ne
  ·rw [hg];intro e;cases e;omega
 go_wp2
 go_ret2
 refine ⟨rfl,.slice ao n' cap,⟨⟨_,.inr rfl,?_⟩,⟨hown'.1,?_⟩,hne'⟩,fun k hk hkb hkr=> ?_,?_,?_,?_,?_,?_,(hz1'.trans hsz).trans (SzK.set _ _ _)⟩
 ·simp [World.setCell,Array.getElem?_modify,hb2]
 ·rcases hown'.2 with hh|⟨g,cap,cur,fz,hv,r0,r1,r2⟩
  ·exact .inl hh
  ·refine .inr ⟨g,cap,cur,fz,hv,r0,?_,r2⟩
   have:g≠b:=fun e=>hne' (by rw [hv,e];rfl)
   simp [World.setCell,Array.getElem?_modify,Ne.symm this,r1]
 ·simp only [World.setCell,Array.getElem?_modify,if_neg (Ne.symm hkb)]
  rw [hgrow.block k (by omega) (fun e=>hkr e.symm),hk1 k hkb]
 ·have:=hgrow.size;simp [World.setCell];omega
 ·exact hgrow.os.trans ho1
 ·exact hgrow.tape.trans ht1
 ·exact hgrow.output.trans hu1
 ·rcases hrow with hrow|⟨g,hg,hgs⟩
  ·exact .inl hrow
  ·exact .inr ⟨g,hg,by omega⟩
set_option maxHeartbeats 1000000 in
set_option maxRecDepth 100000 in
theorem bld_string (L:Lays.n169 P ρ) (X:Builder.Extra P ρ) {b g cap:Nat} {p:Value} {cur:Array Value} {fz:Nat×Nat} {l:List UInt8} {w:World} (hbk:w.heap[b]? = some (.cells #[p,.slice (some ⟨g,0,none⟩) l.length cap] (ρ.t 72) (0,0)))
  (hg:w.heap[g]? = some (.cells cur (ρ.t 5) fz)) (hle:l.length≤cap) (hcm:cap≤maxLen) (hcs:cur.size=cap) (htk:cur.toList.take l.length=Lib.byteCells l) (h0:l≠[]) :
  Calls P (ρ.f 169) #[.pointer (some ⟨b,0,none⟩)] w fun e w'=>e = .returned (.string ⟨l.toArray⟩)∧w'=w.drew.freeze ⟨g,0,none⟩ l.length:=by
 have hl0:l.length≠0:=by simpa using h0
 have c1:w.drew.cell? ⟨b,1,none⟩=some (.slice (some ⟨g,0,none⟩) l.length cap):=by
  have:w.drew.heap[b]? = some (.cells #[p,.slice (some ⟨g,0,none⟩) l.length cap] (ρ.t 72) (0,0)):=hbk
  rw [Lib.cell_of_heap this];rfl
 have hSD:(Builtin.unsafeSliceData_ #[(ρ.t 37)] (ρ.t 127) #[.slice (some ⟨g,0,none⟩) l.length cap]).run P w.drew = .ok (.pointer (some ⟨g,0,none⟩)) w.drew :=
  Lib.run_unsafeSliceData_row _ _ _ _ _ _ (by omega)
 have hUS:(Builtin.unsafeString_ #[(ρ.t 127),(ρ.t 3)] (ρ.t 9) #[.pointer (some ⟨g,0,none⟩),.int .i64 l.length]).run P w.drew = .ok (.string ⟨l.toArray⟩) (w.drew.freeze ⟨g,0,none⟩ l.length):=by
  have hg':w.drew.heap[g]? = some (.cells cur (ρ.t 5) fz):=hg
  refine Lib.run_unsafeString_row w.drew (ρ.t 127) (ρ.t 3) (ρ.t 9) (ρ.t 5) L.t127 X.cellsByte g cur.size (by simp [World.shape?,hg']) l h0 (by omega) (by unfold maxLen at hcm;omega) ?_
  intro j x hx
  have hjl:=(List.getElem?_eq_some_iff.1 hx).1
  have:(cur.toList.take l.length)[j]? = some (.int .u8 x.toNat):=by rw [htk];simp [Lib.byteCells,hx]
  rw [List.getElem?_take_of_lt hjl] at this
  have ha:(⟨g,0,none⟩:Addr).add j=⟨g,j,none⟩:=by
   simp [Addr.add]
   exact fun h=>h.symm
  rw [ha,Lib.cell_of_heap hg']
  simpa using this
 have mixed:=L.mixed
 have t72:=L.t72;have a72:=L.a72;have z72:=L.z72;have v72:=L.v72;have u72:=run_underlying L.t72
 have t70:=L.t70;have a70:=L.a70;have z70:=L.z70;have v70:=L.v70;have u70:=run_underlying L.t70
 have t37:=L.t37;have a37:=L.a37;have z37:=L.z37;have v37:=L.v37;have u37:=run_underlying L.t37
 have t127:=L.t127;have a127:=L.a127;have z127:=L.z127;have v127:=L.v127;have u127:=run_underlying L.t127
 have t3:=L.t3;have a3:=L.a3;have z3:=L.z3;have v3:=L.v3;have u3:=run_underlying L.t3
 have t9:=L.t9;have a9:=L.a9;have z9:=L.z9;have v9:=L.v9;have u9:=run_underlying L.t9
 have t5:=X.t5;have a5:=X.a5;have z5:=X.z5;have v5:=X.v5;have u5:=run_underlying X.t5
 go_enter L.f169,Body.n169_ntmps ρ
 go_wp2
 go_region_o
 all_goals (go_wp2;go_ret;exact ⟨rfl,rfl⟩)
end
open F
set_option maxRecDepth 100000
set_option linter.unusedSimpArgs false
def RowAt (h:Heap) (txt:List UInt8):Option (Nat×Nat)→Prop
 | none=>True
 | some (g,cap)=>h.gh g=some (.brow 5 txt cap)
def BldAt (h:Heap) (b:Nat) (txt:List UInt8):Prop:= ∃ row,h.gh b=some (.bld 160 5 txt row)∧RowAt h txt row
theorem BldAt.at {I:Nat→Prop} {ρ : BMap} {w:World} {h:Heap} {b:Nat} {txt:List UInt8} {row:Option (Nat×Nat)} (R:RelL I ρ w h) (h1:h.gh b=some (.bld 160 5 txt row)) (h2:RowAt h txt row):BAt 160 5 b (bufV txt.length row) txt.length (Lib.byteCells txt) w:=by
 obtain ⟨⟨k1,p,k2,k3⟩,_⟩:=R.gh b _ h1
 refine ⟨⟨p,k2,k3⟩,⟨by simp [Lib.byteCells],?_⟩,?_⟩
 ·match row,h2 with
  | none,_=>left;exact ⟨rfl,by rw [k1 rfl];rfl⟩
  | some (g,cap),h2 =>
   obtain ⟨⟨cur,fz,j1,j2,j3,j4,j5,j6⟩,_⟩:=R.gh g _ h2
   exact .inr ⟨g,cap,cur,fz,rfl,Nat.zero_le _,j1,by omega,j3,j4,by omega,by rw [Nat.mul_one];exact j6⟩
 ·match row,h2 with
  | none,_=>simp [bufV,Value.ownBlock]
  | some (g,cap),h2 =>
   intro e
   have:g=b:=by simpa [bufV,Value.ownBlock] using e
   subst this
   have h3:h.gh g=some (.brow 5 txt cap):=h2
   rw [h1] at h3
   cases h3
def ghW (h:Heap) (b:Nat) (txt:List UInt8) (row row':Option (Nat×Nat)):Nat→Option GO:=fun k =>
 if k=b then some (.bld 160 5 txt row') else match row' with
  | some (g',cap')=>if k=g' then some (.brow 5 txt cap') else if row.map Prod.fst=some k then none else h.gh k
  | none=>if row.map Prod.fst=some k then none else h.gh k
theorem bwrite_sem {h:Heap} {b:Nat} {txt:List UInt8} (hb:BldAt h b txt) (s:List UInt8) (hl:txt.length+s.length≤140737488355328) :
  CSem Tryz.prog 106 [.gpt b,S s] h fun x h'=>x = .tup [.int .i64 s.length,.nilIf]∧∃ gh',h' = { h with gh:=gh' } ∧ BldAt h' b (txt ++ s):=by
 obtain ⟨row,h1,h2⟩:=hb
 refine ⟨by kernel_rfl,fun I ρ w cargs R hc=> ?_⟩
 obtain ⟨cv,cs,rfl⟩:∃ cv cs,cargs=[cv,cs]:=by
  match cargs,hc.len with
  | [cv,cs],_=>exact ⟨cv,cs,rfl⟩
 have hv0:=hc.ok 0 _ _ rfl rfl
 have hv1:=hc.ok 1 _ _ rfl rfl
 cases hv0
 have hs:cs = .string ⟨s.toArray⟩:=by cases hv1;rfl
 subst hs
 have A:=BldAt.at R h1 h2
 have hsz:(ByteArray.mk s.toArray).size=s.length:=rfl
 refine (bld_write (L:= { Tryz.lays156 with }) Tryz.Builder_Extra_156 A ⟨s.toArray⟩ (by rw [hsz];exact hl)).mono ?_
 rintro e w' ⟨rfl,v',A',frame,hsize,hos,htape,hout,hrow,hszk⟩
 have hown0:(bufV txt.length row).ownBlock=row.map Prod.fst:=by cases row<;>rfl
 rw [hown0] at frame hrow
 have hlen':(txt ++ s).length=txt.length+s.length:=List.length_append
 have hcells:Lib.byteCells txt ++ Lib.strCells ⟨s.toArray⟩=bytC (txt ++ s):=by rw [Lib.strCells_eq];simp [bytC,Lib.byteCells]
 rw [hcells,hsz,←hlen'] at A'
 obtain ⟨row',hv',hnil',hrw⟩:∃ row':Option (Nat×Nat),v'=bufV (txt ++ s).length row'∧(row'=none→txt ++ s=[])∧∀ g' cap',row'=some (g',cap')→GOk I ρ w' g' (.brow 5 (txt ++ s) cap'):=by
  rcases A'.own.2 with ⟨hv,h0⟩|⟨g',cap',cur,fz,hv,_,j1,j2,j3,j4,j5,j6⟩
  ·exact ⟨none,hv,fun _=>List.eq_nil_of_length_eq_zero h0,fun _ _ e=>by cases e⟩
  ·refine ⟨some (g',cap'),hv,fun e=>by (cases e),fun g2 cap2 e=> ?_⟩
   cases e
   exact ⟨cur,fz,j1,by omega,j3,j4,by omega,by rw [Nat.mul_one] at j6;exact j6⟩
 subst hv'
 have hown1:(bufV (txt ++ s).length row').ownBlock=row'.map Prod.fst:=by cases row'<;>rfl
 rw [hown1] at hrow
 have gb:=R.gh b _ h1
 have hblt:=gb.1.lt
 have hold:∀ g,row.map Prod.fst=some g→¬I g∧¬Owned ρ h g∧g < w.heap.size∧GhAt h g∧∃ cs e fz,w.heap[g]? = some (.cells cs e fz):=by
  intro g hg
  match row,h2,hg with
  | some (g0,cap),h2,hg =>
   cases hg
   have k:=R.gh g0 _ h2
   obtain ⟨cur,fz,k1,_⟩:=k.1
   exact ⟨k.2.1,k.2.2,lt_of_get k1,⟨_,h2⟩,_,_,_,k1⟩
 obtain ⟨p0,_,hbk0⟩:=A.blk
 have K:Keeps I ρ w I ρ w':=⟨fun B hB=>⟨hB,frame B (R.rel.imm B hB).1 (fun e=>gb.2.1 (e ▸ hB)) (fun e=>(hold B e).1 hB)⟩,fun _ _ h=>h,hszk⟩
 have hne':∀ g',row'.map Prod.fst=some g'→g'≠b:=by
  intro g' hg e
  refine A'.ne ?_
  rw [hown1,hg,e]
 have ghb:ghW h b (txt ++ s) row row' b=some (.bld 160 5 (txt ++ s) row'):=by unfold ghW;rw [if_pos rfl]
 have ghr:∀ g' cap',row'=some (g',cap')→ghW h b (txt ++ s) row row' g'=some (.brow 5 (txt ++ s) cap'):=by
  intro g' cap' e
  subst e
  unfold ghW
  rw [if_neg (hne' g' rfl)]
  simp
 have ghi:∀ B g,ghW h b (txt ++ s) row row' B=some g→B=b∨(∃ cap',row'=some (B,cap'))∨(B≠b∧row.map Prod.fst≠some B∧h.gh B=some g):=by
  intro B g hg
  unfold ghW at hg
  split at hg
  ·exact .inl ‹_›
  ·rename_i hB
   split at hg
   ·split at hg
    ·rename_i e;subst e;exact .inr (.inl ⟨_,rfl⟩)
    ·split at hg
     ·cases hg
     ·exact .inr (.inr ⟨hB, ‹_›,hg⟩)
   ·split at hg
    ·cases hg
    ·exact .inr (.inr ⟨hB, ‹_›,hg⟩)
 have hfresh:∀ g',row'.map Prod.fst=some g'→¬I g'∧¬Owned ρ h g'∧(GhAt h g'∨w.heap.size≤g'):=by
  intro g' hg
  rcases hrow with e|⟨g2,e,hge⟩
  ·rw [hg] at e
   obtain ⟨a1,a2,_,a4,_⟩:=hold g' e.symm
   exact ⟨a1,a2,.inl a4⟩
  ·rw [hg] at e
   cases e
   refine ⟨fun hi=>by have:=(R.rel.imm _ hi).1;omega,?_,.inr hge⟩
   rintro ⟨k,cs,o,hk,hρ⟩
   obtain ⟨ds,e,fz,q1,_⟩:=R.rel.cont k cs _ o hk hρ
   have:=lt_of_get q1
   omega
 refine ⟨_,.tup [.int .i64 s.length,.nilIf], { h with gh:=ghW h b (txt ++ s) row row' },I, ρ,rfl,⟨rfl,_,rfl,row',ghb,?_⟩,⟨⟨R.rel.dom,fun k cells B o hk hρ => ?_,R.rel.inj,fun B hB=>⟨Nat.lt_of_lt_of_le (R.rel.imm B hB).1 hsize,(R.rel.imm B hB).2⟩⟩,fun lp hl=> ?_,fun B g hg=> ?_⟩,?_,
  ⟨hos,htape,hout,hsize,Nat.le_refl _,fun _ h=>h,fun _ _ h=>h,fun B hB ho hl hg=>frame B hB (fun e=>hg ⟨_,e ▸ h1⟩) (fun e=>hg (hold B e).2.2.2.1),K.cells,fun B h=> .inl h,fun _ h=> .inl h,rfl,?_⟩⟩
 ·match row',ghr with
  | none,_=>trivial
  | some (g',cap'),ghr=>exact ghr g' cap' rfl
 ·obtain ⟨cs,e,fz,g1,g2,g3⟩:=R.rel.cont k cells B o hk hρ
  have hO:Owned ρ h B:=⟨k,cells,o,hk,hρ⟩
  exact ⟨cs,e,fz,by rw [frame B (lt_of_get g1) (fun e=>gb.2.2 (e ▸ hO)) (fun e=>(hold B e).2.1 hO)];exact g1,g2,g3.keep K⟩
 ·refine (R.lp lp hl).step K (fun _ h=> .inl h) (fun B l hcl=> ?_)
  rw [frame B (lt_of_get hcl) (fun e=>by subst e;rw [hbk0] at hcl;cases hcl) (fun e=>by obtain ⟨_,_,_,_,cs,e',fz,q⟩:=hold B e;rw [q] at hcl;cases hcl)]
  exact hcl
 ·rcases ghi B g hg with rfl|⟨cap',e⟩|⟨n1,n2,n3⟩
  ·have:g = .bld 160 5 (txt ++ s) row':=by have:=hg.symm.trans ghb;cases this;rfl
   subst this
   obtain ⟨p,hp,hbk⟩:=A'.blk
   exact ⟨⟨hnil',p,hp,hbk⟩,gb.2.1,gb.2.2⟩
  ·have:g = .brow 5 (txt ++ s) cap':=by have:=hg.symm.trans (ghr B cap' e);cases this;rfl
   subst this
   have:=hfresh B (by rw [e];rfl)
   exact ⟨hrw B cap' e,this.1,this.2.1⟩
  ·obtain ⟨k1,k2,k3⟩:=R.gh B g n3
   exact ⟨k1.step K (frame B k1.lt n1 n2),k2,k3⟩
 ·have:=(Cells.cons (.int .i64 (s.length:Int)) (Cells.cons .nilIf Cells.nil):Cells w' I ρ _ _).arr
  exact .tup _ _ this.1 this.2
 ·rintro B ⟨g,hg⟩
  rcases ghi B g hg with rfl|⟨cap',e⟩|⟨n1,n2,n3⟩
  ·exact .inl ⟨_,h1⟩
  ·exact (hfresh B (by rw [e];rfl)).2.2
  ·exact .inl ⟨_,n3⟩
theorem RelL.frz {I:Nat→Prop} {ρ : BMap} {w w':World} {h:Heap} {g:Nat} {e:TypeId} {txt:List UInt8} {cap:Nat} (R:RelL I ρ w h) (hg:h.gh g=some (.brow e txt cap)) (hos:w'.os=w.os) (htape:w'.tape=w.tape) (hout:w'.output=w.output) (hsz:w'.heap.size=w.heap.size)
  (hother:∀ k,k≠g→w'.heap[k]? = w.heap[k]?) (hrow:∀ (cur:Array Value) (fz:Nat×Nat),w.heap[g]? = some (.cells cur e fz)→fz.2≤txt.length→∃ fz':Nat×Nat,w'.heap[g]? = some (.cells cur e fz')∧fz'.2≤txt.length) :
  RelL I ρ w' h∧GrowL I ρ w h I ρ w' h:=by
 obtain ⟨⟨cur,fz,j1,j2,j3⟩,gi,go⟩:=R.gh g _ hg
 obtain ⟨fz',q1,q2⟩:=hrow cur fz j1 j2
 have K:Keeps I ρ w I ρ w':=⟨fun B hB=>⟨hB,hother B (fun e=>gi (e ▸ hB))⟩,fun _ _ h=>h,fun B cs e' fz0 hc=>by
  by_cases hB:B=g
  ·subst hB
   rw [j1] at hc
   cases hc
   exact ⟨_,_,_,q1,rfl⟩
  ·exact ⟨_,_,_,by rw [hother B hB];exact hc,rfl⟩⟩
 refine ⟨⟨⟨R.rel.dom,fun k cells B o hk hρ => ?_,R.rel.inj,fun B hB=>⟨by rw [hsz];exact (R.rel.imm B hB).1,(R.rel.imm B hB).2⟩⟩,fun lp hl=> ?_,fun B x hx=> ?_⟩,
  ⟨hos,htape,hout,Nat.le_of_eq hsz.symm,Nat.le_refl _,fun _ h=>h,fun _ _ h=>h,fun B _ _ _ hn=>hother B (fun e=>hn ⟨_,e ▸ hg⟩),K.cells,fun B h=> .inl h,fun _ h=> .inl h,rfl,fun B h=> .inl h⟩⟩
 ·obtain ⟨cs,e',fz0,g1,g2,g3⟩:=R.rel.cont k cells B o hk hρ
  exact ⟨cs,e',fz0,by rw [hother B (fun e=>go (e ▸ ⟨k,cells,o,hk,hρ⟩))];exact g1,g2,g3.keep K⟩
 ·refine (R.lp lp hl).step K (fun _ h=> .inl h) (fun B l hcl=> ?_)
  rw [hother B (fun e=>by subst e;rw [j1] at hcl;cases hcl)]
  exact hcl
 ·obtain ⟨k1,k2,k3⟩:=R.gh B x hx
  by_cases hB:B=g
  ·subst hB
   rw [hg] at hx
   cases hx
   exact ⟨⟨cur,fz',q1,q2,j3⟩,k2,k3⟩
  ·exact ⟨k1.step K (hother B hB),k2,k3⟩
theorem bstring_sem {h:Heap} {b:Nat} {txt:List UInt8} (hb:BldAt h b txt) (h0:txt≠[]):CSem Tryz.prog 107 [.gpt b] h fun x h'=>x=S txt∧h'=h:=by
 obtain ⟨row,h1,h2⟩:=hb
 refine ⟨by kernel_rfl,fun I ρ w cargs R hc=> ?_⟩
 obtain ⟨cv,rfl⟩:∃ cv,cargs=[cv]:=by
  match cargs,hc.len with
  | [cv],_=>exact ⟨cv,rfl⟩
 have hv0:=hc.ok 0 _ _ rfl rfl
 cases hv0
 obtain ⟨⟨k1,p,k2,k3⟩,_⟩:=R.gh b _ h1
 match row,h1,h2,k1,k3 with
 | none,_,_,k1,_=>exact absurd (k1 rfl) h0
 | some (g,cap),h1,h2,_,k3 =>
  have hg:h.gh g=some (.brow 5 txt cap):=h2
  obtain ⟨⟨cur,fz,j1,j2,j3,j4,j5,j6⟩,gi,go⟩:=R.gh g _ hg
  refine (bld_string (L:= { Tryz.lays156 with }) Tryz.Builder_Extra_156 (b:=b) (g:=g) (cap:=cap) (p:=p) (cur:=cur) (fz:=fz) (l:=txt) k3 j1 j3 j4 j5 j6 h0).mono ?_
  rintro e w' ⟨rfl,rfl⟩
  have hl0:txt.length≠0:=by simpa using h0
  obtain ⟨R',G'⟩:=R.frz (w':=w.drew.freeze ⟨g,0,none⟩ txt.length) hg (by unfold World.freeze;rw [if_neg hl0];rfl) (by unfold World.freeze;rw [if_neg hl0];rfl) (by unfold World.freeze;rw [if_neg hl0];rfl)
   (by unfold World.freeze;rw [if_neg hl0];simp)
   (fun k hk=>by unfold World.freeze;rw [if_neg hl0];simp only [Array.getElem?_modify,if_neg (Ne.symm hk)];rfl)
   (fun cur fz hc hf=>by
    unfold World.freeze
    rw [if_neg hl0]
    have hc':w.drew.heap[g]? = some (.cells cur 5 fz):=hc
    simp only [Array.getElem?_modify,if_true,hc',Option.map_some]
    refine ⟨_,rfl,?_⟩
    split
    ·simp
    ·simp only [Nat.zero_add];omega)
  exact ⟨_,S txt,h,I, ρ,rfl,⟨rfl,rfl⟩,R',.str _,G'⟩
def textA (s:Txt):AV:= .tup [S (textR s).1,.int .i64 (textR s).2]
theorem put_len2 (s:Txt):putR (s.length:Int) 2=if s.length < 65536 then (le s.length 2,0) else ([],12):=by
 have hP:PutP (s.length:Int) 2:=⟨by decide,by decide,by omega⟩
 unfold putR
 rw [if_pos hP,Int.toNat_natCast]
 have:(dv s.length (2:Int).toNat=s.length / 65536):=by
  show dv s.length 2=_
  simp [dv]
  try omega
 rw [this]
 by_cases h:s.length < 65536
 ·rw [if_neg (by omega),if_pos h];rfl
 ·rw [if_pos (by omega),if_neg h]
theorem text_pure (s:Txt) (hs:s.length < 2 ^ 46):CPure Tryz.prog 110 [S s] (textA s):=by
 refine CPure.of_sem (k:=2) ?_
 refine CSem.body hm Tryz.func110 rfl (by kernel_rfl) (by kernel_rfl) (by simp [Tryz.ntmps110]) ?_
 simp [Tryz.f110]
 refine (put_call s.length 2 (by omega) _).use ?_
 have hp:=put_len2 s
 by_cases h:s.length < 65536
 ·rw [if_pos h] at hp
  have hl:(le s.length 2).length+s.length≤2 ^ 47:=by simp;omega
  simp [putA,hp,textA,textR,h,binX_Sadd _ _ hl]
 ·rw [if_neg h] at hp
  simp [putA,hp,textA,textR,h]
theorem text_call (s:Txt) (hs:s.length < 2 ^ 46) (h:Heap):CSem Tryz.prog 110 [S s] h fun x' h'=>x'=textA s∧h'=h:=(text_pure s hs).call (k:=1) (by simp)
def takeR (s:Txt):Txt×Txt×Int:=if (cutR s 2).2.2=0∧(cutR s 2).1≤(cutR s 2).2.1.length then ((cutR s 2).2.1.take (cutR s 2).1.toNat,(cutR s 2).2.1.drop (cutR s 2).1.toNat,0) else ([],[],4)
def takeA (s:Txt):AV:= .tup [S (takeR s).1,S (takeR s).2.1,.int .i64 (takeR s).2.2]
theorem cut_nn (s:Txt) (z:Int):0≤(cutR s z).1:=by
 unfold cutR
 split
 ·split<;>simp
 ·simp
theorem take_pure (s:Txt) (hs:s.length < 2 ^ 46):CPure Tryz.prog 132 [S s] (takeA s):=by
 refine CPure.of_sem (k:=2) ?_
 refine CSem.body hm Tryz.func132 rfl (by kernel_rfl) (by kernel_rfl) (by simp [Tryz.ntmps132]) ?_
 simp [Tryz.f132]
 refine (cut_call s 2 (by omega) _).use ?_
 have hnn:=cut_nn s 2
 simp only [takeA,takeR,cutA]
 generalize cutR s 2=r at hnn ⊢
 obtain ⟨n,r,e⟩:=r
 simp only at hnn ⊢
 by_cases he:e=0
 rotate_left
 ·simp [he]
 by_cases hl:n≤r.length
 rotate_left
 ·have hl2:(r.length:Int) < n:=by omega
  simp [he,hl,hl2]
 have hl2:¬(r.length:Int) < n:=by omega
 simp [he,hl,hl2]
 refine wpc_tk 6 3 (by kernel_rfl) ?_
 simp [sliceX_S,hnn,hl]
theorem pref_pure (s p:Txt):CPure Tryz.prog 154 [S s,S p] (.bool (decide (p.length≤s.length∧s.take p.length=p))):=by
 refine CPure.of_sem (k:=1) ?_
 refine CSem.body hm Tryz.func154 rfl (by kernel_rfl) (by kernel_rfl) (by simp [Tryz.ntmps154]) ?_
 by_cases h:p.length≤s.length
 ·simp [Tryz.f154,h,sliceX_S]
 ·have h2:¬(p.length:Int)≤s.length:=by omega
  simp [Tryz.f154,h,h2]
def cutP (s p:Txt):AV:=if p.length≤s.length∧s.take p.length=p then .tup [S (s.drop p.length),.bool true] else .tup [S s,.bool false]
theorem lcutp_pure (s p:Txt):CPure Tryz.prog 128 [S s,S p] (cutP s p):=by
 refine CPure.of_sem (k:=2) ?_
 refine CSem.body hm Tryz.func128 rfl (by kernel_rfl) (by kernel_rfl) (by simp [Tryz.ntmps128]) ?_
 simp [Tryz.f128]
 refine ((pref_pure s p).call (k:=1) (by simp)).use ?_
 unfold cutP
 by_cases h:p.length≤s.length∧s.take p.length=p
 ·have h1:=h.1
  simp [h,sliceX_S]
 ·simp [h]
theorem cutp_pure (s p:Txt):CPure Tryz.prog 93 [S s,S p] (cutP s p):=by
 refine CPure.of_sem (k:=2) ?_
 refine CSem.body hm Tryz.func93 rfl (by kernel_rfl) (by kernel_rfl) (by simp [Tryz.ntmps93]) ?_
 simp [Tryz.f93]
 refine ((lcutp_pure s p).call (k:=1) (by simp)).use ?_
 unfold cutP
 by_cases h:p.length≤s.length∧s.take p.length=p<;>simp [h]
theorem cutp_call (s p:Txt) (h:Heap):CSem Tryz.prog 93 [S s,S p] h fun x' h'=>x'=cutP s p∧h'=h:=(cutp_pure s p).call (k:=1) (by simp)
def BlkA (b:BlkD):AV:= .agg [.int .i64 b.ar,.int .i64 b.dk,.int .i64 b.pl,.int .i64 b.ep,S b.tx]
def fldC (p:Nat):List AV:=[.ptr p 0,.int .i64 4,.ptr p 1,.int .i64 2,.ptr p 2,.int .i64 4,.ptr p 3,.int .i64 7]
def FldV (h0:Heap) (p:Nat):Nat→AV→Heap→Prop
 | 2,v,_=>v = .ptr p 0
 | 3,v,_=>v = .agg [.ptr p 0,.int .i64 4]
 | 6,v,_=>v = .ptr p 1
 | 7,v,_=>v = .agg [.ptr p 1,.int .i64 2]
 | 10,v,_=>v = .ptr p 2
 | 11,v,_=>v = .agg [.ptr p 2,.int .i64 4]
 | 14,v,_=>v = .ptr p 3
 | 15,v,_=>v = .agg [.ptr p 3,.int .i64 7]
 | 16,v,H=> ∃ q,v = .sl q 0 4 4 2∧h0.next≤q∧H.get q=some (fldC p)
 | 17,v,H=> ∃ q,v = .sl q 0 4 4 2∧h0.next≤q∧H.get q=some (fldC p)
 | _,v,_=>v = .ptr p 0
theorem FldV.mono {h0:Heap} {p:Nat} (j:Nat) (v:AV) (h h':Heap) (E:Ext h h') (hv:FldV h0 p j v h):FldV h0 p j v h':=by
 unfold FldV at hv ⊢
 split at hv
 all_goals first
  | exact hv
  | (obtain ⟨q,h1,h2,h3⟩:=hv;exact ⟨q,h1,h2,E.got h3⟩)
theorem wpc_asg {P:Program} {id dst:Nat} {x:Operand} {type:TypeId} {pos:String} {after:Array Edge} {b:Code} {Q:Out→Regs→Heap→Prop} {r:Regs} {h:Heap} {v:AV} (hx:evalX r x=some v) (hw:wpc P b Q (rset r dst v) h) :
  wpc P (.seq (.region id #[⟨some dst,.assign x,type,pos,after,none⟩] false) b) Q r h:=by
 simp only [wpc_seq,wpc_region,wpOs_cons,wpI_assign,hx,Has_some,wpOs_nil]
 exact hw
theorem wpc_ret1 {P:Program} {a:Code} {Q:Out→Regs→Heap→Prop} {r:Regs} {h:Heap} (hw:wpc P a (fun o r h=>match o with | .norm=>Q .ret r h|o=>Q o r h) r h):wpc P (.seq a .ret) Q r h:=by
 rw [wpc_seq]
 refine wpc_mono a _ _ ?_ r h hw
 intro o r h hq
 cases o<;>exact hq
theorem fields_sem (p:Nat) (h:Heap):CSem Tryz.prog 109 [.ptr p 0] h fun x h'=> ∃ q,x = .sl q 0 4 4 2∧h.next≤q∧h'.get q=some (fldC p)∧Ext h h':=by
 refine CSem.body hm Tryz.func109 rfl (by kernel_rfl) (by kernel_rfl) (by simp [Tryz.ntmps109]) ?_
 have hb:∀ (q o:Nat) (n:Int),buildX Tryz.prog 169 [(0,.ptr q o),(1,.int .i64 n)]=some (.agg [.ptr q o,.int .i64 n]):=fun q o n=>by kernel_rfl
 have hs:∀ (h:Heap),buildSliceX Tryz.prog h 166 4 [(0,.agg [.ptr p 0,.int .i64 4]),(1,.agg [.ptr p 1,.int .i64 2]),(2,.agg [.ptr p 2,.int .i64 4]),(3,.agg [.ptr p 3,.int .i64 7])] =
  some (.sl h.next 0 4 4 2,h.alloc (fldC p)):=fun h=>by kernel_rfl
 refine wpc_asg (v:= .nilSl) rfl ?_
 refine wpc_ret1 ?_
 refine wpc_inv (Ext h) (FldV h p) [(0,.ptr p 0)] (by kernel_rfl) (by kernel_rfl) FldV.mono (Ext.refl h) (by simp) (fun h1 h2 e1 e2=>e2.trans e1) ?_ ?_
 ·intro r H hE hB
  have hr0:rg r 0 = .ptr p 0:=hB (0,.ptr p 0) (by simp)
  have hEn:=hE.next
  refine ⟨?_,?_,?_,?_,?_,?_,?_,?_,?_,?_,?_,?_,?_,?_,?_,?_,?_,?_,trivial⟩
  all_goals (intro hd;simp [Dep,VO,FldV,Region.binds] at hd)
  all_goals (try simp [hd,hr0,FldV,Ext.refl,fieldAddrX,hb,hs])
  ·exact ⟨_,rfl,⟨_,rfl,hEn,Heap.get_alloc_same _ _⟩,(Ext.refl H).alloc _⟩
  ·obtain ⟨⟨q,e1,g1,g2⟩,_⟩:=hd
   exact ⟨_,rfl,q,e1,g1,g2⟩
 ·intro r H hI hE hr hA
  obtain ⟨_,_,_,_,_,_,_,_,_,_,_,_,_,_,_,_,_,hz,_⟩:=hA
  simp [VO,FldV] at hz
  obtain ⟨q,h1,h2,h3⟩:=hz
  simp [h1]
  exact ⟨h2,h3,hI⟩
theorem sput_sem {h:Heap} {B eb:Nat} {e0 f:Int} {txt t:Txt} (hb:BldAt h B txt) (he:h.get eb=some [.int .i64 e0]) (hl:txt.length+t.length≤140737488355328) :
  CSem Tryz.prog 108 [S t,.int .i64 f,.ptr eb 0,.gpt B] h fun x h'=>x = .tup []∧∃ gh',h' = { (if e0=0 then h.put eb [.int .i64 f] else h) with gh:=gh' } ∧ BldAt h' B (txt ++ t):=by
 refine CSem.body hm Tryz.func108 rfl (by kernel_rfl) (by kernel_rfl) (by simp [Tryz.ntmps108]) ?_
 have hel:=Heap.get_lt he
 by_cases h0:e0=0
 ·subst h0
  simp [Tryz.f108,he]
  have hb':BldAt (h.put eb [.int .i64 f]) B txt:=hb
  refine (bwrite_sem hb' t hl).then ?_
  rintro _ h' ⟨rfl,gh',rfl,hb2⟩
  simp
  exact hb2
 ·simp [Tryz.f108,he,h0]
  refine (bwrite_sem hb t hl).then ?_
  rintro _ h' ⟨rfl,gh',rfl,hb2⟩
  simp
  exact hb2
def sealF (b:BlkD):List (Int×Int):=[(b.ar,4),(b.dk,2),(b.pl,4),(b.ep,7)]
def sealT (b:BlkD) (i:Nat):Txt:=mag ++ (((sealF b).take i).map fun p=>(putR p.1 p.2).1).flatten
def sealE (b:BlkD) (i:Nat):Int:=err1 (((sealF b).take i).map fun p=>(putR p.1 p.2).2)
def sealTT (b:BlkD):Txt:=sealT b 4 ++ (textR b.tx).1
def sealEE (b:BlkD):Int:=if sealE b 4=0 then (textR b.tx).2 else sealE b 4
def sealR (b:BlkD):Txt×Int:=if sealEE b=0 then (sealTT b ++ (putR (crcR (sealTT b)) 4).1,0) else ([],sealEE b)
def sealA (b:BlkD):AV:= .tup [S (sealR b).1,.int .i64 (sealR b).2]
theorem err1_snoc:∀ (l:List Int) (e:Int),err1 (l ++ [e])=if err1 l=0 then e else err1 l
 | [],e=>by simp only [List.nil_append,err1];by_cases h:e=0<;>simp [h]
 | a :: l,e=>by
  by_cases h:a=0
  ·have e1:∀ l,err1 (a :: l)=err1 l:=fun l=>by simp [err1,h]
   simp only [List.cons_append,e1]
   exact err1_snoc l e
  ·have e1:∀ l,err1 (a :: l)=a:=fun l=>by simp [err1,h]
   simp only [List.cons_append,e1,if_neg h]
theorem putR_len (n z:Int):(putR n z).1.length≤7:=by
 unfold putR
 split
 ·rename_i h
  split
  ·simp
  ·simp;have:=h.2.1;omega
 ·simp
theorem sealT_len (b:BlkD) (i:Nat):(sealT b i).length≤31:=by
 have h:∀ l:List (Int×Int),((l.map fun p=>(putR p.1 p.2).1).flatten).length≤7 * l.length:=by
  intro l
  induction l with
  | nil=>simp
  | cons p l ih=>have:=putR_len p.1 p.2;simp only [List.map_cons,List.flatten_cons,List.length_append,List.length_cons];omega
 have h1:=h ((sealF b).take i)
 have h2:((sealF b).take i).length≤4:=by rw [List.length_take];simp [sealF];omega
 unfold sealT
 simp only [List.length_append,show mag.length=3 from rfl]
 omega
structure SealI (b:BlkD) (pb eb q B:Nat) (i:Nat) (r:Regs) (h:Heap):Prop where
 le:i≤4
 r1:rg r 1 = .ptr pb 0
 r4:rg r 4 = .gpt B
 r5:rg r 5 = .ptr eb 0
 r6:rg r 6 = .fn 108 [] [.ptr eb 0,.gpt B]
 r11:rg r 11 = .sl q 0 4 4 2
 r12:rg r 12 = .int .i64 4
 r13:rg r 13 = .int .i64 i
 pbc:h.get pb=some [.int .i64 b.ar,.int .i64 b.dk,.int .i64 b.pl,.int .i64 b.ep,S b.tx]
 ebc:h.get eb=some [.int .i64 (sealE b i)]
 qc:h.get q=some (fldC pb)
 bld:BldAt h B (sealT b i)
 ne1:pb≠eb
 ne2:q≠eb
structure BlkB (b:BlkD):Prop where
 ar:b.ar < 2 ^ 62
 dk:b.dk < 2 ^ 62
 pl:b.pl < 2 ^ 62
 ep:b.ep < 2 ^ 62
 tx:b.tx.length < 2 ^ 46
theorem seal_pure (b:BlkD) (hb:BlkB b):CPure Tryz.prog 81 [BlkA b] (sealA b):=by
 refine CPure.of_sem (k:=2) ?_
 refine CSem.body hm Tryz.func81 rfl (by kernel_rfl) (by kernel_rfl) (by simp [Tryz.ntmps81]) ?_
 simp [Tryz.f81,BlkA,AV.cells]
 refine Alc.right ⟨5,fun B hB=> ?_⟩
 simp
 have hb0:BldAt ((Heap.empty.alloc [.int .i64 b.ar,.int .i64 b.dk,.int .i64 b.pl,.int .i64 b.ep,S b.tx]).setG B (.bld 160 5 [] none)) B []:=⟨none,by simp,trivial⟩
 generalize hH0:(Heap.empty.alloc _).setG B _=H0 at hb0
 have m0:H0.get 0=some [.int .i64 b.ar,.int .i64 b.dk,.int .i64 b.pl,.int .i64 b.ep,S b.tx]:=by rw [←hH0];exact Heap.get_alloc_same Heap.empty _
 have n0:H0.next=1:=by rw [←hH0];rfl
 refine (bwrite_sem hb0 mag (by simp [mag])).then ?_
 rintro _ h1 ⟨rfl,gh1,hh1,hb1⟩
 have m1:h1.get 0=some [.int .i64 b.ar,.int .i64 b.dk,.int .i64 b.pl,.int .i64 b.ep,S b.tx]:=by rw [hh1];exact m0
 have n1:h1.next=1:=by rw [hh1];exact n0
 clear hh1 hb0 m0 n0 hH0
 simp
 simp [n1,Heap.get_alloc,Heap.get_put]
 generalize hH1:Heap.put (Heap.alloc h1 _) _ _=H1
 have k0:H1.get 0=some [.int .i64 b.ar,.int .i64 b.dk,.int .i64 b.pl,.int .i64 b.ep,S b.tx]:=by
  rw [←hH1,Heap.get_put _ _ _ _ (by simp [n1]),if_neg (by decide)]
  exact Heap.get_alloc_old m1
 have k1:H1.get 1=some [.int .i64 0]:=by rw [←hH1,Heap.get_put _ _ _ _ (by simp [n1]),if_pos rfl]
 have kb:BldAt H1 B mag:=by rw [←hH1];exact hb1
 clear hH1 hb1 m1 n1
 refine (fields_sem 0 H1).then ?_
 rintro _ h2 ⟨q,rfl,hq,hqc,E2⟩
 have hz0:zeroAV Tryz.prog 169=some (.agg [.nilPtr,.int .i64 0]):=by kernel_rfl
 have hsz:szT Tryz.prog 169=some 2:=by kernel_rfl
 simp
 refine wpc_loop (SealI b 0 1 q B) (4 - ·) ?_ 0 ?_
 ·rintro i r h ⟨le,r1,r4,r5,r6,r11,r12,r13,pbc,ebc,qc,bld,ne1,ne2⟩
  rcases Nat.lt_or_eq_of_le le with hlt|heq
  ·have hlt':(i:Int) < 4:=by omega
   have hw1:IntKind.i64.wrap ((i:Int)+1)=(i:Int)+1:=wrap64 (by omega) (by omega)
   obtain ⟨n,z,hf,hld,hci,hz1,hz2,hn⟩:∃ n z,(sealF b)[i]? = some (n,z)∧loadX Tryz.prog h 169 (.ptr q (i * 2))=some (.agg [.ptr 0 i,.int .i64 z]) ∧
     [AV.int .i64 b.ar,.int .i64 b.dk,.int .i64 b.pl,.int .i64 b.ep,S b.tx][i]? = some (.int .i64 n)∧1≤z∧z≤7∧n < 2 ^ 62:=by
    rcases i with _|_|_|_|i
    ·exact ⟨b.ar,4,rfl,by rw [loadX_agg (by kernel_rfl),hsz,qc];rfl,rfl,by decide,by decide,hb.ar⟩
    ·exact ⟨b.dk,2,rfl,by rw [loadX_agg (by kernel_rfl),hsz,qc];rfl,rfl,by decide,by decide,hb.dk⟩
    ·exact ⟨b.pl,4,rfl,by rw [loadX_agg (by kernel_rfl),hsz,qc];rfl,rfl,by decide,by decide,hb.pl⟩
    ·exact ⟨b.ep,7,rfl,by rw [loadX_agg (by kernel_rfl),hsz,qc];rfl,rfl,by decide,by decide,hb.ep⟩
    ·omega
   have htk:(sealF b).take (i+1)=(sealF b).take i ++ [(n,z)]:=by rw [List.take_add_one,hf];rfl
   simp [r1,r4,r5,r6,r11,r12,r13,hlt',hld,storeX_agg,hsz,Heap.get_alloc,putN,hz0,AV.cells,show (AV.ptr 0 i).atom=true from rfl]
   generalize hH:Heap.put (Heap.alloc h _) _ _=H
   have hq0:=Heap.get_lt qc
   have h00:=Heap.get_lt pbc
   have h10:=Heap.get_lt ebc
   have g0:H.get h.next=some [.ptr 0 i,.int .i64 z]:=by rw [←hH,Heap.get_put _ _ _ _ (by simp),if_pos rfl]
   have gold:∀ k cs,h.get k=some cs→H.get k=some cs:=fun k cs hk=>by
    rw [←hH,Heap.get_put _ _ _ _ (by simp),if_neg (by have:=Heap.get_lt hk;omega)]
    exact Heap.get_alloc_old hk
   have gp:=gold 0 _ pbc
   have ge:=gold 1 _ ebc
   have gq:=gold q _ qc
   have gb:BldAt H B (sealT b i):=by rw [←hH];exact bld
   clear hH
   refine ⟨rfl,?_⟩
   refine wpc_draw 10 (by kernel_rfl) ?_
   simp [r1,r4,r5,r6,r11,r12,r13,fieldAddrX,g0,gp,hci]
   refine QCall.use (x:=putA n z) (put_call n z (by omega) H) ?_
   have hTl:=sealT_len b i
   have hpl:=putR_len n z
   simp [putA,r1,r4,r5,r6]
   refine (sput_sem (t:=(putR n z).1) (f:=(putR n z).2) gb ge (by omega)).then ?_
   rintro _ h3 ⟨rfl,gh3,rfl,gb3⟩
   have hsT:sealT b (i+1)=sealT b i ++ (putR n z).1:=by
    unfold sealT
    rw [htk,List.map_append,List.flatten_append,←List.append_assoc]
    simp only [List.map_cons,List.map_nil,List.flatten_cons,List.flatten_nil,List.append_nil]
   have hsE:sealE b (i+1)=if sealE b i=0 then (putR n z).2 else sealE b i:=by
    have:=err1_snoc (((sealF b).take i).map fun p=>(putR p.1 p.2).2) (putR n z).2
    unfold sealE
    rw [htk,List.map_append]
    exact this
   have hge:=Heap.get_lt ge
   simp [r1,r4,r5,r6,r11,r12,r13,hw1]
   refine ⟨i+1,by omega,by omega,by simpa using r1,by simpa using r4,by simpa using r5,by simpa using r6,by simpa using r11,by simpa using r12,by simp,?_,?_,?_,by rw [hsT];exact gb3,ne1,ne2⟩
   ·show Heap.get (if sealE b i=0 then _ else _) 0=_
    split
    ·rw [Heap.get_put _ _ _ _ hge,if_neg (by decide)];exact gp
    ·exact gp
   ·show Heap.get (if sealE b i=0 then _ else _) 1=_
    rw [hsE]
    split
    ·rw [Heap.get_put _ _ _ _ hge,if_pos rfl]
    ·exact ge
   ·show Heap.get (if sealE b i=0 then _ else _) q=_
    split
    ·rw [Heap.get_put _ _ _ _ hge,if_neg ne2];exact gq
    ·exact gq
  ·subst heq
   have h4:((4:Nat):Int)=4:=rfl
   simp [r1,r4,r5,r6,r11,r12,r13,fieldAddrX,pbc]
   refine (text_call b.tx hb.tx h).use ?_
   have hTl:=sealT_len b 4
   have htl:(textR b.tx).1.length≤65538:=by
    unfold textR
    split<;>simp<;>omega
   simp [textA,r1,r4,r5,r6]
   refine (sput_sem (t:=(textR b.tx).1) (f:=(textR b.tx).2) bld ebc (by omega)).then ?_
   rintro _ h3 ⟨rfl,gh3,rfl,gb3⟩
   have hge:=Heap.get_lt ebc
   have hE:Heap.get { (if sealE b 4=0 then h.put 1 [.int .i64 (textR b.tx).2] else h) with gh:=gh3 } 1=some [.int .i64 (sealEE b)]:=by
    show Heap.get (if sealE b 4=0 then _ else _) 1=_
    unfold sealEE
    split
    ·rw [Heap.get_put _ _ _ _ hge,if_pos rfl]
    ·exact ebc
   have hT:sealT b 4 ++ (textR b.tx).1=sealTT b:=rfl
   rw [hT] at gb3
   generalize hH:({ (if sealE b 4=0 then h.put 1 [.int .i64 (textR b.tx).2] else h) with gh:=gh3 } : Heap)=H at gb3 hE
   clear hH
   simp [r1,r4,r5,r6,hE]
   by_cases he:sealEE b=0
   rotate_left
   ·simp [he]
    refine wpc_draw 3 (by kernel_rfl) ?_
    simp [r1,r4,r5,r6,hE,sealA,sealR,he]
   have hne:sealTT b≠[]:=by simp [sealTT,sealT,mag]
   have hTT:(sealTT b).length≤70000:=by simp only [sealTT,List.length_append];omega
   have hcr:=crcR_lt (sealTT b)
   have hcw:IntKind.i64.wrap (crcR (sealTT b):Int)=crcR (sealTT b):=wrap64 (by omega) (by omega)
   simp [he,r1,r4,r5,r6]
   refine (bstring_sem gb3 hne).use ?_
   simp
   refine ((csum_pure (sealTT b) (by omega)).call (k:=1) (by simp)).use ?_
   simp [hcw]
   refine (put_call (crcR (sealTT b)) 4 (by omega) H).use ?_
   simp [putA,r6]
   refine (sput_sem (t:=(putR (crcR (sealTT b)) 4).1) (f:=(putR (crcR (sealTT b)) 4).2) gb3 hE (by have:=putR_len (crcR (sealTT b)) 4;omega)).then ?_
   rintro _ h4 ⟨rfl,gh4,hh4,gb4⟩
   simp [r4]
   refine (bstring_sem gb4 (by simp [hne])).use ?_
   simp [sealA,sealR,he]
 ·refine ⟨by omega,by simp,by simp,by simp,by simp,by simp,by simp,by simp,E2.got k0,?_,hqc,?_,by decide,?_⟩
  ·exact E2.got k1
  ·obtain ⟨row,a1,a2⟩:=kb
   exact ⟨row,by rw [E2.gh];exact a1,by unfold RowAt at a2 ⊢;rw [E2.gh];exact a2⟩
  ·have:=Heap.get_lt k1;omega
section
variable {P:Program}
def depB (l:List Oper) (i j:Nat):Bool:=match l[i]? with
 | some o=>o.after.toList.any fun e=>Region.binds .any e && e.on == j
 | none=>false
def VL (V:Nat→AV→Prop) (j:Nat) (o:Oper) (r:Regs):Prop:=match o.dst with
 | some d=>V j (rg r d)
 | none=>True
def DepL (V:Nat→AV→Prop) (ops:List Oper) (r:Regs) (e:Edge):Prop:=Region.binds .any e=true→match ops[e.on]? with
 | some o=>VL V e.on o r
 | none=>True
theorem wpc_ord (Hp:(Nat→Bool)→Heap→Prop) (V:Nat→AV→Prop) {id:Nat} {l:List Oper} {Q:Out→Regs→Heap→Prop} {r0:Regs} {h0:Heap} (hs:ssaB l=true) (hi0:Hp (fun _=>false) h0)
  (hstep:∀ (L:Nat→Bool) (r:Regs) (h:Heap),Hp L h→(∀ i j,depB l i j=true→L j=false→L i=false)→(∀ d,(∀ j o,l[j]? = some o→o.dst=some d→L j=false)→rg r d=rg r0 d) →
   AllO (fun i o=>L i=false→(∀ e∈o.after.toList,DepL V l r e)→wpI P o.op o.dst (fun r' h'=> ∃ v,r'=dputX r o.dst v∧(o.dst.isSome=true→V i v)∧Hp (fun k=>if k=i then true else L k) h') r h) 0 l)
  (hend:∀ (L:Nat→Bool) (r:Regs) (h:Heap),(∀ k,k < l.length→L k=true)→Hp L h→(∀ d,d ∉ l.filterMap (·.dst)→rg r d=rg r0 d)→AllO (fun i o=>VL V i o r) 0 l→Q .norm r h):wpc P (.region id l.toArray true) Q r0 h0:=by
 unfold ssaB at hs
 simp only [Bool.and_eq_true,decide_eq_true_eq] at hs
 obtain ⟨⟨hgd,hnd⟩,hac⟩:=hs
 have hdst:=nodup_dst hnd
 have hac':∀ (i:Nat) (o:Oper) (e:Edge),l[i]? = some o→e∈o.after.toList→Region.binds .any e=true→e.on < i:=by
  intro i o e hi he hb
  have:=List.all_eq_true.1 hac i (by simpa using (List.getElem?_eq_some_iff.1 hi).1)
  rw [hi] at this
  have:=List.all_eq_true.1 this e he
  simpa [hb] using this
 refine wpc_any ?_
 have key:∀ (f:Nat) (listed:Array Bool) (r:Regs) (h:Heap),listed.size=l.length→(List.range l.length).countP (fun i => !listed.getD i true)=f→Hp (fun k=>listed.getD k false) h →
   (∀ i j,depB l i j=true→listed.getD j false=false→listed.getD i false=false)→(∀ d,(∀ j o,l[j]? = some o→o.dst=some d→listed.getD j false=false)→rg r d=rg r0 d) →
   (∀ i o,l[i]? = some o→listed.getD i false=true→VL V i o r)→wpAnyX P l.toArray (Q .norm) f listed r h:=by
  intro f
  induction f with
  | zero =>
   intro listed r h hsz hc hi hx hr hv
   have hall:∀ i,i < l.length→listed.getD i true=true:=by
    intro i hil
    have:=List.countP_eq_zero.1 hc i (by simpa using hil)
    simpa using this
   have hallF:∀ i,i < l.length→listed.getD i false=true:=by
    intro i hil
    have:=hall i hil
    simpa [hsz,hil] using this
   refine ⟨?_,hend (fun k=>listed.getD k false) r h hallF hi (fun d hd=>hr d fun j o hj hjd=>(hd (List.mem_filterMap.2 ⟨o,List.mem_of_getElem? hj,hjd⟩)).elim) ?_⟩
   ·rw [Region.ready,List.filter_eq_nil_iff]
    intro i hil
    have:=hall i (by simpa using hil)
    simp [this]
   ·have:∀ (m:List Oper) (k:Nat),(∀ j o,m[j]? = some o→VL V (k+j) o r)→AllO (fun i o=>VL V i o r) k m:=by
     intro m
     induction m with
     | nil=>intro k _;trivial
     | cons o m ih =>
      intro k hk
      exact ⟨hk 0 o rfl,ih (k+1) (fun j o' hj=>by have:=hk (j+1) o' (by simpa using hj);rwa [show k+(j+1)=k+1+j by omega] at this)⟩
    refine this l 0 fun j o hj=> ?_
    rw [Nat.zero_add]
    exact hv j o hj (hallF j (List.getElem?_eq_some_iff.1 hj).1)
  | succ f ih =>
   intro listed r h hsz hc hi hx hr hv
   refine ⟨fun he=> ?_,fun i hir=> ?_⟩
   ·exfalso
    have hex:∃ i,i < l.length∧listed.getD i true=false:=by
     have:0 < (List.range l.length).countP (fun i => !listed.getD i true):=by omega
     obtain ⟨i,h1,h2⟩:=List.countP_pos_iff.1 this
     exact ⟨i,by simpa using h1,by simpa using h2⟩
    have least:∀ n,(∃ i,i < n∧i < l.length∧listed.getD i true=false)→∃ i,i < l.length∧listed.getD i true=false∧∀ j,j < i→listed.getD j true=true:=by
     intro n
     induction n with
     | zero=>rintro ⟨i,h1,_⟩;omega
     | succ n ihn =>
      rintro ⟨i,h1,h2,h3⟩
      by_cases hlt:∃ j,j < n∧j < l.length∧listed.getD j true=false
      ·exact ihn hlt
      ·refine ⟨i,h2,h3,fun j hj=> ?_⟩
       cases hb:listed.getD j true with
       | true=>rfl
       | false=>exact (hlt ⟨j,by omega,by omega,hb⟩).elim
    obtain ⟨i0,h1,h2⟩:=hex
    obtain ⟨i,g1,g2,g3⟩:=least (i0+1) ⟨i0,by omega,h1,h2⟩
    have:i∈Region.ready .any l.toArray listed:=by
     rw [Region.ready,List.mem_filter]
     refine ⟨by simpa using g1,?_⟩
     simp only [g2,Bool.not_false,Bool.true_and]
     have hget:l[i]? = some l[i]:=List.getElem?_eq_getElem g1
     simp only [List.getElem?_toArray,hget,Option.map_some,Option.getD_some]
     rw [←Array.all_toList,List.all_eq_true]
     intro e hee
     by_cases hb:Region.binds .any e=true
     ·have hon:=hac' i _ e hget hee hb
      have:=g3 e.on hon
      have hel:e.on < listed.size:=by omega
      simp [hb]
      simpa [hel] using this
     ·simp [hb]
    rw [he] at this
    cases this
   ·rw [Region.ready,List.mem_filter] at hir
    obtain ⟨h1,h2⟩:=hir
    have hil:i < l.length:=by simpa using h1
    have hget:l[i]? = some l[i]:=List.getElem?_eq_getElem hil
    simp only [Bool.and_eq_true,Bool.not_eq_true',List.getElem?_toArray,hget,Option.map_some,Option.getD_some] at h2
    obtain ⟨hun,hdep⟩:=h2
    simp only [List.getElem?_toArray,hget]
    have hgn:l[i].guard=none:=by
     have:=List.all_eq_true.1 hgd l[i] (List.getElem_mem hil)
     simpa using this
    have hdep':∀ e∈l[i].after.toList,Region.binds .any e=true→listed.getD e.on false=true:=by
     intro e he hb
     rw [←Array.all_toList,List.all_eq_true] at hdep
     have:=hdep e he
     simpa only [hb,Bool.not_true,Bool.false_or] using this
    have hunF:listed.getD i false=false:=by
     have:i < listed.size:=by omega
     simpa [this] using hun
    have hst:=AllO.get _ _ (hstep (fun k=>listed.getD k false) r h hi hx hr) i l[i] hget (by rw [Nat.zero_add];exact hunF) (fun e he hb=>by
     have hon:=hac' i _ e hget he hb
     have heg:l[e.on]? = some l[e.on]:=List.getElem?_eq_getElem (by omega)
     rw [heg]
     exact hv e.on _ heg (hdep' e he hb))
    rw [Nat.zero_add] at hst
    refine ⟨true,by simp [wantedX,hgn],fun _=> ?_,fun e=>by cases e⟩
    have hsetF:∀ k,(listed.setIfInBounds i true).getD k false=if k=i then true else listed.getD k false:=by
     intro k
     simp only [Array.getD_eq_getD_getElem?,Array.getElem?_setIfInBounds]
     by_cases hk:i=k
     ·subst hk;simp [hsz,hil]
     ·rw [if_neg hk,if_neg (Ne.symm hk)]
    have cont:∀ (v:AV) (h':Heap),(l[i].dst.isSome=true→V i v)→Hp (fun k=>if k=i then true else listed.getD k false) h'→wpAnyX P l.toArray (Q .norm) f (listed.setIfInBounds i true) (dputX r l[i].dst v) h':=by
     intro v h' hV hP
     refine ih _ _ _ (by simp [hsz]) ?_ (by simp only [hsetF];exact hP) (fun i' j hij hj=> ?_) (fun d hd=> ?_) (fun j o hj hlj=> ?_)
     ·have hset:∀ k,(listed.setIfInBounds i true).getD k true=if k=i then true else listed.getD k true:=by
       intro k
       simp only [Array.getD_eq_getD_getElem?,Array.getElem?_setIfInBounds]
       by_cases hk:i=k
       ·subst hk;simp [hsz,hil]
       ·rw [if_neg hk,if_neg (Ne.symm hk)]
      have hcnt:∀ (m:List Nat),m.Nodup→i∈m→m.countP (fun k => !listed.getD k true)=m.countP (fun k => !(listed.setIfInBounds i true).getD k true)+1:=by
       intro m
       induction m with
       | nil=>intro _ hm;cases hm
       | cons a m ihm =>
        intro hnd' hm
        obtain ⟨n1,n2⟩:=List.nodup_cons.1 hnd'
        rw [List.countP_cons,List.countP_cons]
        by_cases ha:a=i
        ·subst ha
         have:m.countP (fun k => !listed.getD k true)=m.countP (fun k => !(listed.setIfInBounds a true).getD k true):=by
          apply List.countP_congr
          intro k hk
          rw [hset k,if_neg (fun e:k=a=>n1 (e ▸ hk))]
         rw [this,hset a,if_pos rfl,hun]
         simp
        ·have hm':i∈m:=by
          rcases List.mem_cons.1 hm with e|e
          ·exact (ha e.symm).elim
          ·exact e
         rw [ihm n2 hm',hset a,if_neg ha]
         omega
      have:=hcnt (List.range l.length) List.nodup_range (by simpa using hil)
      omega
     ·rw [hsetF] at hj ⊢
      by_cases hji:j=i
      ·rw [if_pos hji] at hj;cases hj
      ·rw [if_neg hji] at hj
       by_cases hii:i'=i
       ·exfalso
        subst hii
        unfold depB at hij
        rw [hget] at hij
        simp only [List.any_eq_true,Bool.and_eq_true,beq_iff_eq] at hij
        obtain ⟨e,he,hb,rfl⟩:=hij
        rw [hdep' e he hb] at hj
        cases hj
       ·rw [if_neg hii];exact hx i' j hij hj
     ·rw [←hr d fun j o hj hjd=>by
       have:=hd j o hj hjd
       rw [hsetF] at this
       by_cases hji:j=i
       ·rw [if_pos hji] at this;cases this
       ·rwa [if_neg hji] at this]
      cases hds:l[i].dst with
      | none=>rfl
      | some d' =>
       have hne:d≠d':=fun e=>by
        have:=hd i _ hget (by rw [hds,e])
        rw [hsetF,if_pos rfl] at this
        cases this
       simp only [dputX,rg_rset,if_neg hne]
     ·by_cases hji:j=i
      ·subst hji
       rw [hget] at hj
       cases hj
       unfold VL
       cases hds:l[j].dst with
       | none=>trivial
       | some d=>simp only [dputX,rg_rset,if_pos rfl];exact hV (by rw [hds];rfl)
      ·rw [hsetF,if_neg hji] at hlj
       have:=hv j o hj hlj
       unfold VL at this ⊢
       cases hdo:o.dst with
       | none=>trivial
       | some d =>
        rw [hdo] at this
        simp only at this ⊢
        cases hds:l[i].dst with
        | none=>exact this
        | some d' =>
         have hne:d≠d':=fun e=>hji (hdst j i o l[i] d hj hget hdo (by rw [hds,e]))
         simp only [dputX,rg_rset,if_neg hne];exact this
    have e:wpO P l[i] (wpAnyX P l.toArray (Q .norm) f (listed.setIfInBounds i true)) r h=wpI P l[i].op l[i].dst (wpAnyX P l.toArray (Q .norm) f (listed.setIfInBounds i true)) r h:=rfl
    show wpO P l[i] _ r h
    rw [e]
    exact wpI_mono (fun r' h' ⟨v,hr',hV,hP⟩=>by rw [hr'];exact cont v h' hV hP) hst
 refine key l.length (Array.replicate l.length false) r0 h0 (by simp) ?_ ?_ (fun i j _ _=>getD_replicate_false _ _) (fun _ _=>rfl) (fun i o hi hl=> ?_)
 ·have:∀ (m:List Nat),(∀ k∈m,k < l.length)→m.countP (fun i => !(Array.replicate l.length false).getD i true)=m.length:=by
   intro m hm
   rw [List.countP_eq_length]
   intro k hk
   have:=hm k hk
   simp [this]
  rw [this _ (fun k hk=>by simpa using hk),List.length_range]
 ·simp only [getD_replicate_false];exact hi0
 ·rw [getD_replicate_false] at hl;cases hl
theorem ordReg {l:List Oper} (hs:ssaB l=true) {L:Nat→Bool} {r r0:Regs} (hr:∀ d,(∀ j o,l[j]? = some o→o.dst=some d→L j=false)→rg r d=rg r0 d) {m:Nat} {o:Oper} {d:Tmp} (hm:l[m]? = some o) (hd:o.dst=some d) (hL:L m=false):rg r d=rg r0 d:=by
 unfold ssaB at hs
 simp only [Bool.and_eq_true,decide_eq_true_eq] at hs
 exact hr d fun j o' hj hd'=>by rw [nodup_dst hs.1.2 j m o' o d hj hm hd' hd];exact hL
theorem ordReg0 {l:List Oper} {L:Nat→Bool} {r r0:Regs} (hr:∀ d,(∀ j o,l[j]? = some o→o.dst=some d→L j=false)→rg r d=rg r0 d) {d:Tmp} (hd:(l.filterMap (·.dst)).contains d=false):rg r d=rg r0 d :=
 hr d fun j o hj hd'=>absurd (List.mem_filterMap.2 ⟨o,List.mem_of_getElem? hj,hd'⟩) (by simpa using hd)
end
theorem csum_call (s:Txt) (hl:s.length < 2 ^ 62) (h:Heap):CSem Tryz.prog 111 [S s] h fun x' h'=>x' = .int .u32 (crcR s)∧h'=h:=(csum_pure s hl).call (k:=1) (by simp)
def opSz:Nat→Int
 | 0=>4
 | 1=>2
 | 2=>4
 | _=>7
def opRs (s:Txt):Nat→Txt
 | 0=>s.drop 3
 | i+1=>(cutR (opRs s i) (opSz i)).2.1
def opVl (s:Txt) (i:Nat):Int:=(cutR (opRs s i) (opSz i)).1
def opCell (s:Txt) (i:Nat):List AV:=((List.range 4).map fun j=>AV.int .i64 (if j < i then opVl s j else 0)) ++ [S []]
def opT (s:Txt):Txt×Txt×Int:=takeR (opRs s 4)
def openR (s:Txt):BlkD×Int :=
 if s.length < 26 then (blk0,4) else if ¬s.take 3=mag then (blk0,5) else if ¬(opT s).2.2=0∨(opT s).2.1.length < 4 then (blk0,4) else if 4 < (opT s).2.1.length then (blk0,5)
 else if ¬(cutR (opT s).2.1 4).1=crcR (s.take (s.length - 4)) then (blk0,6) else (⟨opVl s 0,opVl s 1,opVl s 2,opVl s 3,(opT s).1⟩,0)
def openA (s:Txt):AV:= .tup [BlkA (openR s).1,.int .i64 (openR s).2]
theorem cut_len (s:Txt) (z:Int):(cutR s z).2.1.length≤s.length:=by
 unfold cutR
 split
 ·split<;>simp
 ·simp
theorem opRs_len (s:Txt):∀ i,(opRs s i).length≤s.length
 | 0=>by simp [opRs]
 | i+1=>Nat.le_trans (cut_len _ _) (opRs_len s i)
theorem opCell_set (s:Txt) {i:Nat} (hi:i < 4):(opCell s i).set i (.int .i64 (opVl s i))=opCell s (i+1):=by
 rcases i with _|_|_|_|i
 ·rfl
 ·rfl
 ·rfl
 ·rfl
 ·omega
structure OpenI (s:Txt) (b q:Nat) (h0:Heap) (i:Nat) (r:Regs) (h:Heap):Prop where
 le:i≤4
 r0:rg r 0=S s
 r2:rg r 2 = .ptr 0 0
 r4:rg r 4=S (opRs s i)
 r6:rg r 6 = .ptr b 0
 r27:rg r 27 = .sl q 0 4 4 2
 r28:rg r 28 = .int .i64 4
 r29:rg r 29 = .int .i64 i
 res:h.get 0=some [.int .i64 0,.int .i64 0,.int .i64 0,.int .i64 0,S []]
 bc:h.get b=some (opCell s i)
 qc:h.get q=some (fldC b)
 ne1:b≠0
 ne2:q≠b
def OpV (s:Txt) (i hn:Nat):Nat→AV→Prop
 | 0,v=>v = .ptr hn 0
 | 1,v=>v = .ptr 1 i
 | 2,v=>v=S (opRs s i)
 | 3,v=>v = .ptr hn 1
 | 4,v=>v = .int .i64 (opSz i)
 | 5,v=>v=cutA (opRs s i) (opSz i)
 | 6,v=>v=cutA (opRs s i) (opSz i)
 | 7,v=>v = .int .i64 (opVl s i)
 | 8,v=>v=S (opRs s (i+1))
 | 9,v=>v = .int .i64 (cutR (opRs s i) (opSz i)).2.2
 | 10,v=>v = .ptr 1 i
 | _,v=>v=S (opRs s (i+1))
theorem open_pure (s:Txt) (hs:s.length < 2 ^ 46):CPure Tryz.prog 127 [S s] (openA s):=by
 refine CPure.of_sem (k:=3) ?_
 refine CSem.body hm Tryz.func127 rfl (by kernel_rfl) (by kernel_rfl) (by simp [Tryz.ntmps127]) ?_
 have hb0:buildX Tryz.prog 113 []=some (.agg [.int .i64 0,.int .i64 0,.int .i64 0,.int .i64 0,S []]):=by kernel_rfl
 have hz5:szT Tryz.prog 113=some 5:=by kernel_rfl
 have hagg:aggT Tryz.prog 113=some true:=by kernel_rfl
 have hzF:zeroAV Tryz.prog 169=some (.agg [.nilPtr,.int .i64 0]):=by kernel_rfl
 have hsz:szT Tryz.prog 169=some 2:=by kernel_rfl
 simp [Tryz.f127,AV.cells]
 refine (cutp_call s mag _).use ?_
 unfold cutP
 have hml:mag.length=3:=rfl
 rw [hml]
 by_cases h26:s.length < 26
 ·have h26':(s.length:Int) < 26:=by omega
  by_cases hp:3≤s.length∧s.take 3=mag
  ·simp [hp,h26,h26',hb0,storeX_agg,hz5,putN,Heap.get_alloc,Heap.get_put,loadX_agg,takeN,openA,openR,BlkA,blk0,snap_agg]
  ·simp [hp,h26,h26',hb0,storeX_agg,hz5,putN,Heap.get_alloc,Heap.get_put,loadX_agg,takeN,openA,openR,BlkA,blk0,snap_agg]
 have h26':¬(s.length:Int) < 26:=by omega
 by_cases hmg:s.take 3=mag
 rotate_left
 ·have hp:¬(3≤s.length∧s.take 3=mag):=fun h=>hmg h.2
  simp [hp,hmg,h26,h26',hb0,storeX_agg,hz5,putN,Heap.get_alloc,Heap.get_put,loadX_agg,takeN,openA,openR,BlkA,blk0,snap_agg]
 have hp:3≤s.length∧s.take 3=mag:=⟨by omega,hmg⟩
 simp [hp,h26',AV.cells]
 generalize hH:Heap.alloc _ _=H
 have k0:H.get 0=some [.int .i64 0,.int .i64 0,.int .i64 0,.int .i64 0,S []]:=by rw [←hH];exact Heap.get_alloc_old (Heap.get_alloc_same Heap.empty _)
 have k1:H.get 1=some [.int .i64 0,.int .i64 0,.int .i64 0,.int .i64 0,S []]:=by rw [←hH];exact Heap.get_alloc_same (Heap.alloc Heap.empty _) _
 clear hH
 refine (fields_sem 1 H).then ?_
 rintro _ h2 ⟨q,rfl,hq,hqc,E2⟩
 simp
 refine wpc_loop (OpenI s 1 q H) (4 - ·) ?_ 0 ?_
 ·rintro i r h ⟨le,r0,r2,r4,r6,r27,r28,r29,res,bc,qc,ne1,ne2⟩
  have hrl:=opRs_len s i
  rcases Nat.lt_or_eq_of_le le with hlt|heq
  ·have hlt':(i:Int) < 4:=by omega
   have hw1:IntKind.i64.wrap ((i:Int)+1)=(i:Int)+1:=wrap64 (by omega) (by omega)
   obtain ⟨hld,hat⟩:loadX Tryz.prog h 169 (.ptr q (i * 2))=some (.agg [.ptr 1 i,.int .i64 (opSz i)])∧i < (opCell s i).length:=by
    rcases i with _|_|_|_|i
    ·exact ⟨by rw [loadX_agg (by kernel_rfl),hsz,qc];rfl,by simp [opCell]⟩
    ·exact ⟨by rw [loadX_agg (by kernel_rfl),hsz,qc];rfl,by simp [opCell]⟩
    ·exact ⟨by rw [loadX_agg (by kernel_rfl),hsz,qc];rfl,by simp [opCell]⟩
    ·exact ⟨by rw [loadX_agg (by kernel_rfl),hsz,qc];rfl,by simp [opCell]⟩
    ·omega
   simp [r0,r2,r4,r6,r27,r28,r29,hlt',hld,storeX_agg,hsz,Heap.get_alloc,putN,hzF,AV.cells,show (AV.ptr 1 i).atom=true from rfl]
   generalize hH:Heap.put (Heap.alloc h _) _ _=H2
   have g0:H2.get h.next=some [.ptr 1 i,.int .i64 (opSz i)]:=by rw [←hH,Heap.get_put _ _ _ _ (by simp),if_pos rfl]
   have gold:∀ k cs,h.get k=some cs→H2.get k=some cs:=fun k cs hk=>by
    rw [←hH,Heap.get_put _ _ _ _ (by simp),if_neg (by have:=Heap.get_lt hk;omega)]
    exact Heap.get_alloc_old hk
   have gr:=gold 0 _ res
   have gb:=gold 1 _ bc
   have gq:=gold q _ qc
   have hbl:=Heap.get_lt gb
   clear hH
   refine ⟨rfl,?_⟩
   refine wpc_ord (fun L H=>H=if L 11=true then H2.put 1 (opCell s (i+1)) else H2) (OpV s i h.next) (by kernel_rfl) rfl ?_ ?_
   ·intro L r1 H hH cl hr
    have q8:rg r1 8 = .ptr h.next 0:=(ordReg0 hr (by kernel_rfl)).trans (by simp)
    have q4:L 2=false→rg r1 4=S (opRs s i):=fun hL=>(ordReg (by kernel_rfl) hr (m:=12) rfl rfl (cl 12 2 (by kernel_rfl) hL)).trans (by simpa using r4)
    have hH0:L 11=false→H=H2:=fun hL=>by rw [hH,if_neg (by rw [hL];decide)]
    have hset:(opCell s i).set i (.int .i64 (opVl s i))=opCell s (i+1):=opCell_set s hlt
    refine ⟨?_,?_,?_,?_,?_,?_,?_,?_,?_,?_,?_,?_,?_,trivial⟩
    all_goals (intro hL hd;simp [DepL,VL,OpV,Region.binds] at hd)
    ·simp [q8,fieldAddrX,OpV,hH]
    ·have h11:=cl 11 1 (by kernel_rfl) hL
     simp [hd,hH0 h11,g0,OpV,h11]
    ·simp [q4 hL,OpV,hH]
    ·simp [q8,fieldAddrX,OpV,hH]
    ·have h11:=cl 11 4 (by kernel_rfl) hL
     simp [hd,hH0 h11,g0,OpV,h11]
    ·simp [hd]
     refine (cut_call (opRs s i) (opSz i) (by omega) H).use ?_
     simp [OpV,hH]
    ·simp [hd,OpV,hH]
    ·simp [hd,cutA,OpV,hH,opVl]
    ·simp [hd,cutA,OpV,hH,opRs]
    ·simp [hd,cutA,OpV,hH]
    ·simp [hd,OpV,hH]
    ·simp [hd,hH0 hL,gb,hat,hset]
    ·simp [hd,OpV,hH]
   intro L r1 H hall hH hr hA
   obtain ⟨_,_,_,_,_,_,_,_,_,_,_,_,hz,_⟩:=hA
   simp [VL,OpV] at hz
   rw [if_pos (hall 11 (by decide))] at hH
   subst hH
   have q:∀ d,([34,35,36,37,38,39,33,40,41,42,43,4]:List Nat).contains d=false→rg r1 d=rg (rset (rset (rset (rset r 30 (.bool true)) 31 (.ptr q (i * 2))) 32 (.agg [.ptr 1 i,.int .i64 (opSz i)])) 8 (.ptr h.next 0)) d:=fun d hd=>hr d (by simpa using hd)
   have s0:=q 0 rfl
   have s2:=q 2 rfl
   have s6:=q 6 rfl
   have s27:=q 27 rfl
   have s28:=q 28 rfl
   have s29:=q 29 rfl
   simp [r0] at s0
   simp [r2] at s2
   simp [r6] at s6
   simp [r27] at s27
   simp [r28] at s28
   simp [r29] at s29
   simp [s29,hw1]
   refine ⟨i+1,by omega,by omega,by simpa using s0,by simpa using s2,by simpa using hz,by simpa using s6,by simpa using s27,by simpa using s28,by simp,?_,?_,?_,ne1,ne2⟩
   ·rw [Heap.get_put _ _ _ _ hbl,if_neg (by decide)];exact gr
   ·rw [Heap.get_put _ _ _ _ hbl,if_pos rfl]
   ·rw [Heap.get_put _ _ _ _ hbl,if_neg ne2];exact gq
  ·subst heq
   have hrl0:=Heap.get_lt res
   have hbl:=Heap.get_lt bc
   have h4:((4:Nat):Int)=4:=rfl
   have h4:((4:Nat):Int)=4:=rfl
   simp [r0,r2,r4,r6,r27,r28,r29]
   refine ((take_pure (opRs s 4) (by omega)).call (k:=1) (by simp)).use ?_
   have hT:takeR (opRs s 4)=opT s:=rfl
   have htl:(opT s).2.1.length≤s.length:=by
    rw [←hT]
    unfold takeR
    split
    ·have:=cut_len (opRs s 4) 2
     simp only [List.length_drop]
     omega
    ·simp
   have hcell:(opCell s 4)=[.int .i64 (opVl s 0),.int .i64 (opVl s 1),.int .i64 (opVl s 2),.int .i64 (opVl s 3),S []]:=rfl
   have hopen:openR s=if ¬(opT s).2.2=0∨(opT s).2.1.length < 4 then (blk0,4) else if 4 < (opT s).2.1.length then (blk0,5) else if ¬(cutR (opT s).2.1 4).1=crcR (s.take (s.length - 4)) then (blk0,6) else (⟨opVl s 0,opVl s 1,opVl s 2,opVl s 3,(opT s).1⟩,0):=by
    unfold openR
    rw [if_neg h26,if_neg (by simpa using hmg)]
   rw [hcell] at bc
   simp only [takeA,hT]
   generalize opT s=T at htl hopen ⊢
   obtain ⟨tx,rs,e⟩:=T
   simp only at htl hopen ⊢
   simp [r0,r2,r4,r6,fieldAddrX,bc]
   by_cases he:e=0
   rotate_left
   ·simp [he,r0,r2,r4,r6,hb0,storeX_agg,hz5,putN,loadX_agg,takeN,Heap.get_put,res,hrl0,hbl]
    simp [openA,hopen,he,BlkA,blk0]
   by_cases hl1:rs.length < 4
   ·have hl1':(rs.length:Int) < 4:=by omega
    simp [he,hl1,hl1',r0,r2,r4,r6,hb0,storeX_agg,hz5,putN,loadX_agg,takeN,Heap.get_put,res,hrl0,hbl]
    simp [openA,hopen,he,hl1,BlkA,blk0]
   have hl1':¬(rs.length:Int) < 4:=by omega
   by_cases hl2:4 < rs.length
   ·have hl2':(4:Int) < rs.length:=by omega
    simp [he,hl1,hl1',hl2,hl2',r0,r2,r4,r6,hb0,storeX_agg,hz5,putN,loadX_agg,takeN,Heap.get_put,res,hrl0,hbl]
    simp [openA,hopen,he,hl1,hl2,BlkA,blk0]
   have hl2':¬(4:Int) < rs.length:=by omega
   simp [he,hl1,hl1',hl2,hl2',r0,r2,r4,r6]
   refine (cut_call rs 4 (by omega) _).use ?_
   have hw4:IntKind.i64.wrap ((s.length:Int) - 4)=(s.length:Int) - 4:=wrap64 (by omega) (by omega)
   have hn4:((s.length:Int) - 4).toNat=s.length - 4:=by omega
   have h04:(0:Int)≤(s.length:Int) - 4:=by omega
   have hle4:(s.length:Int) - 4≤s.length:=by omega
   simp [cutA,r0,r2,r4,r6,hw4,sliceX_S,hn4,h04,hle4]
   refine ⟨by omega,?_⟩
   refine (csum_call (s.take (s.length - 4)) (by rw [List.length_take];omega) _).use ?_
   have hcr:=crcR_lt (s.take (s.length - 4))
   have hcw:IntKind.i64.wrap (crcR (s.take (s.length - 4)):Int)=crcR (s.take (s.length - 4)):=wrap64 (by omega) (by omega)
   by_cases hsum:(cutR rs 4).1=crcR (s.take (s.length - 4))
   ·simp [hcw,hsum,r0,r2,r4,r6,hb0,storeX_agg,hz5,putN,loadX_agg,takeN,Heap.get_put,res,hrl0,hbl,bc]
    simp [openA,hopen,he,hl1,hl2,hsum,BlkA]
   ·simp [hcw,hsum,r0,r2,r4,r6,hb0,storeX_agg,hz5,putN,loadX_agg,takeN,Heap.get_put,res,hrl0,hbl,bc]
    simp [openA,hopen,he,hl1,hl2,hsum,BlkA,blk0]
 ·refine ⟨by omega,by simp,by simp,by simp [opRs],by simp,by simp,by simp,by simp,E2.got k0,E2.got k1,hqc,by decide,?_⟩
  have:=Heap.get_lt k1;omega
def bownR (s:Txt) (a d p:Int):BlkD×Int:=if (openR s).2=0∧(openR s).1.ar=a∧(openR s).1.dk=d∧(openR s).1.pl=p then ((openR s).1,0) else (blk0,if (openR s).2=0 then 5 else (openR s).2)
def bownA (s:Txt) (a d p:Int):AV:= .tup [BlkA (bownR s a d p).1,.int .i64 (bownR s a d p).2]
theorem blk_neq (b:BlkD) (a d p:Int):binX Tryz.prog .neq 113 (.agg [.int .i64 b.ar,.int .i64 b.dk,.int .i64 b.pl,.int .i64 b.ep,S b.tx]) (.agg [.int .i64 a,.int .i64 d,.int .i64 p,.int .i64 b.ep,S b.tx])=some (.bool (!decide (b.ar=a∧b.dk=d∧b.pl=p))):=by
 have hf:flatT Tryz.prog 113=some [(0,1),(1,1),(2,1),(3,1),(4,2)]:=by kernel_rfl
 have e5:eq1 2 (S b.tx) (S b.tx)=some true:=by
  show some (strEq _ _)=some true
  simp [strEq]
 have e1:∀ x y:Int,eq1 1 (.int .i64 x) (.int .i64 y)=some (x == y):=fun x y=>by simp [eq1]
 simp only [binX,aggEq,hf,Option.bind_some,eqL,List.getElem?_cons_zero,List.getElem?_cons_succ,e1,e5,Option.map_some]
 congr 2
 rw [Bool.eq_iff_iff]
 simp
theorem own_pure (s:Txt) (hs:s.length < 2 ^ 46) (a d p:Int):CPure Tryz.prog 92 [S s,.int .i64 a,.int .i64 d,.int .i64 p] (bownA s a d p):=by
 refine CPure.of_sem (k:=3) ?_
 refine CSem.body hm Tryz.func92 rfl (by kernel_rfl) (by kernel_rfl) (by simp [Tryz.ntmps92]) ?_
 have hb0:buildX Tryz.prog 113 []=some (.agg [.int .i64 0,.int .i64 0,.int .i64 0,.int .i64 0,S []]):=by kernel_rfl
 have hb5:∀ (a d p e:Int) (t:Txt),buildX Tryz.prog 113 [(0,.int .i64 a),(1,.int .i64 d),(2,.int .i64 p),(3,.int .i64 e),(4,S t)]=some (.agg [.int .i64 a,.int .i64 d,.int .i64 p,.int .i64 e,S t]):=fun a d p e t=>by kernel_rfl
 have hz5:szT Tryz.prog 113=some 5:=by kernel_rfl
 simp [Tryz.f92,AV.cells]
 refine ((open_pure s hs).call (k:=1) (by simp)).use ?_
 simp only [openA,bownA,bownR]
 generalize openR s=o
 obtain ⟨b,e⟩:=o
 have hne:=blk_neq b a d p
 simp [BlkA,AV.cells,storeX_agg,hz5,putN,Heap.get_alloc,Heap.get_put]
 by_cases he:e=0
 rotate_left
 ·simp [he,hb0,storeX_agg,hz5,putN,loadX_agg,takeN,Heap.get_put,Heap.get_alloc,BlkA,blk0]
 by_cases hm:b.ar=a∧b.dk=d∧b.pl=p
 ·obtain ⟨rfl,rfl,rfl⟩:=hm
  simp at hne
  simp [he,hb0,hb5,hne,storeX_agg,hz5,putN,loadX_agg,takeN,Heap.get_put,Heap.get_alloc,BlkA,blk0,fieldAddrX]
 ·simp only [hm,decide_false,Bool.not_false] at hne
  simp [he,hm,hb0,hb5,hne,storeX_agg,hz5,putN,loadX_agg,takeN,Heap.get_put,Heap.get_alloc,BlkA,blk0,fieldAddrX]
theorem own_call (s:Txt) (hs:s.length < 2 ^ 46) (a d p:Int) (h:Heap):CSem Tryz.prog 92 [S s,.int .i64 a,.int .i64 d,.int .i64 p] h fun x' h'=>x'=bownA s a d p∧h'=h:=(own_pure s hs a d p).call (k:=1) (by simp)
section
variable {c:Cfg}
theorem sectors_pure (hc:ConfP c):CPure Tryz.prog 67 [CfA c] (.int .i64 (1+c.sl+c.st)):=by
 refine CPure.of_sem (k:=1) ?_
 refine CSem.body hm Tryz.func67 rfl (by kernel_rfl) (by kernel_rfl) (by simp [Tryz.ntmps67]) ?_
 have h1:=hc.2.2.2.2.1
 have h2:=hc.2.2.2.1
 have w1:IntKind.i64.wrap (1+c.sl)=1+c.sl:=wrap64 (by omega) (by omega)
 have w2:IntKind.i64.wrap (1+c.sl+c.st)=1+c.sl+c.st:=wrap64 (by omega) (by omega)
 simp [Tryz.f67,CfA,AV.cells,fieldAddrX,loadX_agg,takeN,Heap.get_alloc,w1,w2]
 refine (confOf_call c _ _).use ?_
 simp [hc]
theorem slot_pure (hc:ConfP c) (q:Int) (h0:0≤q):CPure Tryz.prog 86 [CfA c,.int .i64 q] (.int .i64 (1+q % c.sl)):=by
 refine CPure.of_sem (k:=1) ?_
 refine CSem.body hm Tryz.func86 rfl (by kernel_rfl) (by kernel_rfl) (by simp [Tryz.ntmps86]) ?_
 have h1:=hc.2.2.2.2.1
 have hq:¬q < 0:=by omega
 have hs0:¬c.sl=0:=by omega
 have ht:q.tmod c.sl=q % c.sl:=Int.tmod_eq_emod_of_nonneg h0
 have hm1:=Int.emod_lt_of_pos q (show 0 < c.sl by omega)
 have hm0:=Int.emod_nonneg q hs0
 have w1:IntKind.i64.wrap (1+q % c.sl)=1+q % c.sl:=wrap64 (by omega) (by omega)
 have hrem:intX .rem .i64 q c.sl=some (.int .i64 (q % c.sl)):=by simp [intX,hs0,ht]
 simp [Tryz.f86,CfA,AV.cells,fieldAddrX,loadX_agg,takeN,Heap.get_alloc]
 refine (confCheck_call c _).use ?_
 simp [hc,hq,hs0,hrem,w1,Heap.get_alloc,takeN,CfA,fieldAddrX,loadX_agg]
theorem slot_call (hc:ConfP c) (q:Int) (h0:0≤q) (h:Heap):CSem Tryz.prog 86 [CfA c,.int .i64 q] h fun x' h'=>x' = .int .i64 (1+q % c.sl)∧h'=h:=(slot_pure hc q h0).call (k:=2) (by simp [CfA,snap,mapL])
def stripeR (c:Cfg) (n:Int):Int:=if 0≤n∧n < c.st then 1+c.sl+n else -1
theorem stripe_pure (hc:ConfP c) (n:Int):CPure Tryz.prog 74 [CfA c,.int .i64 n] (.int .i64 (stripeR c n)):=by
 refine CPure.of_sem (k:=1) ?_
 refine CSem.body hm Tryz.func74 rfl (by kernel_rfl) (by kernel_rfl) (by simp [Tryz.ntmps74]) ?_
 have h1:=hc.2.2.2.2.1
 have h2:=hc.2.2.2.1
 have w0:IntKind.i64.wrap (c.st - 1)=c.st - 1:=wrap64 (by omega) (by omega)
 have w1:IntKind.i64.wrap (1+c.sl)=1+c.sl:=wrap64 (by omega) (by omega)
 simp [Tryz.f74,CfA,AV.cells,fieldAddrX,loadX_agg,takeN,Heap.get_alloc,w0]
 refine (within_call n 0 (c.st - 1) _).use ?_
 by_cases hn:0≤n∧n < c.st
 ·have hn':0≤n∧n≤c.st - 1:=by omega
  have w2:IntKind.i64.wrap (1+c.sl+n)=1+c.sl+n:=wrap64 (by omega) (by omega)
  simp [hn',Heap.get_alloc,takeN,w1,w2,fieldAddrX,loadX_agg]
  refine (confOf_call c _ _).use ?_
  simp [hc,stripeR,hn]
 ·have hn':¬(0≤n∧n≤c.st - 1):=by omega
  have hr:stripeR c n = -1:=by unfold stripeR;rw [if_neg hn]
  simp [hn',Heap.get_alloc,takeN,fieldAddrX,loadX_agg]
  refine (confOf_call c _ _).use ?_
  simp [hc,hr]
theorem stripe_call (hc:ConfP c) (n:Int) (h:Heap):CSem Tryz.prog 74 [CfA c,.int .i64 n] h fun x' h'=>x' = .int .i64 (stripeR c n)∧h'=h:=(stripe_pure hc n).call (k:=2) (by simp [CfA,snap,mapL])
end
theorem put2 {n:Int} (h0:0≤n) (h1:n < 65536):putR n 2=(le n.toNat 2,0):=by
 have hP:PutP n 2:=⟨by decide,by decide,h0⟩
 unfold putR
 rw [if_pos hP]
 have:dv n.toNat (2:Int).toNat=n.toNat / 65536:=rfl
 rw [this,if_neg (by omega)]
 rfl
def cputR (l:List Int):Txt:=(l.map fun n=>(putR n 2).1).flatten
theorem cputR_len (l:List Int):(cputR l).length≤7 * l.length:=by
 unfold cputR
 induction l with
 | nil=>simp
 | cons n l ih=>have:=putR_len n 2;simp only [List.map_cons,List.flatten_cons,List.length_append,List.length_cons];omega
structure CputI (l:List Int) (B:Nat) (i:Nat) (r:Regs) (h:Heap):Prop where
 le:i≤l.length
 r3:rg r 3 = .gpt B
 r8:rg r 8=IL l
 r9:rg r 9 = .int .i64 l.length
 r10:rg r 10 = .int .i64 i
 bld:BldAt h B (cputR (l.take i))
theorem cput_pure (l:List Int) (hl:l.length < 2 ^ 30) (hs:∀ n∈l,n < 2 ^ 62) (hne:cputR l≠[]):CPure Tryz.prog 80 [IL l] (S (cputR l)):=by
 refine CPure.of_sem (k:=1) ?_
 refine CSem.body hm Tryz.func80 rfl (by kernel_rfl) (by kernel_rfl) (by simp [Tryz.ntmps80]) ?_
 simp [Tryz.f80]
 refine Alc.right ⟨5,fun B hB=> ?_⟩
 have hb0:BldAt (Heap.empty.setG B (.bld 160 5 [] none)) B []:=⟨none,by simp,trivial⟩
 generalize Heap.empty.setG B _=H0 at hb0
 simp
 refine wpc_loop (CputI l B) (l.length - ·) ?_ 0 ?_
 ·rintro i r h ⟨le,r3,r8,r9,r10,bld⟩
  rcases Nat.lt_or_eq_of_le le with hlt|heq
  ·have hlt':(i:Int) < l.length:=by omega
   have hw1:IntKind.i64.wrap ((i:Int)+1)=(i:Int)+1:=wrap64 (by omega) (by omega)
   have htk:l.take (i+1)=l.take i ++ [l[i]]:=List.take_succ_eq_append_getElem hlt
   have hli:=hs l[i] (List.getElem_mem hlt)
   have hcl:=cputR_len (l.take i)
   have hcl2:(l.take i).length≤i:=by rw [List.length_take];omega
   have hpl:=putR_len l[i] 2
   simp [r3,r8,r9,r10,hlt,hlt',I64]
   refine (put_call l[i] 2 (by omega) h).use ?_
   simp [putA,r3,r8,r9,r10]
   refine (bwrite_sem bld (putR l[i] 2).1 (by omega)).then ?_
   rintro _ h' ⟨rfl,gh',rfl,hb'⟩
   have hc:cputR (l.take (i+1))=cputR (l.take i) ++ (putR l[i] 2).1:=by
    unfold cputR
    rw [htk,List.map_append,List.flatten_append]
    simp only [List.map_cons,List.map_nil,List.flatten_cons,List.flatten_nil,List.append_nil]
   simp [r3,r8,r9,r10,hw1]
   exact ⟨i+1,by omega,by omega,by simpa using r3,by simpa using r8,by simpa using r9,by simp,by rw [hc];exact hb'⟩
  ·subst heq
   rw [List.take_length] at bld
   simp [r3,r8,r9,r10]
   refine (bstring_sem bld hne).use ?_
   simp
 ·exact ⟨by omega,by simp,by simp,by simp,by simp,by simpa [cputR] using hb0⟩
def confW (c:Cfg):Txt:=[67,79,78,70] ++ cputR [c.k,c.m,c.sh,c.st,c.sl]
theorem confWrite_pure {c:Cfg} (hc:ConfP c):CPure Tryz.prog 56 [CfA c] (.tup [S (confW c),.int .i64 0]):=by
 refine CPure.of_sem (k:=2) ?_
 refine CSem.body hm Tryz.func56 rfl (by kernel_rfl) (by kernel_rfl) (by simp [Tryz.ntmps56]) ?_
 simp [Tryz.f56,CfA,AV.cells,fieldAddrX,loadX_agg,takeN,Heap.get_alloc]
 refine (confCheck_call c _).use ?_
 have hb:∀ (h:Heap),buildSliceX Tryz.prog h 74 5 [(0,.int .i64 c.k),(1,.int .i64 c.m),(2,.int .i64 c.sh),(3,.int .i64 c.st),(4,.int .i64 c.sl)]=some (.sl h.next 0 5 5 1,h.alloc [.int .i64 c.k,.int .i64 c.m,.int .i64 c.sh,.int .i64 c.st,.int .i64 c.sl]):=fun h=>by kernel_rfl
 simp [hc,Heap.get_alloc,takeN,CfA,fieldAddrX,loadX_agg,hb]
 have hg:=hc.1
 have e1:=put2 (n:=c.k) (by have:=hg.1;omega) (by have:=hg.2.2;omega)
 have hne:cputR [c.k,c.m,c.sh,c.st,c.sl]≠[]:=by
  intro h
  have:=congrArg List.length h
  simp [cputR,e1] at this
 have hlen:=cputR_len [c.k,c.m,c.sh,c.st,c.sl]
 simp only [List.length_cons,List.length_nil] at hlen
 refine ((cput_pure [c.k,c.m,c.sh,c.st,c.sl] (by simp) (fun n hn=> ?_) hne).call (k:=2) (by kernel_rfl)).use ?_
 ·have h1:=hc.2.2.1;have h2:=hc.2.2.2.1;have h3:=hc.2.2.2.2.1;have h4:=hg.1;have h5:=hg.2.1;have h6:=hg.2.2
  simp only [List.mem_cons,List.not_mem_nil,or_false] at hn
  rcases hn with rfl|rfl|rfl|rfl|rfl<;>omega
 have hadd:binX Tryz.prog .add 9 (S [67,79,78,70]) (S (cputR [c.k,c.m,c.sh,c.st,c.sl]))=some (S (confW c)):=by
  rw [binX_Sadd _ _ (by simp only [List.length_cons,List.length_nil];omega)];rfl
 have hadd':binX Tryz.prog .add 9 (.str ⟨#[67,79,78,70]⟩) (S (cputR [c.k,c.m,c.sh,c.st,c.sl]))=some (S (confW c)):=hadd
 simp [hadd,hadd']
theorem confWrite_call {c:Cfg} (hc:ConfP c) (h:Heap):CSem Tryz.prog 56 [CfA c] h fun x' h'=>x' = .tup [S (confW c),.int .i64 0]∧h'=h:=(confWrite_pure hc).call (k:=2) (by simp [CfA,snap,mapL])
structure IntD where
 sq:Int
 st:Int
 tx:Txt
def int0:IntD:=⟨0,0,[]⟩
def IntA (i:IntD):AV:= .agg [.int .i64 i.sq,.int .i64 i.st,S i.tx]
def imag:Txt:=[73,78,84]
def irA (s:Txt):Int×Txt×Int:=cutR (s.drop 3) 7
def irB (s:Txt):Int×Txt×Int:=cutR (irA s).2.1 2
def irC (s:Txt):Txt×Txt×Int:=takeR (irB s).2.1
def ireadR (s:Txt):IntD×Int:=if (3≤s.length∧s.take 3=imag)∧(irA s).2.2=0∧(irB s).2.2=0∧(irC s).2.2=0∧(irC s).2.1=[] then (⟨(irA s).1,(irB s).1,(irC s).1⟩,0) else (int0,5)
@[simp] theorem wpI_max3 {P:Program} {x y z:Operand} {ts:Array TypeId} {dst:Option Tmp} {K:Regs→Heap→Prop} {r:Regs} {h:Heap} : wpI P (.call ⟨.builtin .max, #[x,y,z],ts⟩) dst K r h=Has (evalX r x) fun x=>Has (evalX r y) fun y=>Has (evalX r z) fun z=>Has (max3X x y z) fun v=>K (dputX r dst v) h:=by
 simp only [wpI,calleeX,opB,spO,ghO,or_false,Gives_eq,Has_eq,Gives0_map,Gives0_bind,evalsX]
 cases evalX r x with
 | none=>simp
 | some x=>cases evalX r y with
  | none=>simp
  | some y=>cases evalX r z with
   | none=>simp
   | some z=>simp [Gives0_map]
def cmag:Txt:=[67,79,78,70]
def crRs (s:Txt):Nat→Txt
 | 0=>s.drop 4
 | i+1=>(cutR (crRs s i) 2).2.1
def crVl (s:Txt) (i:Nat):Int:=(cutR (crRs s i) 2).1
def crCell (s:Txt) (i:Nat):List AV:=(List.range 5).map fun j=>AV.int .i64 (if j < i then crVl s j else 0)
def crC (s:Txt):Cfg:=⟨crVl s 0,crVl s 1,crVl s 2,crVl s 3,crVl s 4⟩
def cfg0:Cfg:=⟨0,0,0,0,0⟩
def confRd (s:Txt):Cfg×Int:=if (4≤s.length∧s.take 4=cmag)∧(s.drop 4).length=10∧ConfP (crC s) then (crC s,0) else (cfg0,5)
def ptr5 (b:Nat):List AV:=[.ptr b 0,.ptr b 1,.ptr b 2,.ptr b 3,.ptr b 4]
structure CrI (s:Txt) (b q:Nat) (i:Nat) (r:Regs) (h:Heap):Prop where
 le:i≤5
 r2:rg r 2 = .ptr 0 0
 r4:rg r 4=S (crRs s i)
 r6:rg r 6 = .ptr b 0
 r27:rg r 27 = .sl q 0 5 5 1
 r28:rg r 28 = .int .i64 5
 r29:rg r 29 = .int .i64 i
 res:h.get 0=some [.int .i64 0,.int .i64 0,.int .i64 0,.int .i64 0,.int .i64 0]
 bc:h.get b=some (crCell s i)
 qc:h.get q=some (ptr5 b)
 ne1:b≠0
 ne2:q≠b
structure IwAt (l:List Txt) (e:Int) (pb eb:Nat) (h:Heap):Prop where
 parts:∃ x G,h.get pb=some [x]∧x.atom=true∧CapA x (l.map S) h G∧¬G pb∧¬G eb∧∀ b,G b→pb < b
 err:h.get eb=some [.int .i64 e]
 ne:pb≠eb
theorem iw1_sem {l:List Txt} {e0 f:Int} {pb eb:Nat} {h:Heap} (I:IwAt l e0 pb eb h) (t:Txt) (hl:l.length < 2 ^ 30) :
  CSem Tryz.prog 114 [S t,.int .i64 f,.ptr pb 0,.ptr eb 0] h fun x h'=>x = .tup []∧IwAt (l ++ [t]) (if e0=0 then f else e0) pb eb h'∧(∀ b cs,b < pb→h.get b=some cs→b≠eb→h'.get b=some cs):=by
 obtain ⟨⟨x,G,k1,kx,kc,kp,ke,klt⟩,k2,hne⟩:=I
 refine CSem.body hm Tryz.func114 rfl (by kernel_rfl) (by kernel_rfl) (by simp [Tryz.ntmps114]) ?_
 have hp:=Heap.get_lt k1
 have hel:=Heap.get_lt k2
 obtain ⟨x',h',G',e,w',g1,g2,g3,g4,g5,g6⟩:=append_capG (P:=Tryz.prog) (t:=51) (xt:=51) (by kernel_rfl) (w:=S t) (S_atom t) kc (by simp;omega)
 have kp':h'.get pb=some [x]:=(g2 pb hp kp).trans k1
 have ke':h'.get eb=some [.int .i64 e0]:=(g2 eb hel ke).trans k2
 have hp':=Heap.get_lt kp'
 have hel':=Heap.get_lt ke'
 have hG'p:¬G' pb:=fun hg=>(g1 pb hg).elim kp (fun h=>by omega)
 have hG'e:¬G' eb:=fun hg=>(g1 eb hg).elim ke (fun h=>by omega)
 have hlt':∀ b,G' b→pb < b:=fun b hb=>(g1 b hb).elim (klt b) (fun h=>by omega)
 have ke2:(h'.put pb [x']).get eb=some [.int .i64 e0]:=by rw [Heap.get_put _ _ _ _ hp',if_neg (Ne.symm hne)];exact ke'
 simp [Tryz.f114,k1,buildSlice_one (P:=Tryz.prog) (t:=51) (xt:=51) (by kernel_rfl) (S_atom t),e,g6,kp',ke2]
 have base:∀ (v:Int),IwAt (l ++ [t]) v pb eb ((h'.put pb [x']).put eb [.int .i64 v]):=fun v =>
  ⟨⟨x',G',by rw [Heap.get_put _ _ _ _ (by simpa using hel'),if_neg hne,Heap.get_put _ _ _ _ hp',if_pos rfl],g6,by
   rw [List.map_append]
   exact w'.keep fun b hb=>by
    rw [Heap.get_put _ _ _ _ (by simpa using hel'),if_neg (fun e:b=eb=>hG'e (e ▸ hb)),Heap.get_put _ _ _ _ hp',if_neg (fun e:b=pb=>hG'p (e ▸ hb))],hG'p,hG'e,hlt'⟩,by rw [Heap.get_put _ _ _ _ (by simpa using hel'),if_pos rfl],hne⟩
 have fr:∀ b cs,b < pb→h.get b=some cs→b≠eb→(h'.put pb [x']).get b=some cs:=fun b cs hb hg hbe=>by
  rw [Heap.get_put _ _ _ _ hp',if_neg (by omega),g2 b (Heap.get_lt hg) (fun hG=>by have:=klt b hG;omega)]
  exact hg
 by_cases h0:e0=0
 ·subst h0
  simp [ke2]
  refine ⟨base f,fun b cs hb hg hbe=> ?_⟩
  rw [Heap.get_put _ _ _ _ (by simpa using hel'),if_neg hbe]
  exact fr b cs hb hg hbe
 ·simp [h0]
  refine ⟨⟨⟨x',G',by rw [Heap.get_put _ _ _ _ hp',if_pos rfl],g6,by
   rw [List.map_append]
   exact w'.keep fun b hb=>by rw [Heap.get_put _ _ _ _ hp',if_neg (fun e:b=pb=>hG'p (e ▸ hb))],hG'p,hG'e,hlt'⟩,by rw [Heap.get_put _ _ _ _ hp',if_neg (Ne.symm hne)];exact ke',hne⟩,fr⟩
def iwParts (i:IntD):List (Txt×Int):=[(imag,0),putR i.sq 7,putR i.st 2,textR i.tx]
def iwriteR (i:IntD):Txt×Int:=if err1 ((iwParts i).map (·.2))=0 then (((iwParts i).map (·.1)).flatten,0) else ([],err1 ((iwParts i).map (·.2)))
def iwriteA (i:IntD):AV:= .tup [S (iwriteR i).1,.int .i64 (iwriteR i).2]
theorem CapA.snap {x:AV} {l:List Txt} {h:Heap} {G:Nat→Prop} (c:CapA x (l.map S) h G):snap h true 2 x=some (SL l):=by
 rcases c with ⟨rfl,h0,_⟩|⟨wb,c,cells,rfl,hg,hcl,hle,htk,_⟩
 ·have:l=[]:=by simpa using h0
  subst this
  rfl
 ·rw [List.length_map] at hle htk ⊢
  refine snap_sl (f:=S) (g:=S) hg ?_ rfl (fun x _=>by simp)
  have:0+l.length≤cells.length:=by omega
  simp [takeN,htk]
  omega
structure IntB (i:IntD):Prop where
 sq:i.sq < 2 ^ 62
 st:i.st < 2 ^ 62
 tx:i.tx.length < 2 ^ 46
theorem iwrite_pure (i:IntD) (hi:IntB i):CPure Tryz.prog 84 [IntA i] (iwriteA i):=by
 refine CPure.of_sem (k:=2) ?_
 refine CSem.body hm Tryz.func84 rfl (by kernel_rfl) (by kernel_rfl) (by simp [Tryz.ntmps84]) ?_
 simp [Tryz.f84,IntA,AV.cells,Heap.get_alloc,Heap.get_put]
 generalize hH:Heap.put _ 2 _=H
 have k0:H.get 0=some [.int .i64 i.sq,.int .i64 i.st,S i.tx]:=by
  rw [←hH,Heap.get_put _ _ _ _ (by simp [Heap.empty]),if_neg (by decide)]
  exact Heap.get_alloc_old (Heap.get_alloc_old (Heap.get_alloc_same Heap.empty _))
 have k1:H.get 1=some [.nilSl]:=by
  rw [←hH,Heap.get_put _ _ _ _ (by simp [Heap.empty]),if_neg (by decide)]
  exact Heap.get_alloc_old (Heap.get_alloc_same (Heap.alloc Heap.empty _) _)
 have k2:H.get 2=some [.int .i64 0]:=by rw [←hH,Heap.get_put _ _ _ _ (by simp [Heap.empty]),if_pos rfl]
 clear hH
 have I0:IwAt [] 0 1 2 H:=⟨⟨.nilSl,fun _=>False,k1,rfl,.inl ⟨rfl,rfl,fun _ h=>h⟩,fun h=>h,fun h=>h,fun _ h=>h.elim⟩,k2,by decide⟩
 refine (iw1_sem I0 imag (by simp)).then ?_
 rintro _ h1 ⟨rfl,I1,f1⟩
 have q1:=f1 0 _ (by decide) k0 (by decide)
 simp at I1
 simp [fieldAddrX,q1]
 refine (put_call i.sq 7 (by have:=hi.sq;omega) h1).use ?_
 simp [putA]
 refine (iw1_sem (f:=(putR i.sq 7).2) I1 (putR i.sq 7).1 (by simp)).then ?_
 rintro _ h2 ⟨rfl,I2,f2⟩
 have q2:=f2 0 _ (by decide) q1 (by decide)
 simp at I2
 simp [fieldAddrX,q2]
 refine (put_call i.st 2 (by have:=hi.st;omega) h2).use ?_
 simp [putA]
 refine (iw1_sem (f:=(putR i.st 2).2) I2 (putR i.st 2).1 (by simp)).then ?_
 rintro _ h3 ⟨rfl,I3,f3⟩
 have q3:=f3 0 _ (by decide) q2 (by decide)
 simp [fieldAddrX,q3]
 refine (text_call i.tx hi.tx h3).use ?_
 simp [textA]
 refine (iw1_sem (f:=(textR i.tx).2) I3 (textR i.tx).1 (by simp)).then ?_
 rintro _ h4 ⟨rfl,I4,f4⟩
 have hE:(if (if (putR i.sq 7).2=0 then (putR i.st 2).2 else (putR i.sq 7).2)=0 then (textR i.tx).2 else (if (putR i.sq 7).2=0 then (putR i.st 2).2 else (putR i.sq 7).2))=err1 ((iwParts i).map (·.2)):=by
  simp only [iwParts,List.map_cons,List.map_nil,err1]
  by_cases h1:(putR i.sq 7).2=0<;>by_cases h2:(putR i.st 2).2=0<;>by_cases h3:(textR i.tx).2=0<;>simp [h1,h2,h3]
 have hP:[imag] ++ [(putR i.sq 7).1] ++ [(putR i.st 2).1] ++ [(textR i.tx).1]=(iwParts i).map (·.1):=rfl
 obtain ⟨⟨x,G,p1,px,pc,_⟩,p2,_⟩:=I4
 rw [hE] at p2
 have hP2:[imag,(putR i.sq 7).1] ++ [(putR i.st 2).1] ++ [(textR i.tx).1]=(iwParts i).map (·.1):=rfl
 rw [hP2] at pc
 have hsn:=pc.snap
 by_cases he:err1 ((iwParts i).map (·.2))=0
 rotate_left
 ·simp [p2,he]
  refine wpc_draw 3 (by kernel_rfl) ?_
  simp [p2,iwriteA,iwriteR,he]
 have hfl:((iwParts i).map (·.1)).flatten.length≤70000:=by
  have a1:=putR_len i.sq 7
  have a2:=putR_len i.st 2
  have a3:(textR i.tx).1.length≤65538:=by
   unfold textR
   split<;>simp<;>omega
  simp only [iwParts,List.map_cons,List.map_nil,List.flatten_cons,List.flatten_nil,List.length_append,List.length_nil,show imag.length=3 from rfl]
  omega
 simp [p2,he,p1]
 refine (join_callS ((iwParts i).map (·.1)) [] (by simp [iwParts]) (by rw [join_empty];omega) hsn).use ?_
 simp [iwriteA,iwriteR,he,join_empty]
theorem iwrite_call (i:IntD) (hi:IntB i) (h:Heap):CSem Tryz.prog 84 [IntA i] h fun x' h'=>x'=iwriteA i∧h'=h:=(iwrite_pure i hi).call (k:=2) (by simp [IntA,snap_agg,mapL])
end Go.Proofs.YtmbndhciflilbaaGreatDoor.X
