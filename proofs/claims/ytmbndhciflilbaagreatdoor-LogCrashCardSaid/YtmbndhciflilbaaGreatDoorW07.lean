/-
  LogScripts: calls, in any order of what is compared.
-/
import Derived.Test.YtmbndhciflilbaaGreatDoorW06
import Derived.Test.YtmbndhciflilbaaGreatDoorXRowL
namespace Go.Proofs.YtmbndhciflilbaaGreatDoor.X
open Go.RowKit F
set_option maxRecDepth 100000
set_option linter.unusedSimpArgs false
set_option linter.unusedVariables false
section
variable {p q nb:Nat} {cells:List AV} {ps:List Nat} {pv lb wb f count mb bo bc:Nat} {c:Cfg} {a:Arr} {sq:Int} {E:Nat→Prop} {hp h':Heap} {L:List Txt} {T:Txt} {z:Nat}
theorem LgS.put (S':LgS p q nb cells ps pv lb wb f count c z a sq L T E hp) {b:Nat} (hb:E b) (hl:b≠lb) (hw:b≠wb) (cs:List AV) {zs:List AV} (hg:hp.get b=some zs):LgS p q nb cells ps pv lb wb f count c z a sq L T E (hp.put b cs) :=
 ⟨S'.H.put hb cs hg,S'.G,S'.A.keep (Heap.Aq hg (Ne.symm hl)) (Heap.Aq hg (Ne.symm hw)),S'.le,S'.lf,S'.h1,S'.h2,S'.hC,S'.hz,S'.h6⟩
theorem LgS.box (S':LgS p q nb cells ps pv lb wb f count c z a sq L T E hp) (zs ys:List AV):LgS p q nb cells ps pv lb wb f count c z a sq L T (fun x=>E x∨x=hp.next) ((hp.alloc zs).put hp.next ys)∧((hp.alloc zs).put hp.next ys).get hp.next=some ys∧Fr' E hp ((hp.alloc zs).put hp.next ys)∧∀ x,E x→x≠hp.next:=by
 obtain ⟨H,g,F⟩:=S'.H.box zs ys
 exact ⟨⟨H,S'.G,S'.A.keep (F lb S'.h1) (F wb S'.h2),S'.le,S'.lf,.inl S'.h1,.inl S'.h2,S'.hC,S'.hz,S'.h6⟩,g,F,fun x hx=>Nat.ne_of_lt (S'.H.lt hx)⟩
def LsJ (p q nb:Nat) (cells:List AV) (ps:List Nat) (pv lb wb f count mb bo:Nat) (c:Cfg) (z:Nat) (sq:Int) (L:List Txt) (T T2:Txt) (most:Int) (o:LOp) (E:Nat→Prop) (hp:Heap) (d3 d7:Bool) (h:Heap):Prop :=
 (∃ a' sq' L',LgS p q nb cells ps pv lb wb f count c z a' sq' L' (if d3 then T2 else T) E h∧(d3=false→sq'≤sq)∧sq'≤sq+count∧OutL L L' f count)∧h.get mb=some [S (if d7 then T2 else T),.int .i64 most]∧h.get bo=some (LOpC o)∧Fr' (fun x=>E x∧x≠wb∧x≠mb) hp h
theorem LsJ.of {T2:Txt} {most:Int} {o:LOp} (S':LgS p q nb cells ps pv lb wb f count c z a sq L T E hp) (gm:hp.get mb=some [S T,.int .i64 most]) (go:hp.get bo=some (LOpC o)):LsJ p q nb cells ps pv lb wb f count mb bo c z sq L T T2 most o E hp false false hp :=
 ⟨⟨a,sq,L,S',fun _=>Int.le_refl _,ω,OutL.refl _ _ _⟩,gm,go,Fr'.refl _ _⟩
theorem LsJ.log {T2:Txt} {most:Int} {o:LOp} {d7:Bool} {h h1:Heap} {sq1:Int} {L1 L2:List Txt} {a2:Arr} {sq2:Int} (J:LsJ p q nb cells ps pv lb wb f count mb bo c z sq L T T2 most o E hp false d7 h) (h1s:sq1≤sq) (O1:OutL L L1 f count) (S2:LgS p q nb cells ps pv lb wb f count c z a2 sq2 L2 T2 E h1) (F2:Fr' (fun x=>E x∧x≠wb) h h1) (O2:OutL L1 L2 f count) (hs2:sq2≤sq1+count) (em:E mb) (eo:E bo) (nm:mb≠wb) (no:bo≠wb):LsJ p q nb cells ps pv lb wb f count mb bo c z sq L T T2 most o E hp true d7 h1 :=
 ⟨⟨a2,sq2,L2,S2,(fun h=>by cases h),ω,O1.trans O2⟩,(F2 mb ⟨em,nm⟩).trans J.2.1,(F2 bo ⟨eo,no⟩).trans J.2.2.1,J.2.2.2.trans (F2.less fun x hx=>⟨hx.1,hx.2.1⟩)⟩
theorem LsJ.model {T2:Txt} {most:Int} {o:LOp} {d3:Bool} {h h1:Heap} (J:LsJ p q nb cells ps pv lb wb f count mb bo c z sq L T T2 most o E hp d3 false h) (em:E mb) (ne:mb≠lb∧mb≠wb∧mb≠bo) (e:h1=h.put mb [S T2,.int .i64 most]):LsJ p q nb cells ps pv lb wb f count mb bo c z sq L T T2 most o E hp d3 true h1:=by
 obtain ⟨⟨a',sq',L',S',x1,x2,x3⟩,g,go,F⟩:=J
 subst e
 exact ⟨⟨a',sq',L',S'.put em ne.1 ne.2.1 _ g,x1,x2,x3⟩,Heap.Ak g,(Heap.Aq g (Ne.symm ne.2.2)).trans go,F.trans fun x hx=>Heap.Aq g hx.2.2⟩
theorem LsJ.same {T2:Txt} {most:Int} {o:LOp} {d3:Bool} {h:Heap} (J:LsJ p q nb cells ps pv lb wb f count mb bo c z sq L T T2 most o E hp d3 false h) (e:T2=T):LsJ p q nb cells ps pv lb wb f count mb bo c z sq L T T2 most o E hp d3 true h:=by
 subst e
 exact ⟨J.1,J.2.1,J.2.2⟩
end
end Go.Proofs.YtmbndhciflilbaaGreatDoor.X
