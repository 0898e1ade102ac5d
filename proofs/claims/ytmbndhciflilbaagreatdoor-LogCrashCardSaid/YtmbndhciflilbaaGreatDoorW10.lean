/-
  LogCrash.
-/
import Derived.Test.YtmbndhciflilbaaGreatDoorW07
import Derived.Test.YtmbndhciflilbaaGreatDoorV89
namespace Go.Proofs.YtmbndhciflilbaaGreatDoor.X
open Go.RowKit F
set_option maxRecDepth 100000
set_option linter.unusedSimpArgs false
set_option linter.unusedVariables false
def Btw (A B U:Txt):Prop:=(A <+: U∧U <+: B)∨(B <+: U∧U <+: A)
theorem Btw.le {A B U:Txt} (h:Btw A B U) {n:Nat} (ha:A.length≤n) (hb:B.length≤n):U.length≤n:=by
 rcases h with ⟨_,h⟩|⟨_,h⟩<;>have:=h.length_le<;>omega
theorem Btw.up {A B U:Txt} (h:Btw A B U) (hl:A.length≤B.length):A <+: U∧U <+: B:=by
 rcases h with h|⟨h1,h2⟩
 ·exact h
 ·have e1:=h1.length_le
  have e2:=h2.length_le
  have e3:U=A:=h2.eq_of_length ω
  have e4:B=U:=h1.eq_of_length ω
  subst e3 e4
  exact ⟨List.prefix_refl _,List.prefix_refl _⟩
theorem Btw.dn {A B U:Txt} (h:Btw A B U) (hl:B.length < A.length):B <+: U∧U <+: A:=by
 rcases h with ⟨h1,h2⟩|h
 ·have e1:=h1.length_le
  have e2:=h2.length_le
  omega
 ·exact h
theorem Ac0 {s t:Txt} (h:t <+: s):t.length≤s.length∧s.take t.length=t:=⟨h.length_le,(List.prefix_iff_eq_take.1 h).symm⟩
section
variable {p q nb:Nat} {cells:List AV} {ps:List Nat} {pv lb wb f count mb bo bc k:Nat} {c:Cfg} {a:Arr} {sq:Int} {E:Nat→Prop} {hp h':Heap} {L:List Txt} {T:Txt} {z:Nat}
structure LgU (p q nb:Nat) (cells:List AV) (ps:List Nat) (pv lb wb f count:Nat) (c:Cfg) (z:Nat) (a:Arr) (sq:Int) (L:List Txt) (T:Txt) (E:Nat→Prop) (hp:Heap):Prop where
 H:LawV p q nb cells ps pv c 0 a sq E hp
 G:LF c a sq L f count (prts z T count)
 A:LgB lb wb pv f count (z:Nat) (prts z T count) hp
 le:T.length≤count * z
 h1:E lb
 h2:E wb
 hC:Ax c
 hz:(z:Int)=Aw c
 h6:c.st≤6
theorem LgU.put (S':LgU p q nb cells ps pv lb wb f count c z a sq L T E hp) {b:Nat} (hb:E b) (hl:b≠lb) (hw:b≠wb) (cs:List AV) {zs:List AV} (hg:hp.get b=some zs):LgU p q nb cells ps pv lb wb f count c z a sq L T E (hp.put b cs) :=
 ⟨S'.H.put hb cs hg,S'.G,S'.A.keep (Heap.Aq hg (Ne.symm hl)) (Heap.Aq hg (Ne.symm hw)),S'.le,S'.h1,S'.h2,S'.hC,S'.hz,S'.h6⟩
theorem LgU.box (S':LgU p q nb cells ps pv lb wb f count c z a sq L T E hp) (zs ys:List AV):LgU p q nb cells ps pv lb wb f count c z a sq L T (fun x=>E x∨x=hp.next) ((hp.alloc zs).put hp.next ys)∧((hp.alloc zs).put hp.next ys).get hp.next=some ys∧Fr' E hp ((hp.alloc zs).put hp.next ys)∧∀ x,E x→x≠hp.next:=by
 obtain ⟨H,g,F⟩:=S'.H.box zs ys
 exact ⟨⟨H,S'.G,S'.A.keep (F lb S'.h1) (F wb S'.h2),S'.le,.inl S'.h1,.inl S'.h2,S'.hC,S'.hz,S'.h6⟩,g,F,fun x hx=>Nat.ne_of_lt (S'.H.lt hx)⟩
theorem LgU.less (S':LgU p q nb cells ps pv lb wb f count c z a sq L T E hp) {E':Nat→Prop} (h:∀ x,E' x→E x) (h1:E' lb) (h2:E' wb):LgU p q nb cells ps pv lb wb f count c z a sq L T E' hp :=
 ⟨S'.H.less h,S'.G,S'.A,S'.le,h1,h2,S'.hC,S'.hz,S'.h6⟩
theorem LgS.u (S':LgS p q nb cells ps pv lb wb f count c z a sq L T E hp):LgU p q nb cells ps pv lb wb f count c z a sq L T E hp :=
 ⟨S'.H,S'.G,S'.A,S'.le,S'.h1,S'.h2,S'.hC,S'.hz,S'.h6⟩
theorem LgU.fuse (S':LgU p q nb cells ps pv lb wb f count c z a sq L T E hp) (n:Int) (hn:n < 2 ^ 63) :
  CSem Tryz.prog 21 [.ptr p 0,.int .i64 n] hp fun x h'=>LgU p q nb cells ps pv lb wb f count c z (a.fuse n) sq L T E h'∧Fr' E hp h':=by
 refine (S'.H.fuse n hn).mono ?_
 rintro x h' ⟨_,H,F⟩
 obtain ⟨e1,e2,_⟩:=Zf a n
 have hal:∀ d:Nat,(a.fuse n).alive (d:Int)=a.alive (d:Int):=fun d=>by unfold Arr.alive Arr.on?;rw [e1]
 obtain ⟨⟨g,I,e,hL⟩,hdn,hq,hll⟩:=S'.G.v
 exact ⟨⟨H,⟨⟨⟨g,I.fuse n,e,hL⟩,by rw [e2];exact hdn,fun y hy=>hq y (by rw [e1] at hy;exact hy),hll⟩,by rw [e1];exact S'.G.len,fun d hd=>by rw [hal];exact S'.G.al d (by rw [e1] at hd;exact hd),S'.G.ll,S'.G.fc,S'.G.pl,S'.G.at_,S'.G.s0⟩,S'.A.keep (F lb S'.h1) (F wb S'.h2),S'.le,S'.h1,S'.h2,S'.hC,S'.hz,S'.h6⟩,F⟩
structure CrQ (p q nb:Nat) (cells:List AV) (ps:List Nat) (pv f count:Nat) (c:Cfg) (z:Nat) (k:Nat) (a:Arr) (sq:Int) (U1 U2:Txt) (E:Nat→Prop) (hp:Heap):Prop where
 H:LawV p q nb cells ps pv c k a sq E hp
 hk:k < 2 ^ 20
 len:(a.disks.length:Int)=c.k+c.m
 al:∀ d:Nat,d < a.disks.length→a.alive (d:Int)=true
 ex:∃ L1 L2,RS c a L1 L2 900∧(L1.length:Int)=c.st∧(L2.length:Int)=c.st∧(∀ i,i < count→L1[f+i]? = (prts z U1 count)[i]?)∧(∀ i,i < count→L2[f+i]? = (prts z U2 count)[i]?)
theorem LgU.cr (S':LgU p q nb cells ps pv lb wb f count c z a sq L T E hp) (hs:sq < 900):CrQ p q nb cells ps pv f count c z 0 a sq T T E hp :=
 ⟨S'.H,ν,S'.G.len,S'.G.al,L,L,S'.G.v.rs ⟨hs,ν⟩ L,S'.G.ll,S'.G.ll,S'.G.at_,S'.G.at_⟩
theorem LgU.dn (S':LgU p q nb cells ps pv lb wb f count c z a sq L T E hp):a.down=false:=S'.G.v.dn
theorem CutQ.cr {Af Bf:Txt} {lo:Nat} (S':LgU p q nb cells ps pv lb wb f count c z a sq L T E hp) (Q:CutQ 900 p q nb cells ps pv lb f count c a L E wb z Af Bf lo hp h') {R:Txt→Prop} (hU:∀ j,lo≤j→∃ U,mixP z Af Bf count j=prts z U count∧R U) :
  ∃ k' a' sq' U1 U2,CrQ p q nb cells ps pv f count c z k' a' sq' U1 U2 E h'∧R U1∧R U2∧a'.down=true∧Fr' (fun x=>E x∧x≠wb) hp h':=by
 obtain ⟨_,a',k',sq',L1,L2,j,H,hk,hdn,S,R1,hj,_,l1,l2,m1,m2,_,_,F⟩:=Q
 have pick:∀ X:List Txt,((∀ i,i < count→X[f+i]? = (mixP z Af Bf count j)[i]?)∨(∀ i,i < count→X[f+i]? = (mixP z Af Bf count (j+1))[i]?))→∃ U,(∀ i,i < count→X[f+i]? = (prts z U count)[i]?)∧R U:=fun X h=>by
  rcases h with h|h
  ·obtain ⟨U,e,r⟩:=hU j hj
   exact ⟨U,by rw [e] at h;exact h,r⟩
  ·obtain ⟨U,e,r⟩:=hU (j+1) ω
   exact ⟨U,by rw [e] at h;exact h,r⟩
 obtain ⟨U1,e1,r1⟩:=pick L1 m1
 obtain ⟨U2,e2,r2⟩:=pick L2 m2
 exact ⟨k',a',sq',U1,U2,⟨H,hk,by rw [S.len];exact S'.G.len,fun d hd=>by rw [S.al];exact S'.G.al d (by rw [←S.len];exact hd),L1,L2,R1,l1,l2,e1,e2⟩,r1,r2,hdn,F⟩
def LuQ (p q nb:Nat) (cells:List AV) (ps:List Nat) (pv lb wb f count:Nat) (c:Cfg) (z:Nat) (sq:Int) (T T2:Txt) (e:Int) (E:Nat→Prop) (hp:Heap) (x:AV) (h':Heap):Prop :=
 (x = .int .i64 e∧(∃ a' sq' L',LgU p q nb cells ps pv lb wb f count c z a' sq' L' T2 E h'∧sq'≤sq+count)∧Fr' (fun x=>E x∧x≠wb) hp h') ∨
 (x = .int .i64 9∧∃ k' a' sq' U1 U2,CrQ p q nb cells ps pv f count c z k' a' sq' U1 U2 E h'∧Btw T T2 U1∧Btw T T2 U2∧a'.down=true∧Fr' (fun x=>E x∧x≠wb) hp h')
theorem LgU.append (S':LgU p q nb cells ps pv lb wb f count c z a sq L T E hp) (hz0:0 < z) (hs:sq+count < 900) {s:Txt} (hsl:s.length < 2 ^ 63) :
  CSem Tryz.prog 14 [.ptr lb 0,S s] hp (LuQ p q nb cells ps pv lb wb f count c z sq T (if s.length≤count * z - T.length then T ++ s else T) (if s.length≤count * z - T.length then 0 else 11) E hp):=by
 have hle:=S'.le
 refine (Nf S'.H S'.hC S'.hz S'.h6 S'.G S'.le S'.A S'.h1 S'.h2 (B:=900) ⟨hs,ν⟩ s hsl).mono ?_
 rintro x h' (⟨h,rfl,rfl⟩|⟨h,rfl,a',sq',L',H',G',A',F,O,hq,St⟩|⟨h,rfl,Q⟩)
 ·rw [if_neg ω,if_neg ω]
  exact .inl ⟨rfl,⟨a,sq,L,S',ω⟩,fun _ _=>rfl⟩
 ·rw [if_pos h,if_pos h]
  exact .inl ⟨rfl,⟨a',sq',L',⟨H',G',A',by rw [List.length_append];omega,S'.h1,S'.h2,S'.hC,S'.hz,S'.h6⟩,hq⟩,F⟩
 ·rw [if_pos h]
  refine .inr ⟨rfl,CutQ.cr S' Q fun j hj=> ?_⟩
  obtain ⟨m,h1,h2⟩:=mix_up (U:=s) (count:=count) hz0 hj (by rw [List.length_append];omega)
  refine ⟨_,h2,.inl ⟨?_,List.take_prefix _ _⟩⟩
  rw [List.prefix_take_iff]
  exact ⟨List.prefix_append _ _,h1⟩
theorem LgU.A8x (S':LgU p q nb cells ps pv lb wb f count c z a sq L T E hp) (hz0:0 < z) (hs:sq+count < 900) (n:Int) :
  CSem Tryz.prog 16 [.ptr lb 0,.int .i64 n] hp (LuQ p q nb cells ps pv lb wb f count c z sq T (if n < 0∨(T.length:Int) < n then T else T.take n.toNat) (if n < 0∨(T.length:Int) < n then 1 else 0) E hp):=by
 have hle:=S'.le
 refine (Qh S'.H S'.hC S'.hz S'.h6 S'.G S'.le S'.A S'.h1 S'.h2 (B:=900) ⟨hs,ν⟩ n).mono ?_
 rintro x h' (⟨h,rfl,rfl⟩|⟨m,rfl,hm',rfl,a',sq',L',H',G',A',F,O,hq,St⟩|⟨m,rfl,hm',rfl,Q⟩)
 ·rw [if_pos h,if_pos h]
  exact .inl ⟨rfl,⟨a,sq,L,S',ω⟩,fun _ _=>rfl⟩
 ·rw [if_neg ω,if_neg ω,Int.toNat_natCast]
  exact .inl ⟨rfl,⟨a',sq',L',⟨H',G',A',by rw [List.length_take];omega,S'.h1,S'.h2,S'.hC,S'.hz,S'.h6⟩,hq⟩,F⟩
 ·rw [if_neg ω,Int.toNat_natCast]
  refine .inr ⟨rfl,CutQ.cr S' Q fun j hj=> ?_⟩
  refine ⟨_,mix_dn hz0,.inr ⟨?_,List.take_prefix _ _⟩⟩
  rw [List.prefix_take_iff]
  exact ⟨List.take_prefix _ _,by rw [List.length_take];omega⟩
theorem LgS.opn (H:LawV p q nb cells ps pv c 0 a sq E hp) (hC:Ax c) (hz:(z:Int)=Aw c) (h6:c.st≤6) (W:Wh c a sq L) (hll:(L.length:Int)=c.st) (s0:0≤sq) (hc0:0 < count) (hfc:((f+count:Nat):Int)≤c.st) (hT:T.length≤count * z) (hP:∀ i,i < count→L[f+i]? = (prts z T count)[i]?) :
  CSem Tryz.prog 12 [.ptr pv 0,.int .i64 f,.int .i64 count] hp fun x h'=> ∃ lb' wb',x = .tup [.ptr lb' 0,.int .i64 0]∧LgS p q nb cells ps pv lb' wb' f count c z a sq L T (fun x=>(E x∨x=lb')∨x=wb') h'∧Fr' E hp h'∧∀ x,E x→x≠lb'∧x≠wb':=by
 refine (Te H hC hz W hll hc0 hfc).mono ?_
 rintro x h' ⟨lb',wb',rfl,H',A',F,hne⟩
 have e:(L.drop f).take count=prts z T count:=by
  apply List.ext_getElem?
  intro i
  by_cases hi:i < count
  ·rw [List.getElem?_take_of_lt hi,List.getElem?_drop,hP i hi]
  ·rw [List.getElem?_eq_none (by rw [List.length_take];omega),List.getElem?_eq_none (by rw [Nc];omega)]
 rw [e] at A'
 exact ⟨lb',wb',rfl,⟨H',LF.of W hll s0 hfc (Nc ..) hP,A',hT,W.lf,.inl (.inr rfl),.inr rfl,hC,hz,h6⟩,F,hne⟩
theorem CrQ.A1v {sq:Int} {U1 U2:Txt} (Q:CrQ p q nb cells ps pv f count c z k a sq U1 U2 E hp) (hst:c.st≤6) (keep:List Bool) (hkl:keep.length < 2 ^ 62) :
  CSem Tryz.prog 23 [.ptr p 0,OL keep] hp fun x h'=>x = .int .i64 0∧Fr' E hp h'∧CSem Tryz.prog 24 [.ptr p 0,.int .i64 7] h' fun y h2=> ∃ pw a' sq' L U,y = .tup [.ptr pw 0,.int .i64 0]∧LawV p q nb cells ps pw c 0 a' sq' E h2∧Fr' E hp h2∧Wh c a' sq' L∧(L.length:Int)=c.st∧0≤sq'∧sq'≤900∧(∀ i,i < count→L[f+i]? = (prts z U count)[i]?)∧(U=U1∨U=U2):=by
 obtain ⟨L1,L2,R,l1,l2,e1,e2⟩:=Q.ex
 have hk:=Q.hk
 refine (Q.H.B3 ω keep hkl).mono ?_
 rintro x h' ⟨rfl,H',F⟩
 obtain ⟨o1,o2,o3,sq',L',o4,o5,o6,W,o7⟩:=R.again Q.len Q.al keep
 refine ⟨rfl,F,(H'.opened hst o1 o2 o4 W.v.qt (by rw [o3];exact (Arr.Ph _ _).symm)).mono ?_⟩
 rintro y h2 ⟨pw,rfl,H2,F2,_⟩
 have F3:Fr' E hp h2:=F.trans (F2.less fun x hx=> .inl hx)
 rcases o7 with rfl|rfl
 ·exact ⟨pw,_,sq',L',U1,rfl,H2.less fun x hx=> .inl hx,F3,W,l1,o5,o6,e1,.inl rfl⟩
 ·exact ⟨pw,_,sq',L',U2,rfl,H2.less fun x hx=> .inl hx,F3,W,l2,o5,o6,e2,.inr rfl⟩
end
end Go.Proofs.YtmbndhciflilbaaGreatDoor.X
