/-
  A log that K9, by its text.
-/
import Derived.Test.YtmbndhciflilbaaGreatDoorV98
namespace Go.Proofs.YtmbndhciflilbaaGreatDoor.X
open Go.RowKit F
set_option maxRecDepth 100000
set_option linter.unusedSimpArgs false
set_option linter.unusedVariables false
structure LgS (p q nb:Nat) (cells:List AV) (ps:List Nat) (pv lb wb f count:Nat) (c:Cfg) (z:Nat) (a:Arr) (sq:Int) (L:List Txt) (T:Txt) (E:Nat→Prop) (hp:Heap):Prop where
 H:LawV p q nb cells ps pv c 0 a sq E hp
 G:LF c a sq L f count (prts z T count)
 A:LgB lb wb pv f count (z:Nat) (prts z T count) hp
 le:T.length≤count * z
 lf:a.left < 0
 h1:E lb
 h2:E wb
 hC:Ax c
 hz:(z:Int)=Aw c
 h6:c.st≤6
section
variable {p q nb:Nat} {cells:List AV} {ps:List Nat} {pv lb wb f count:Nat} {c:Cfg} {a:Arr} {sq:Int} {E:Nat→Prop} {hp:Heap} {L:List Txt} {T:Txt} {z:Nat}
theorem LgS.A3v (S:LgS p q nb cells ps pv lb wb f count c z a sq L T E hp):0 < z∧z < 2 ^ 13∧count≤6∧count * z < 2 ^ 20∧txtL z (prts z T count)=T:=by
 have hC:=S.hC
 have k0:=Bd hC
 have hcap:=Lc hC
 have hz:=S.hz
 have hsz:8≤c.k * c.sh:=by
  have hkk:=hC.2.2.1
  have:1 * 8≤c.k * c.sh:=Int.mul_le_mul ω ω ω ω
  omega
 have hfc:=S.G.fc
 have h6:=S.h6
 have hz0:0 < z:=by omega
 have hz20:z < 2 ^ 13:=by have:=hC.2.2.2.2.2;omega
 have hc:count≤6:=by omega
 have hcz:count * z≤6 * 2 ^ 13:=Nat.mul_le_mul hc (Nat.le_of_lt hz20)
 exact ⟨hz0,hz20,hc,ω,Pj hz0 count T S.le⟩
theorem LgS.text (S':LgS p q nb cells ps pv lb wb f count c z a sq L T E hp):CSem Tryz.prog 18 [.ptr lb 0] hp fun x h'=>x=S T∧h'=hp:=by
 obtain ⟨_,_,hc,hcz,e⟩:=S'.A3v
 have:=Pm S'.A ω (by rw [e];have:=S'.le;omega)
 rwa [e] at this
theorem LgS.room (S':LgS p q nb cells ps pv lb wb f count c z a sq L T E hp):CSem Tryz.prog 19 [.ptr lb 0] hp fun x h'=>x = .int .i64 ((count * z - T.length:Nat):Int)∧h'=hp:=by
 obtain ⟨_,_,hc,hcz,e⟩:=S'.A3v
 have:=Zj S'.A ω ω (by rw [e];exact S'.le)
 rwa [e] at this
theorem LgS.append (S':LgS p q nb cells ps pv lb wb f count c z a sq L T E hp) (hs:sq+count < 990) {s:Txt} (hfit:s.length≤count * z - T.length) :
  CSem Tryz.prog 14 [.ptr lb 0,S s] hp fun x h'=>x = .int .i64 0∧∃ a' sq' L',LgS p q nb cells ps pv lb wb f count c z a' sq' L' (T ++ s) E h'∧Fr' (fun x=>E x∧x≠wb) hp h'∧OutL L L' f count∧sq'≤sq+count:=by
 obtain ⟨_,_,hc,hcz,_⟩:=S'.A3v
 have hle:=S'.le
 refine (Nf S'.H S'.hC S'.hz S'.h6 S'.G S'.le S'.A S'.h1 S'.h2 (B:=990) ⟨hs,ν⟩ s ω).mono ?_
 rintro x h' (⟨h,_⟩|⟨_,rfl,a',sq',L',H',G',A',F,O,hq,St⟩|⟨_,_,hl,_⟩)
 ·omega
 ·exact ⟨rfl,a',sq',L',⟨H',G',A',by rw [List.length_append];omega,St.neg S'.lf,S'.h1,S'.h2,S'.hC,S'.hz,S'.h6⟩,F,O,hq⟩
 ·exact (hl S'.lf).elim
theorem LgS.full (S':LgS p q nb cells ps pv lb wb f count c z a sq L T E hp) (hs:sq+count < 990) {s:Txt} (hsl:s.length < 2 ^ 63) (hfit:count * z - T.length < s.length) :
  CSem Tryz.prog 14 [.ptr lb 0,S s] hp fun x h'=>x = .int .i64 11∧h'=hp:=by
 refine (Nf S'.H S'.hC S'.hz S'.h6 S'.G S'.le S'.A S'.h1 S'.h2 (B:=990) ⟨hs,ν⟩ s hsl).mono ?_
 rintro x h' (⟨_,rfl,rfl⟩|⟨h,_⟩|⟨h,_⟩)
 ·exact ⟨rfl,rfl⟩
 ·omega
 ·omega
theorem LgS.A8x (S':LgS p q nb cells ps pv lb wb f count c z a sq L T E hp) (hs:sq+count < 990) {m:Nat} (hm':m≤T.length) :
  CSem Tryz.prog 16 [.ptr lb 0,.int .i64 m] hp fun x h'=>x = .int .i64 0∧∃ a' sq' L',LgS p q nb cells ps pv lb wb f count c z a' sq' L' (T.take m) E h'∧Fr' (fun x=>E x∧x≠wb) hp h'∧OutL L L' f count∧sq'≤sq+count:=by
 have hle:=S'.le
 refine (Qh S'.H S'.hC S'.hz S'.h6 S'.G S'.le S'.A S'.h1 S'.h2 (B:=990) ⟨hs,ν⟩ m).mono ?_
 rintro x h' (⟨h,_⟩|⟨m',hmm,_,rfl,a',sq',L',H',G',A',F,O,hq,St⟩|⟨_,_,_,_,hl,_⟩)
 ·omega
 ·have:m'=m:=by omega
  subst this
  exact ⟨rfl,a',sq',L',⟨H',G',A',by rw [List.length_take];omega,St.neg S'.lf,S'.h1,S'.h2,S'.hC,S'.hz,S'.h6⟩,F,O,hq⟩
 ·exact (hl S'.lf).elim
theorem LgS.Aaw (S':LgS p q nb cells ps pv lb wb f count c z a sq L T E hp) (hs:sq+count < 990) {n:Int} (hn:n < 0∨(T.length:Int) < n) :
  CSem Tryz.prog 16 [.ptr lb 0,.int .i64 n] hp fun x h'=>x = .int .i64 1∧h'=hp:=by
 refine (Qh S'.H S'.hC S'.hz S'.h6 S'.G S'.le S'.A S'.h1 S'.h2 (B:=990) ⟨hs,ν⟩ n).mono ?_
 rintro x h' (⟨_,rfl,rfl⟩|⟨m',hmm,_⟩|⟨m',hmm,_⟩)
 ·exact ⟨rfl,rfl⟩
 ·omega
 ·omega
theorem LgS.wh (S':LgS p q nb cells ps pv lb wb f count c z a sq L T E hp):Wh c a sq L:=⟨S'.G.v,S'.lf,S'.G.len,S'.G.al⟩
theorem LgS.read (S':LgS p q nb cells ps pv lb wb f count c z a sq L T E hp) (n:Int) :
  CSem Tryz.prog 20 [.ptr pv 0,.int .i64 n] hp fun x h'=>x = .tup [S (mRd c L n).1,.int .i64 (mRd c L n).2]∧h'=hp:=by
 have:=S'.H.read S'.hC ν n
 rwa [S'.wh.v.read S'.wh.gd] at this
theorem LgS.less (S':LgS p q nb cells ps pv lb wb f count c z a sq L T E hp) {E':Nat→Prop} (h:∀ x,E' x→E x) (h1:E' lb) (h2:E' wb):LgS p q nb cells ps pv lb wb f count c z a sq L T E' hp :=
 ⟨S'.H.less h,S'.G,S'.A,S'.le,S'.lf,h1,h2,S'.hC,S'.hz,S'.h6⟩
theorem LgS.open_ (S':LgS p q nb cells ps pv lb wb f count c z a sq L T E hp) (hc0:0 < count) :
  CSem Tryz.prog 12 [.ptr pv 0,.int .i64 f,.int .i64 count] hp fun x h'=> ∃ lb' wb',x = .tup [.ptr lb' 0,.int .i64 0]∧LgS p q nb cells ps pv lb' wb' f count c z a sq L T (fun x=>(E x∨x=lb')∨x=wb') h'∧Fr' E hp h'∧∀ x,E x→x≠lb'∧x≠wb':=by
 refine (Te S'.H S'.hC S'.hz S'.wh S'.G.ll hc0 S'.G.fc).mono ?_
 rintro x h' ⟨lb',wb',rfl,H',A',F,hne⟩
 have e:(L.drop f).take count=prts z T count:=by
  apply List.ext_getElem?
  intro i
  by_cases hi:i < count
  ·rw [List.getElem?_take_of_lt hi,List.getElem?_drop,S'.G.at_ i hi]
  ·have hll:=S'.G.ll
   have hfc:=S'.G.fc
   rw [List.getElem?_eq_none (by rw [List.length_take];omega),List.getElem?_eq_none (by rw [Nc];omega)]
 rw [e] at A'
 exact ⟨lb',wb',rfl,⟨H',S'.G,A',S'.le,S'.lf,.inl (.inr rfl),.inr rfl,S'.hC,S'.hz,S'.h6⟩,F,hne⟩
theorem LgS.new (H:LawV p q nb cells ps pv c 0 a sq E hp) (hC:Ax c) (hz:(z:Int)=Aw c) (h6:c.st≤6) (W:Wh c a sq L) (hll:(L.length:Int)=c.st) (s0:0≤sq) (hc0:0 < count) (hfc:((f+count:Nat):Int)≤c.st) (hL:∀ i,i < count→L[f+i]? = some []) :
  CSem Tryz.prog 12 [.ptr pv 0,.int .i64 f,.int .i64 count] hp fun x h'=> ∃ lb' wb',x = .tup [.ptr lb' 0,.int .i64 0]∧LgS p q nb cells ps pv lb' wb' f count c z a sq L [] (fun x=>(E x∨x=lb')∨x=wb') h'∧Fr' E hp h'∧∀ x,E x→x≠lb'∧x≠wb':=by
 refine (Te H hC hz W hll hc0 hfc).mono ?_
 rintro x h' ⟨lb',wb',rfl,H',A',F,hne⟩
 have hP:∀ i,i < count→L[f+i]? = (prts z [] count)[i]? := fun i hi=>by rw [hL i hi,Aea,List.getElem?_replicate,if_pos hi]
 have e:(L.drop f).take count=prts z [] count:=by
  apply List.ext_getElem?
  intro i
  by_cases hi:i < count
  ·rw [List.getElem?_take_of_lt hi,List.getElem?_drop,hP i hi]
  ·rw [List.getElem?_eq_none (by rw [List.length_take];omega),List.getElem?_eq_none (by rw [Nc];omega)]
 rw [e] at A'
 exact ⟨lb',wb',rfl,⟨H',LF.of W hll s0 hfc (Nc ..) hP,A',Nat.zero_le _,W.lf,.inl (.inr rfl),.inr rfl,hC,hz,h6⟩,F,hne⟩
end
end Go.Proofs.YtmbndhciflilbaaGreatDoor.X
