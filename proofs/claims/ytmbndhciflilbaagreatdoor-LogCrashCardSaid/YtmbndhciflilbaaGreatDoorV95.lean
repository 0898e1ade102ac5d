/-
  Logs: Append, Truncate.
-/
import Derived.Test.YtmbndhciflilbaaGreatDoorV94
namespace Go.Proofs.YtmbndhciflilbaaGreatDoor.X
open Go.RowKit F
set_option maxRecDepth 100000
set_option linter.unusedSimpArgs false
set_option linter.unusedVariables false
section
variable {p q nb:Nat} {cells:List AV} {ps:List Nat} {pv lb wb f count:Nat} {c:Cfg} {a:Arr} {sq:Int} {E:Nat→Prop} {hp:Heap} {L P:List Txt} {z:Nat}
def CutQ (bn:Int) (p q nb:Nat) (cells:List AV) (ps:List Nat) (pv lb f count:Nat) (c:Cfg) (a:Arr) (L:List Txt) (E:Nat→Prop) (wb:Nat) (z:Nat) (A B:Txt) (lo:Nat) (hp:Heap) (h':Heap):Prop :=
 ¬a.left < 0∧∃ a' k' sq' L1 L2 j,LawV p q nb cells ps pv c k' a' sq' E h'∧k' < 2 ^ 20∧a'.down=true∧Stp a a'∧RS c a' L1 L2 bn∧lo≤j∧j < count∧(L1.length:Int)=c.st∧((L2.length:Int)=c.st) ∧
  ((∀ i,i < count→L1[f+i]? = (mixP z A B count j)[i]?)∨(∀ i,i < count→L1[f+i]? = (mixP z A B count (j+1))[i]?))∧((∀ i,i < count→L2[f+i]? = (mixP z A B count j)[i]?)∨(∀ i,i < count→L2[f+i]? = (mixP z A B count (j+1))[i]?))∧OutL L L1 f count∧OutL L L2 f count∧Fr' (fun x=>E x∧x≠wb) hp h'
structure AppI (p q nb:Nat) (cells:List AV) (ps:List Nat) (pv lb wb f count:Nat) (c:Cfg) (a:Arr) (sq:Int) (L:List Txt) (E:Nat→Prop) (z:Nat) (T s:Txt) (h0:Heap) (n:Nat) (r:Regs) (hp:Heap):Prop where
 le:n≤count
 lo:T.length / z≤n
 r0:rg r 0 = .ptr lb 0
 r1:rg r 1=S s
 r5:rg r 5=S T
 r6:rg r 6 = .int .i64 n
 ex:∃ a' sq' L',LawV p q nb cells ps pv c 0 a' sq' E hp∧LF c a' sq' L' f count (mixP z (T ++ s) T count n)∧LgB lb wb pv f count (z:Nat) (mixP z (T ++ s) T count n) hp∧OutL L L' f count∧sq'+(T.length / z:Nat)≤sq+n∧Stp a a'
 F:Fr' (fun x=>E x∧x≠wb) h0 hp
def AppQ (B:Int) (p q nb:Nat) (cells:List AV) (ps:List Nat) (pv lb wb f count:Nat) (c:Cfg) (a:Arr) (sq:Int) (L:List Txt) (E:Nat→Prop) (z:Nat) (T s:Txt) (hp:Heap) (x:AV) (h':Heap):Prop :=
   (count * z - T.length < s.length∧x = .int .i64 11∧h'=hp) ∨
   (s.length≤count * z - T.length∧x = .int .i64 0∧∃ a' sq' L',LawV p q nb cells ps pv c 0 a' sq' E h'∧LF c a' sq' L' f count (prts z (T ++ s) count)∧LgB lb wb pv f count (z:Nat) (prts z (T ++ s) count) h'∧Fr' (fun x=>E x∧x≠wb) hp h'∧OutL L L' f count∧sq'≤sq+count∧Stp a a') ∨
   (s.length≤count * z - T.length∧x = .int .i64 9∧CutQ B p q nb cells ps pv lb f count c a L E wb z (T ++ s) T (T.length / z) hp h')
theorem Nf (H:LawV p q nb cells ps pv c 0 a sq E hp) (hC:Ax c) (hz:(z:Int)=Aw c) (hst6:c.st≤6) {T:Txt} (G:LF c a sq L f count (prts z T count)) (hT:T.length≤count * z) (A:LgB lb wb pv f count (z:Nat) (prts z T count) hp) (h1:E lb) (h2:E wb) {B:Int} (hs:sq+count < B∧B≤1000) (s:Txt) (hsl:s.length < 2 ^ 63) :
  CSem Tryz.prog 14 [.ptr lb 0,S s] hp (AppQ B p q nb cells ps pv lb wb f count c a sq L E z T s hp):=by
 refine CSem.body hm Tryz.func14 rfl κ κ (by simp [Tryz.ntmps14]) ?_
 have k0:=Bd hC
 have hcap:=Lc hC
 have hkk:=hC.2.2.1
 have hsz:8≤c.k * c.sh:=by
  have:1 * 8≤c.k * c.sh:=Int.mul_le_mul ω ω ω ω
  omega
 have hz0:0 < z:=by omega
 have hz20:z < 2 ^ 20:=by have:=hC.2.2.2.2.2;omega
 have hfc:=G.fc
 have hc20:count < 2 ^ 20:=by omega
 have hcz:count * z < 2 ^ 40:=by have:=Nat.mul_lt_mul'' hc20 hz20;omega
 have htx:txtL z (prts z T count)=T:=Pj hz0 count T hT
 have hroom:=Zj A hc20 hz20 (by rw [htx];exact hT)
 have htext:=Pm A ω (by rw [htx];omega)
 rw [htx] at hroom htext
 obtain ⟨⟨cap,cs,g,gw,c1,c2,c3⟩,pl,ne⟩:=A
 by_cases hfull:count * z - T.length < s.length
 ·have hfull':((count * z - T.length:Nat):Int) < s.length:=by omega
  simp [Tryz.f14]
  refine hroom.use ?_
  simp [hfull']
  exact .inl ⟨hfull,rfl,rfl⟩
 have hfull':¬((count * z - T.length:Nat):Int) < s.length:=by omega
 have hq:intX .quo .i64 (T.length:Int) (z:Int)=some (.int .i64 ((T.length / z:Nat):Int)):=by
  rw [A32 ω,Int.tdiv_eq_ediv_of_nonneg ω,wrap64 (by have:=Int.ediv_nonneg (show (0:Int)≤T.length by omega) (show (0:Int)≤z by omega);omega) (by have:=Int.ediv_le_self (z:Int) (show (0:Int)≤T.length by omega);omega)]
  push_cast
  rfl
 by_cases hs0:s=[]
 ·subst hs0
  have e:T ++ ([]:Txt)=T:=List.append_nil T
  simp [Tryz.f14]
  refine hroom.use ?_
  simp [show ¬((count * z - T.length:Nat):Int) < 0 by omega]
  refine htext.use ?_
  simp
  exact .inr (.inl ⟨μ,rfl,a,sq,L,H,by rw [e];exact G,by rw [e];exact ⟨⟨cap,cs,g,gw,c1,c2,c3⟩,pl,ne⟩,fun _ _=>rfl,OutL.refl _ _ _,ω,Stp.refl a⟩)
 have hlo:T.length / z < count:=Nat.div_lt_of_lt_mul (by
  have:0 < s.length:=List.length_pos_iff.2 hs0
  rw [Nat.mul_comm]
  omega)
 have hcat:T.length+s.length≤140737488355328:=by omega
 simp [Tryz.f14]
 refine hroom.use ?_
 simp [hfull']
 refine htext.use ?_
 simp [hs0,A8,g,hq]
 refine Ar (AppI p q nb cells ps pv lb wb f count c a sq L E z T s hp) (count - ·) ?_ (T.length / z) ?_
 rotate_left
 ·exact ⟨ω,Nat.le_refl _,μ,μ,μ,μ,⟨a,sq,L,H,by rw [Qg];exact G,by rw [Qg];exact ⟨⟨cap,cs,g,gw,c1,c2,c3⟩,pl,ne⟩,OutL.refl _ _ _,ω,Stp.refl a⟩,fun _ _=>rfl⟩
 clear hroom htext g gw c1 c2 c3 pl
 rintro n r hp' ⟨le,lo,r0,r1,r5,r6,⟨a',sq',L',H',G',A',O',hsq,S'⟩,F⟩
 have hsq0:sq'≤sq+n:=by
  have h0:=Int.natCast_nonneg (T.length / z)
  clear hq
  generalize ((T.length / z:Nat):Int)=y at h0 hsq
  omega
 have hA:=A'
 obtain ⟨⟨cap',cs',g,gw,c1,c2,c3⟩,pl,_⟩:=A'
 rcases Nat.lt_or_eq_of_le le with hlt|heq
 ·have hlt':(n:Int) < count:=by omega
  have hw1:IntKind.i64.wrap ((n:Int)+1)=(n:Int)+1:=wrap64 ω ω
  simp [r0,r1,r5,r6,hlt',A8,g,hcat]
  refine (Zh (n:=n) (T:=T ++ s) g hz20 ω (by rw [List.length_append];omega)).use ?_
  simp
  refine (A3t (B:=B) H' hC G' hA h1 h2 ω hlt (s:=prtT z (T ++ s) n) (by rw [A3r];omega)).then ?_
  rintro _ h3 (⟨rfl,a2,sq2,L2,H2,G2,A2,F2,O2,hs2,S2⟩|⟨rfl,hlf,a2,k2,H2,hk2,hd2,S2,R2,A2,F2⟩)
  ·rw [A8v hlt] at G2 A2
   simp [r6,hw1]
   exact ⟨n+1,ω,ω,ω,by simpa using r0,by simpa using r1,by simpa using r5,μ,⟨a2,sq2,L2,H2,G2,A2,O'.trans O2,ω,S'.trans S2⟩,fun x hx=>(F2 x hx).trans (F x hx)⟩
  ·simp
   refine .inr (.inr ⟨Nat.le_of_not_lt hfull,rfl,fun h=>hlf (S'.neg h),a2,k2,sq',L',L'.set (f+n) (prtT z (T ++ s) n),n,H2,hk2,hd2,S'.trans S2,R2,lo,hlt,G'.ll,by rw [List.length_set];exact G'.ll,.inl G'.at_,.inr fun i hi=> ?_,O',O'.trans (OutL.set hlt _),fun x hx=>(F2 x hx.1).trans (F x hx)⟩)
   rw [←A8v hlt,List.getElem?_set,List.getElem?_set,G'.at_ i hi]
   have hll:=G'.ll
   have hfc':=G'.fc
   by_cases hni:n=i
   ·subst hni
    rw [if_pos rfl,if_pos rfl,if_pos ω,if_pos (by rw [Hw];omega)]
   ·rw [if_neg ω,if_neg hni]
 ·subst heq
  rw [Wx] at G' hA
  simp [r0,r6,A8,g]
  exact .inr (.inl ⟨Nat.le_of_not_lt hfull,rfl,a',sq',L',H',G',hA,F,O',by have:=Int.natCast_nonneg (T.length / z);omega,S'⟩)
end
end Go.Proofs.YtmbndhciflilbaaGreatDoor.X
