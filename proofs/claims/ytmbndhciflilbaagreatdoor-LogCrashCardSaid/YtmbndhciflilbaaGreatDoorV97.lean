/-
  Logs: Truncate.
-/
import Derived.Test.YtmbndhciflilbaaGreatDoorV96
namespace Go.Proofs.YtmbndhciflilbaaGreatDoor.X
open Go.RowKit F
set_option maxRecDepth 100000
set_option linter.unusedSimpArgs false
set_option linter.unusedVariables false
section
variable {p q nb:Nat} {cells:List AV} {ps:List Nat} {pv lb wb f count:Nat} {c:Cfg} {a:Arr} {sq:Int} {E:Nat→Prop} {hp:Heap} {L P:List Txt} {z:Nat}
structure TruI (p q nb:Nat) (cells:List AV) (ps:List Nat) (pv lb wb f count:Nat) (c:Cfg) (a:Arr) (sq:Int) (L:List Txt) (E:Nat→Prop) (z:Nat) (T:Txt) (m:Nat) (h0:Heap) (j:Nat) (r:Regs) (hp:Heap):Prop where
 le:j≤count
 r0:rg r 0 = .ptr lb 0
 r5:rg r 5=S (T.take m)
 r6:rg r 6 = .int .i64 ((j:Int) - 1)
 ex:∃ a' sq' L',LawV p q nb cells ps pv c 0 a' sq' E hp∧LF c a' sq' L' f count (mixP z T (T.take m) count j)∧LgB lb wb pv f count (z:Nat) (mixP z T (T.take m) count j) hp∧OutL L L' f count∧sq'+j≤sq+count∧Stp a a'
 F:Fr' (fun x=>E x∧x≠wb) h0 hp
def TruQ (B:Int) (p q nb:Nat) (cells:List AV) (ps:List Nat) (pv lb wb f count:Nat) (c:Cfg) (a:Arr) (sq:Int) (L:List Txt) (E:Nat→Prop) (z:Nat) (T:Txt) (hp:Heap) (n:Int) (x:AV) (h':Heap):Prop :=
   ((n < 0∨(T.length:Int) < n)∧x = .int .i64 1∧h'=hp) ∨
   (∃ m:Nat,n=m∧m≤T.length∧x = .int .i64 0∧∃ a' sq' L',LawV p q nb cells ps pv c 0 a' sq' E h'∧LF c a' sq' L' f count (prts z (T.take m) count)∧LgB lb wb pv f count (z:Nat) (prts z (T.take m) count) h'∧Fr' (fun x=>E x∧x≠wb) hp h'∧OutL L L' f count∧sq'≤sq+count∧Stp a a') ∨
   (∃ m:Nat,n=m∧m≤T.length∧x = .int .i64 9∧CutQ B p q nb cells ps pv lb f count c a L E wb z T (T.take m) 0 hp h')
theorem Qh (H:LawV p q nb cells ps pv c 0 a sq E hp) (hC:Ax c) (hz:(z:Int)=Aw c) (hst6:c.st≤6) {T:Txt} (G:LF c a sq L f count (prts z T count)) (hT:T.length≤count * z) (A:LgB lb wb pv f count (z:Nat) (prts z T count) hp) (h1:E lb) (h2:E wb) {B:Int} (hs:sq+count < B∧B≤1000) (n:Int) :
  CSem Tryz.prog 16 [.ptr lb 0,.int .i64 n] hp (TruQ B p q nb cells ps pv lb wb f count c a sq L E z T hp n):=by
 refine CSem.body hm Tryz.func16 rfl κ κ (by simp [Tryz.ntmps16]) ?_
 have k0:=Bd hC
 have hcap:=Lc hC
 have hkk:=hC.2.2.1
 have hsz:8≤c.k * c.sh:=by
  have:1 * 8≤c.k * c.sh:=Int.mul_le_mul ω ω ω ω
  omega
 have hz0:0 < z:=by omega
 have hz20:z < 2 ^ 20:=by have:=hC.2.2.2.2.2;omega
 have hfc:=G.fc
 have hc20:count < 2 ^ 20:=by omega
 have hcz:count * z < 2 ^ 40:=by have:=Nat.mul_lt_mul'' hc20 hz20;omega
 have htx:txtL z (prts z T count)=T:=Pj hz0 count T hT
 have htext:=Pm A ω (by rw [htx];omega)
 rw [htx] at htext
 have hA0:=A
 obtain ⟨⟨cap,cs,g,gw,c1,c2,c3⟩,pl,ne⟩:=A
 by_cases n0:n < 0
 ·simp [Tryz.f16,n0]
  exact .inl ⟨.inl n0,rfl,rfl⟩
 by_cases n1:(T.length:Int) < n
 ·simp [Tryz.f16,n0]
  refine htext.use ?_
  simp [n1]
  exact .inl ⟨.inr n1,rfl,rfl⟩
 obtain ⟨m,rfl⟩:=Int.eq_ofNat_of_zero_le (show 0≤n by omega)
 have hm':m≤T.length:=by omega
 have hw0:IntKind.i64.wrap ((count:Int) - 1)=(count:Int) - 1:=wrap64 ω ω
 simp [Tryz.f16,n0]
 refine htext.use ?_
 simp [n1]
 refine htext.use ?_
 simp [hm',A8,g,hw0]
 refine Ar (TruI p q nb cells ps pv lb wb f count c a sq L E z T m hp) (fun j=>j) ?_ count ?_
 rotate_left
 ·exact ⟨Nat.le_refl _,μ,μ,μ,⟨a,sq,L,H,by rw [Wx];exact G,by rw [Wx];exact hA0,OutL.refl _ _ _,ω,Stp.refl a⟩,fun _ _=>rfl⟩
 clear htext g gw c1 c2 c3 pl hA0
 rintro j r hp' ⟨le,r0,r5,r6,⟨a',sq',L',H',G',A',O',hsq,S'⟩,F⟩
 have hA:=A'
 obtain ⟨⟨cap',cs',g,gw,c1,c2,c3⟩,pl,_⟩:=A'
 rcases Nat.eq_zero_or_pos j with hj|hj
 ·subst hj
  rw [Pk] at G' hA
  simp [r6]
  exact .inr (.inl ⟨m,rfl,hm',rfl,a',sq',L',H',G',hA,F,O',ω,S'⟩)
 ·obtain ⟨k,rfl⟩:∃ k,j=k+1:=⟨j - 1,ω⟩
  have hlt:k < count:=by omega
  have e6:(((k+1:Nat):Int) - 1)=k:=by omega
  rw [e6] at r6
  have hw1:IntKind.i64.wrap ((k:Int) - 1)=(k:Int) - 1:=wrap64 ω ω
  simp [r0,r5,r6]
  refine (Zh (n:=k) (T:=T.take m) g hz20 ω (by rw [List.length_take];omega)).use ?_
  simp
  refine (A3t (B:=B) H' hC G' hA h1 h2 ω hlt (s:=prtT z (T.take m) k) (by rw [A3r];omega)).then ?_
  rintro _ h3 (⟨rfl,a2,sq2,L2,H2,G2,A2,F2,O2,hs2,S2⟩|⟨rfl,hlf,a2,k2,H2,hk2,hd2,S2,R2,A2,F2⟩)
  ·rw [A8w hlt] at G2 A2
   simp [r6,hw1]
   exact ⟨k,ω,ω,by simpa using r0,by simpa using r5,μ,⟨a2,sq2,L2,H2,G2,A2,O'.trans O2,ω,S'.trans S2⟩,fun x hx=>(F2 x hx).trans (F x hx)⟩
  ·simp
   refine .inr (.inr ⟨m,rfl,hm',rfl,fun h=>hlf (S'.neg h),a2,k2,sq',L',L'.set (f+k) (prtT z (T.take m) k),k,H2,hk2,hd2,S'.trans S2,R2,Nat.zero_le _,hlt,G'.ll,by rw [List.length_set];exact G'.ll,.inr G'.at_,.inl fun i hi=> ?_,O',O'.trans (OutL.set hlt _),fun x hx=>(F2 x hx.1).trans (F x hx)⟩)
   rw [←A8w hlt,List.getElem?_set,List.getElem?_set,G'.at_ i hi]
   have hll:=G'.ll
   have hfc':=G'.fc
   by_cases hni:k=i
   ·subst hni
    rw [if_pos rfl,if_pos rfl,if_pos ω,if_pos (by rw [Hw];omega)]
   ·rw [if_neg ω,if_neg hni]
end
end Go.Proofs.YtmbndhciflilbaaGreatDoor.X
