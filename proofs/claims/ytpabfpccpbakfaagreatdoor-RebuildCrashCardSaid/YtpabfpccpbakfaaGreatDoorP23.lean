/-
  A volume with texts, as the scrub's and the rebuild's laws make it (plain mathematics).
-/
import Derived.Test.YtpabfpccpbakfaaGreatDoorP22
namespace Go.Proofs.YtpabfpccpbakfaaGreatDoor.X
open F
set_option linter.unusedSimpArgs false
set_option linter.unusedVariables false
def Ga (c:Cfg) (ts:List Txt):Nat→Arr×Int
 | 0=>((Cj (Kf c) c 7).ar,0)
 | i+1=>((Bf (Ga c ts i).1 7 c (Ga c ts i).2 i (ts[i]?.getD [])).1,(Bf (Ga c ts i).1 7 c (Ga c ts i).2 i (ts[i]?.getD [])).2.1)
def A9q (c:Cfg) (ts:List Txt):Nat→List Txt
 | 0=>List.replicate c.st.toNat []
 | i+1=>mWr c (A9q c ts i) i (ts[i]?.getD [])
structure Wh (c:Cfg) (a:Arr) (sq:Int) (L:List Txt):Prop where
 v:VS c a sq L (fun _=>False)
 lf:a.left < 0
 len:(a.disks.length:Int)=c.k+c.m
 al:∀ d:Nat,d < a.disks.length→a.alive (d:Int)=true
theorem Wh.write {c:Cfg} {a:Arr} {sq:Int} {L:List Txt} (W:Wh c a sq L) (hm:0≤c.m) (hs:sq+1 < 36028797018963968) (n:Int) (t:Txt) :
  (Bf a 7 c sq n t).2.2=mWrE c n t∧(Bf a 7 c sq n t).2.1=(if mWrE c n t=0 then sq+1 else sq)∧Wh c (Bf a 7 c sq n t).1 (Bf a 7 c sq n t).2.1 (mWr c L n t):=by
 have hl:=W.len
 obtain ⟨e1,e2,V,S⟩:=W.v.write W.lf (by rw [Re W.al];omega) hs n t
 exact ⟨e1,e2,V,S.neg W.lf,by rw [S.len];exact hl,fun d hd=>by rw [S.al];exact W.al d (by rw [←S.len];exact hd)⟩
theorem Jp {c:Cfg} (hC:As c) (ts:List Txt):∀ i:Nat,i < 1000→Wh c (Ga c ts i).1 (Ga c ts i).2 (A9q c ts i)∧0≤(Ga c ts i).2∧(Ga c ts i).2≤i
 | 0,_=>by
  obtain ⟨_,_,V,lf,hl,hal⟩:=VS.make hC
  exact ⟨⟨V,lf,hl,hal⟩,Int.le_refl _,Int.le_refl _⟩
 | i+1,hi=>by
  obtain ⟨W,h0,h1⟩:=Jp hC ts i (by omega)
  have hc:=Bk hC
  obtain ⟨e1,e2,W1⟩:=W.write (by omega) (by omega) i (ts[i]?.getD [])
  refine ⟨W1,?_,?_⟩
  ·show 0≤(Bf _ _ _ _ _ _).2.1;rw [e2];split<;>omega
  ·show (Bf _ _ _ _ _ _).2.1≤_;rw [e2];push_cast;split<;>omega
theorem Wh.ex {c:Cfg} {a:Arr} {sq:Int} {L:List Txt} (W:Wh c a sq L):EX c a sq L (fun _ _=>false):=W.v.exx W.lf W.al
end Go.Proofs.YtpabfpccpbakfaaGreatDoor.X
