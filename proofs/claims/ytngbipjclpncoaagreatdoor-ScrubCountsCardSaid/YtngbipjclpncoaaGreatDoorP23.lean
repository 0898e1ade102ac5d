/-
  A volume with texts, as the scrub's and the rebuild's laws make it (plain mathematics).
-/
import Derived.Test.YtngbipjclpncoaaGreatDoorP22
namespace Go.Proofs.YtngbipjclpncoaaGreatDoor.X
open F
set_option linter.unusedSimpArgs false
set_option linter.unusedVariables false
def madeL (c:Cfg) (ts:List Txt):Nat→Arr×Int
 | 0=>((vmakeR (freshA c) c 7).ar,0)
 | i+1=>((vwriteR (madeL c ts i).1 7 c (madeL c ts i).2 i (ts[i]?.getD [])).1,(vwriteR (madeL c ts i).1 7 c (madeL c ts i).2 i (ts[i]?.getD [])).2.1)
def madeM (c:Cfg) (ts:List Txt):Nat→List Txt
 | 0=>List.replicate c.st.toNat []
 | i+1=>mWr c (madeM c ts i) i (ts[i]?.getD [])
structure Wh (c:Cfg) (a:Arr) (sq:Int) (L:List Txt):Prop where
 v:VS c a sq L (fun _=>False)
 lf:a.left < 0
 len:(a.disks.length:Int)=c.k+c.m
 al:∀ d:Nat,d < a.disks.length→a.alive (d:Int)=true
theorem Wh.write {c:Cfg} {a:Arr} {sq:Int} {L:List Txt} (W:Wh c a sq L) (hm:0≤c.m) (hs:sq+1 < 36028797018963968) (n:Int) (t:Txt) :
  (vwriteR a 7 c sq n t).2.2=mWrE c n t∧(vwriteR a 7 c sq n t).2.1=(if mWrE c n t=0 then sq+1 else sq)∧Wh c (vwriteR a 7 c sq n t).1 (vwriteR a 7 c sq n t).2.1 (mWr c L n t):=by
 have hl:=W.len
 obtain ⟨e1,e2,V,S⟩:=W.v.write W.lf (by rw [aliveL_all W.al];omega) hs n t
 exact ⟨e1,e2,V,S.neg W.lf,by rw [S.len];exact hl,fun d hd=>by rw [S.al];exact W.al d (by rw [←S.len];exact hd)⟩
theorem made_ok {c:Cfg} (hC:ConfP c) (ts:List Txt):∀ i:Nat,i < 1000→Wh c (madeL c ts i).1 (madeL c ts i).2 (madeM c ts i)∧0≤(madeL c ts i).2∧(madeL c ts i).2≤i
 | 0,_=>by
  obtain ⟨_,_,V,lf,hl,hal⟩:=VS.make hC
  exact ⟨⟨V,lf,hl,hal⟩,Int.le_refl _,Int.le_refl _⟩
 | i+1,hi=>by
  obtain ⟨W,h0,h1⟩:=made_ok hC ts i (by omega)
  have hc:=conf_sl hC
  obtain ⟨e1,e2,W1⟩:=W.write (by omega) (by omega) i (ts[i]?.getD [])
  refine ⟨W1,?_,?_⟩
  ·show 0≤(vwriteR _ _ _ _ _ _).2.1;rw [e2];split<;>omega
  ·show (vwriteR _ _ _ _ _ _).2.1≤_;rw [e2];push_cast;split<;>omega
theorem madeM_len {c:Cfg} (ts:List Txt):∀ i:Nat,(madeM c ts i).length=c.st.toNat
 | 0=>by simp [madeM]
 | i+1=>by rw [madeM,mWr_len,madeM_len ts i]
theorem Wh.ex {c:Cfg} {a:Arr} {sq:Int} {L:List Txt} (W:Wh c a sq L):EX c a sq L (fun _ _=>false):=W.v.exx W.lf W.al
theorem EX.wh {c:Cfg} {a:Arr} {sq:Int} {L:List Txt} (E:EX c a sq L (fun _ _=>false)):Wh c a sq L :=
 ⟨E.vs (fun _ _=>⟨rfl,fun _ _=>rfl⟩) _,E.lf,E.conf.2.1,E.al⟩
theorem Wh.gd {c:Cfg} {a:Arr} {sq:Int} {L:List Txt} (W:Wh c a sq L):Gd c a (fun _=>False):=by
 obtain ⟨⟨g,I,_⟩,_⟩:=W.v
 exact Gd.all I fun d hd=>⟨W.al d hd,fun h=>h⟩
end Go.Proofs.YtngbipjclpncoaaGreatDoor.X
