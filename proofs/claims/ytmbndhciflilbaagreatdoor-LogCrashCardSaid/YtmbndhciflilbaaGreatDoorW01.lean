/-
  law22.live; LogNil.
-/
import Derived.Test.YtmbndhciflilbaaGreatDoorV99
namespace Go.Proofs.YtmbndhciflilbaaGreatDoor.X
open Go.RowKit F
set_option maxRecDepth 100000
set_option linter.unusedSimpArgs false
set_option linter.unusedVariables false
def cw22:Cfg:=⟨1,1,8,4,1⟩
theorem A98:Ax cw22:=by decide
theorem A50:CSem Tryz.prog 10 [] Heap.empty fun x h'=>x = .bool true:=by
 refine CSem.body hm Tryz.func10 rfl κ κ (by simp [Tryz.ntmps10]) ?_
 have haggC:aggT Tryz.prog 23=some true:=by kernel_rfl
 have hzC:szT Tryz.prog 23=some 5:=by kernel_rfl
 have hzz:B7 Tryz.prog 23=some (.agg [.int .i64 0,.int .i64 0,.int .i64 0,.int .i64 0,.int .i64 0]):=by kernel_rfl
 have hbd:Ct Tryz.prog 23 [(0,.int .i64 1),(1,.int .i64 1),(2,.int .i64 8),(3,.int .i64 4),(4,.int .i64 1)]=some (.agg [.int .i64 1,.int .i64 1,.int .i64 8,.int .i64 4,.int .i64 1]):=by kernel_rfl
 simp only [Tryz.f10]
 generalize hg:Code.seq (Code.region 15 _ _) _=c15
 have e0:∀ zs,(Heap.empty.alloc zs).get 0=some zs:=fun zs=>Heap.A9 Heap.empty zs
 simp [hbd,hzz,AV.cells,Aj,hzC,putN,e0]
 have e1:((Heap.empty.alloc [.int .i64 0,.int .i64 0,.int .i64 0,.int .i64 0,.int .i64 0]).put 0 [.int .i64 1,.int .i64 1,.int .i64 8,.int .i64 4,.int .i64 1]).get 0=some [.int .i64 1,.int .i64 1,.int .i64 8,.int .i64 4,.int .i64 1]:=Heap.Ak (e0 _)
 have lp1:((Heap.empty.alloc [.int .i64 0,.int .i64 0,.int .i64 0,.int .i64 0,.int .i64 0]).put 0 [.int .i64 1,.int .i64 1,.int .i64 8,.int .i64 4,.int .i64 1]).lp=none:=rfl
 generalize (Heap.empty.alloc [.int .i64 0,.int .i64 0,.int .i64 0,.int .i64 0,.int .i64 0]).put 0 [.int .i64 1,.int .i64 1,.int .i64 8,.int .i64 4,.int .i64 1]=H1 at e1 lp1 ⊢
 simp [e1,Ac haggC,hzC,takeN]
 refine (Wz A98 ν _ lp1).then ?_
 rintro _ H2 ⟨p,q,nb,cells,ps,pv,rfl,LH,_⟩
 obtain ⟨W,s0,s1⟩:=Ut A98 [] 0 ω
 have LH:LawV p q nb cells ps pv cw22 0 (Gz cw22 [] 0).1 (Gz cw22 [] 0).2 (fun _=>False) H2:=LH.less fun _ h=>h.elim
 generalize Gz cw22 [] 0=aq at LH W s0 s1
 obtain ⟨a0,sq⟩:=aq
 simp only at LH W s0 s1
 have hM:A8u cw22 [] 0=[[],[],[],[]]:=rfl
 rw [hM] at W
 simp
 refine (LgS.new (z:=4) (f:=1) (count:=3) LH A98 ν ν W ν s0 ν ν (fun i hi=>by
  have:i=0∨i=1∨i=2:=by omega
  rcases this with rfl|rfl|rfl<;>rfl)).then ?_
 rintro _ H3 ⟨lb,wb,rfl,S3,_⟩
 simp
 refine (Aav S3.H A98 (f:=2) (count:=3) ν).then ?_
 rintro _ _ ⟨rfl,rfl⟩
 simp
 refine S3.room.use ?_
 simp
 refine (S3.append (s:=[97,98,99,100,101,102]) ω ν).then ?_
 rintro _ H4 ⟨rfl,a4,sq4,L4,S4,_,_,q4⟩
 simp at S4
 simp
 refine S4.text.use ?_
 simp
 refine (S4.read 2).use ?_
 have r4:mRd cw22 L4 2=([101,102],0):=by
  have:=S4.G.at_ 1 ν
  have e:(prts 4 [97,98,99,100,101,102] 3)[1]? = some [101,102]:=rfl
  rw [e] at this
  unfold mRd
  rw [if_neg ν]
  simp only [show (2:Int).toNat=1+1 from rfl,this]
  rfl
 rw [r4]
 simp
 refine (S4.full (s:=[48,49,50,51,52,53,54]) ω ν ν).then ?_
 rintro _ _ ⟨rfl,rfl⟩
 simp
 refine (S4.A8x (m:=4) ω ν).then ?_
 rintro _ H5 ⟨rfl,a5,sq5,L5,S5,_,_,q5⟩
 simp at S5
 simp
 refine (S5.open_ ν).then ?_
 rintro _ H6 ⟨lk,wk,rfl,S6,F6,_⟩
 have S7:LgS p q nb cells ps pv lb wb 1 3 cw22 4 a5 sq5 L5 [97,98,99,100] (fun x=>((x=lb∨x=wb)∨x=lk)∨x=wk) H6:=⟨S6.H,S6.G,S5.A.keep (F6 lb S5.h1) (F6 wb S5.h2),S6.le,S6.lf,.inl (.inl S5.h1),.inl (.inl S5.h2),S6.hC,S6.hz,S6.h6⟩
 simp
 refine (S6.read 2).use ?_
 have r5:mRd cw22 L5 2=([],0):=by
  have:=S6.G.at_ 1 ν
  have e:(prts 4 [97,98,99,100] 3)[1]? = some []:=rfl
  rw [e] at this
  unfold mRd
  rw [if_neg ν]
  simp only [show (2:Int).toNat=1+1 from rfl,this]
  rfl
 rw [r5]
 subst hg
 simp
 refine S7.text.use ?_
 simp
 refine S6.text.use ?_
 simp
 refine (S7.Aaw (n:=5) ω (.inr ν)).use ?_
 simp
theorem A51:As Tryz.prog 10 [] (.bool true):=As.Ba (k:=1) (A50.mono fun x h hx=>by subst hx;rfl)
theorem Nt (h:Heap):CSem Tryz.prog 10 [] h fun x h'=>x = .bool true∧h'=h:=A51.call (k:=1) rfl
theorem out22 (h:Heap) (K:AV→Heap→Prop) (hK:K (.bool true) h):Call Tryz.prog 10 [] h K:=(Nt h).use hK
end Go.Proofs.YtmbndhciflilbaaGreatDoor.X
