/-
  law22.live; LogNil.
-/
import Derived.Test.YtmbndhciflilbaaGreatDoorV99
namespace Go.Proofs.YtmbndhciflilbaaGreatDoor.X
open Go.RowKit F
set_option maxRecDepth 100000
set_option linter.unusedSimpArgs false
set_option linter.unusedVariables false
theorem lopen_nil (n m:Int) (h:Heap):CSem Tryz.prog 12 [.nilPtr,.int .i64 n,.int .i64 m] h fun x h'=>x = .tup [.nilPtr,.int .i64 1]∧h'=h:=by
 refine CSem.body hm Tryz.func12 rfl (by kernel_rfl) (by kernel_rfl) (by simp [Tryz.ntmps12]) ?_
 have hfx:fieldX Tryz.prog 23 (CfA cfg0) 3=some (.int .i64 0):=by kernel_rfl
 simp [Tryz.f12]
 refine (vconf_nil _).use ?_
 simp [hfx]
def cw22:Cfg:=⟨1,1,8,4,1⟩
theorem cw22P:ConfP cw22:=by decide
theorem live22_sem0:CSem Tryz.prog 10 [] Heap.empty fun x h'=>x = .bool true:=by
 refine CSem.body hm Tryz.func10 rfl (by kernel_rfl) (by kernel_rfl) (by simp [Tryz.ntmps10]) ?_
 have haggC:aggT Tryz.prog 23=some true:=by kernel_rfl
 have hzC:szT Tryz.prog 23=some 5:=by kernel_rfl
 have hzz:zeroAV Tryz.prog 23=some (.agg [.int .i64 0,.int .i64 0,.int .i64 0,.int .i64 0,.int .i64 0]):=by kernel_rfl
 have hbd:buildX Tryz.prog 23 [(0,.int .i64 1),(1,.int .i64 1),(2,.int .i64 8),(3,.int .i64 4),(4,.int .i64 1)]=some (.agg [.int .i64 1,.int .i64 1,.int .i64 8,.int .i64 4,.int .i64 1]):=by kernel_rfl
 simp only [Tryz.f10]
 generalize hg:Code.seq (Code.region 15 _ _) _=c15
 have e0:∀ zs,(Heap.empty.alloc zs).get 0=some zs:=fun zs=>Heap.get_alloc_same Heap.empty zs
 simp [hbd,hzz,AV.cells,storeX_agg,hzC,putN,e0]
 have e1:((Heap.empty.alloc [.int .i64 0,.int .i64 0,.int .i64 0,.int .i64 0,.int .i64 0]).put 0 [.int .i64 1,.int .i64 1,.int .i64 8,.int .i64 4,.int .i64 1]).get 0=some [.int .i64 1,.int .i64 1,.int .i64 8,.int .i64 4,.int .i64 1]:=Heap.get_put_same (e0 _)
 have lp1:((Heap.empty.alloc [.int .i64 0,.int .i64 0,.int .i64 0,.int .i64 0,.int .i64 0]).put 0 [.int .i64 1,.int .i64 1,.int .i64 8,.int .i64 4,.int .i64 1]).lp=none:=rfl
 generalize (Heap.empty.alloc [.int .i64 0,.int .i64 0,.int .i64 0,.int .i64 0,.int .i64 0]).put 0 [.int .i64 1,.int .i64 1,.int .i64 8,.int .i64 4,.int .i64 1]=H1 at e1 lp1 ⊢
 simp [e1,loadX_agg haggC,hzC,takeN]
 refine (made22_sem cw22P (by decide) _ lp1).then ?_
 rintro _ H2 ⟨p,q,nb,cells,ps,pv,rfl,LH,_⟩
 obtain ⟨W,s0,s1⟩:=made_ok cw22P [] 0 (by omega)
 have LH:LawV p q nb cells ps pv cw22 0 (madeL cw22 [] 0).1 (madeL cw22 [] 0).2 (fun _=>False) H2:=LH.less fun _ h=>h.elim
 generalize madeL cw22 [] 0=aq at LH W s0 s1
 obtain ⟨a0,sq⟩:=aq
 simp only at LH W s0 s1
 have hM:madeM cw22 [] 0=[[],[],[],[]]:=rfl
 rw [hM] at W
 simp
 refine (LgS.new (z:=4) (f:=1) (count:=3) LH cw22P (by decide) (by decide) W (by decide) s0 (by decide) (by decide) (fun i hi=>by
  have:i=0∨i=1∨i=2:=by omega
  rcases this with rfl|rfl|rfl<;>rfl)).then ?_
 rintro _ H3 ⟨lb,wb,rfl,S3,_⟩
 simp
 refine (lopen_bad S3.H cw22P (f:=2) (count:=3) (by decide)).then ?_
 rintro _ _ ⟨rfl,rfl⟩
 simp
 refine S3.room.use ?_
 simp
 refine (S3.append (s:=[97,98,99,100,101,102]) (by omega) (by decide)).then ?_
 rintro _ H4 ⟨rfl,a4,sq4,L4,S4,_,_,q4⟩
 simp at S4
 simp
 refine S4.text.use ?_
 simp
 refine (S4.read 2).use ?_
 have r4:mRd cw22 L4 2=([101,102],0):=by
  have:=S4.G.at_ 1 (by decide)
  have e:(prts 4 [97,98,99,100,101,102] 3)[1]? = some [101,102]:=rfl
  rw [e] at this
  unfold mRd
  rw [if_neg (by decide)]
  simp only [show (2:Int).toNat=1+1 from rfl,this]
  rfl
 rw [r4]
 simp
 refine (S4.full (s:=[48,49,50,51,52,53,54]) (by omega) (by decide) (by decide)).then ?_
 rintro _ _ ⟨rfl,rfl⟩
 simp
 refine (S4.trunc (m:=4) (by omega) (by decide)).then ?_
 rintro _ H5 ⟨rfl,a5,sq5,L5,S5,_,_,q5⟩
 simp at S5
 simp
 refine (S5.open_ (by decide)).then ?_
 rintro _ H6 ⟨lk,wk,rfl,S6,F6,_⟩
 have S7:LgS p q nb cells ps pv lb wb 1 3 cw22 4 a5 sq5 L5 [97,98,99,100] (fun x=>((x=lb∨x=wb)∨x=lk)∨x=wk) H6:=⟨S6.H,S6.G,S5.A.keep (F6 lb S5.h1) (F6 wb S5.h2),S6.le,S6.lf,.inl (.inl S5.h1),.inl (.inl S5.h2),S6.hC,S6.hz,S6.h6⟩
 simp
 refine (S6.read 2).use ?_
 have r5:mRd cw22 L5 2=([],0):=by
  have:=S6.G.at_ 1 (by decide)
  have e:(prts 4 [97,98,99,100] 3)[1]? = some []:=rfl
  rw [e] at this
  unfold mRd
  rw [if_neg (by decide)]
  simp only [show (2:Int).toNat=1+1 from rfl,this]
  rfl
 rw [r5]
 subst hg
 simp
 refine S7.text.use ?_
 simp
 refine S6.text.use ?_
 simp
 refine (S7.trunc_bad (n:=5) (by omega) (.inr (by decide))).use ?_
 simp
theorem live22_pure:CPure Tryz.prog 10 [] (.bool true):=CPure.of_sem (k:=1) (live22_sem0.mono fun x h hx=>by subst hx;rfl)
theorem live22_call (h:Heap):CSem Tryz.prog 10 [] h fun x h'=>x = .bool true∧h'=h:=live22_pure.call (k:=1) rfl
theorem out22 (h:Heap) (K:AV→Heap→Prop) (hK:K (.bool true) h):Call Tryz.prog 10 [] h K:=(live22_call h).use hK
theorem logNil_pure (n:Int) (s:Txt) (_:(Lit.int .i64 n).wf=true) (_:s.length < 2 ^ 63):CPure Tryz.prog 4 [.int .i64 n,S s] (.bool true):=by
 refine CPure.of_sem (k:=1) ?_
 refine CSem.body hm Tryz.func4 rfl (by kernel_rfl) (by kernel_rfl) (by simp [Tryz.ntmps4]) ?_
 have hout:∀ (h:Heap) (K:AV→Heap→Prop),K (.bool true) h→Call Tryz.prog 10 [] h K:=out22
 simp [Tryz.f4]
 refine (lopen_nil n n _).use ?_
 simp
 refine (ltext_nil _).use ?_
 simp
 refine (lroom_nil _).use ?_
 simp
 refine (lappend_nil s _).use ?_
 simp
 refine (ltrunc_nil n _).use ?_
 simp
 refine hout _ _ ?_
 simp
end Go.Proofs.YtmbndhciflilbaaGreatDoor.X
