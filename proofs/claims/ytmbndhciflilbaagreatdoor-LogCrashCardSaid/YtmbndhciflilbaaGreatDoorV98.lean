/-
  law22.made; logs that are none; ref22.
-/
import Derived.Test.YtmbndhciflilbaaGreatDoorV97
namespace Go.Proofs.YtmbndhciflilbaaGreatDoor.X
open Go.RowKit F
set_option maxRecDepth 100000
set_option linter.unusedSimpArgs false
set_option linter.unusedVariables false
theorem Wz {c:Cfg} (hc:Ax c) (hsm:c.k+c.m≤7∧c.st≤6) (h:Heap) (hlp:h.lp=none):CSem Tryz.prog 11 [CfA c] h (MadeQ c [] h):=by
 refine CSem.body hm Tryz.func11 rfl κ κ (by simp [Tryz.ntmps11]) ?_
 have haggC:aggT Tryz.prog 23=some true:=by kernel_rfl
 have hzC:szT Tryz.prog 23=some 5:=by kernel_rfl
 have hcC:(CfA c).cells=[.int .i64 c.k,.int .i64 c.m,.int .i64 c.sh,.int .i64 c.st,.int .i64 c.sl]:=rfl
 have h1:=hc.1.1
 have h2:=hc.1.2.1
 have h3:=hc.1.2.2
 have h4:=hc.2.2.1
 have h5:=hc.2.2.2.1
 have h6:=hc.2.2.2.2.1
 have h7:=hc.2.2.2.2.2
 have h0:0≤c.k * c.sh:=Int.mul_nonneg ω ω
 have hcd:C7 c=c.k+c.m:=by rw [C7,if_pos hc]
 refine Nd (fun r1 h1=>rg r1 1 = .ptr h.next 0∧h1=h.alloc [.int .i64 c.k,.int .i64 c.m,.int .i64 c.sh,.int .i64 c.st,.int .i64 c.sl]) ?_ (by simp [hcC])
 rintro r1 _ ⟨r1',rfl⟩
 have e0:(h.alloc [.int .i64 c.k,.int .i64 c.m,.int .i64 c.sh,.int .i64 c.st,.int .i64 c.sl]).get h.next=some [.int .i64 c.k,.int .i64 c.m,.int .i64 c.sh,.int .i64 c.st,.int .i64 c.sl]:=Heap.A9 _ _
 have E0:Ext h (h.alloc [.int .i64 c.k,.int .i64 c.m,.int .i64 c.sh,.int .i64 c.st,.int .i64 c.sl]):=(Ext.refl h).alloc _
 generalize h.alloc [.int .i64 c.k,.int .i64 c.m,.int .i64 c.sh,.int .i64 c.st,.int .i64 c.sl]=H at e0 E0 ⊢
 rw [Eb]
 have hN:((c.k+c.m).toNat:Int)=c.k+c.m:=by omega
 have hnew:∀ h1:Heap,CSem Tryz.prog 27 [.int .i64 (c.k+c.m),.int .i64 (1+c.sl+c.st),.int .i64 (c.k * c.sh+42)] h1 fun x h'=> ∃ p,x = .tup [.ptr p 0,.int .i64 0]∧At (ArrA p (A6p c)) (fun b=>b < h1.next) h'∧Ext h1 h':=fun h1=>by
  have:=Aeb (N:=(c.k+c.m).toNat) (n:=1+c.sl+c.st) (z:=c.k * c.sh+42) ω ω ⟨ω,ω,ω,ω⟩ h1
  rw [hN] at this
  exact this
 generalize hna:A6p c=na at hnew
 refine Hx (fun L r h'=>FrH na H H (L 6) (L 7) (L 8) (L 10) (rg r 15) (rg r 8) (rg r 16) (rg r 4) h') (FrV c) κ ⟨fun _=>rfl,fun h=>by cases h⟩ ?_ ?_
 ·intro L r2 H1 hH cl hr
  have q1:rg r2 1 = .ptr h.next 0:=(Dr hr κ).trans r1'
  have eH:L 6=false→H1=H:=fun h6=>hH.1 h6
  refine ⟨?_,?_,?_,?_,?_,?_,?_,?_,?_,?_,?_,?_,trivial⟩
  all_goals (intro hL hd;simp [DepL,VL,FrV,Region.binds] at hd)
  ·have h6:=cl 6 1 κ (cl 1 0 κ hL)
   rw [eH h6] at hH ⊢
   simp [q1,e0,Ac haggC,hzC,takeN,FrV,CfA]
   exact ⟨_,rfl,rfl,hH⟩
  ·have h6:=cl 6 1 κ hL
   rw [eH h6] at hH ⊢
   simp [hd]
   refine ((A3u c).call (k:=2) (by simp [CfA,snap,mapL])).use ?_
   simp [FrV]
   exact ⟨_,rfl,rfl,hH⟩
  ·have h6:=cl 6 3 κ (cl 3 2 κ hL)
   rw [eH h6] at hH ⊢
   simp [q1,e0,Ac haggC,hzC,takeN,FrV,CfA]
   exact ⟨_,rfl,rfl,hH⟩
  ·have h6:=cl 6 3 κ hL
   rw [eH h6] at hH ⊢
   simp [hd]
   refine ((Yd hc).call (k:=2) (by simp [CfA,snap,mapL])).use ?_
   simp [FrV]
   exact ⟨_,rfl,rfl,hH⟩
  ·have h6:=cl 6 5 κ (cl 5 4 κ hL)
   rw [eH h6] at hH ⊢
   simp [q1,e0,Ac haggC,hzC,takeN,FrV,CfA]
   exact ⟨_,rfl,rfl,hH⟩
  ·have h6:=cl 6 5 κ hL
   rw [eH h6] at hH ⊢
   simp [hd]
   refine ((A6q hc).call (k:=2) (by simp [CfA,snap,mapL])).use ?_
   simp [FrV]
   exact ⟨_,rfl,rfl,hH⟩
  ·have l6:L 6=false:=hL
   have h7:=cl 7 6 κ hL
   have h8:=cl 8 7 κ h7
   have h10:=cl 10 8 κ h8
   rw [eH l6]
   simp [hd,hcd]
   refine (hnew H).then ?_
   rintro _ h' ⟨p,rfl,A,E⟩
   simp [FrV,h7,h8,h10]
   have X:∀ v5 v13 v3,FrH na H H true false false false (.tup [.ptr p 0,.int .i64 0]) v5 v13 v3 h':=fun v5 v13 v3=>⟨fun h=>(by cases h),fun _=>⟨p,rfl,fun h=>(by cases h),fun h=>(by cases h),fun h=>(by cases h),A,E⟩⟩
   first|exact ⟨⟨_,rfl⟩,X _ _ _⟩|exact ⟨_,rfl,X _ _ _⟩
  ·have l6:L 6=true:=by simp [hd]
   rw [l6] at hH
   obtain ⟨p,h12,h5,h13,h3,A,E⟩:=hH.2 rfl
   simp [h12,l6]
   have X:FrH na H H true true (L 8) (L 10) (.tup [.ptr p 0,.int .i64 0]) (.tup [.ptr p 0,.int .i64 0]) (rg r2 16) (rg r2 4) H1:=⟨fun h=>(by cases h),fun _=>⟨p,rfl,fun _=>rfl,h13,h3,A,E⟩⟩
   first|exact ⟨⟨_,rfl⟩,trivial,X⟩|exact ⟨⟨_,rfl⟩,X⟩|exact ⟨_,rfl,trivial,X⟩|exact ⟨_,rfl,X⟩
  ·have l7:L 7=true:=by simp [hd]
   have l6:L 6=true:=by
    cases h6:L 6 with
    | true=>rfl
    | false=>have:=cl 7 6 κ h6;rw [l7] at this;cases this
   rw [l6] at hH
   obtain ⟨p,h12,h5,h13,h3,A,E⟩:=hH.2 rfl
   have h5:=h5 l7
   simp [h5,l6,h12,l7]
   have X:FrH na H H true true true (L 10) (.tup [.ptr p 0,.int .i64 0]) (.tup [.ptr p 0,.int .i64 0]) (.ptr p 0) (rg r2 4) H1:=⟨fun h=>(by cases h),fun _=>⟨p,rfl,fun _=>rfl,fun _=>rfl,h3,A,E⟩⟩
   first|exact ⟨⟨_,rfl⟩,trivial,X⟩|exact ⟨⟨_,rfl⟩,X⟩|exact ⟨_,rfl,trivial,X⟩|exact ⟨_,rfl,X⟩
  ·have l7:L 7=true:=by simp [hd]
   have l6:L 6=true:=by
    cases h6:L 6 with
    | true=>rfl
    | false=>have:=cl 7 6 κ h6;rw [l7] at this;cases this
   obtain ⟨p,h12,h5,h13,h3,A,E⟩:=hH.2 l6
   have h5:=h5 l7
   rw [h5] at hH
   simp [h5]
   first|exact ⟨⟨_,rfl⟩,trivial,hH⟩|exact ⟨⟨_,rfl⟩,hH⟩|exact ⟨_,rfl,trivial,hH⟩|exact ⟨_,rfl,hH⟩
  ·have l8:L 8=true:=by simp [hd]
   have l7:L 7=true:=by
    cases h7:L 7 with
    | true=>rfl
    | false=>have:=cl 8 7 κ h7;rw [l8] at this;cases this
   have l6:L 6=true:=by
    cases h6:L 6 with
    | true=>rfl
    | false=>have:=cl 7 6 κ h6;rw [l7] at this;cases this
   rw [l6] at hH
   obtain ⟨p,h12,h5,h13,h3,A,E⟩:=hH.2 rfl
   have h13:=h13 l8
   simp [h13,h12,l6,l7,l8]
   have X:FrH na H H true true true true (.tup [.ptr p 0,.int .i64 0]) (rg r2 8) (.ptr p 0) (.ptr p 0) H1:=⟨fun h=>(by cases h),fun _=>⟨p,rfl,fun _=>h5 l7,fun _=>rfl,fun _=>rfl,A,E⟩⟩
   first|exact ⟨⟨_,rfl⟩,trivial,X⟩|exact ⟨⟨_,rfl⟩,X⟩|exact ⟨_,rfl,trivial,X⟩|exact ⟨_,rfl,X⟩
  ·simp
   first|exact ⟨⟨_,rfl⟩,trivial,hH⟩|exact ⟨⟨_,rfl⟩,hH⟩|exact ⟨_,rfl,trivial,hH⟩|exact ⟨_,rfl,hH⟩
 ·intro L r2 H1 hall hH hr hA
  obtain ⟨p,_,_,_,h3,A,E⟩:=hH.2 (hall 6 ν)
  have q6:=h3 (hall 10 ν)
  have q2:rg r2 1 = .ptr h.next 0:=(hr 1 μ).trans r1'
  subst hna
  have hfe:A6p c=Le c:=rfl
  rw [hfe] at A
  obtain ⟨q,nb,cells,ps,A⟩:=A.arrI (A3s hc hsm.1).b.one
  have gc:=E.got e0
  have en:=E0.next
  simp [q6,q2,gc,Ac haggC,hzC,takeN]
  refine (Aaq hc hsm (E.lp.trans (E0.lp.trans hlp)) A).then ?_
  rintro _ H3 ⟨pv,rfl,LV,F3⟩
  obtain ⟨W0,_,_⟩:=Ut hc [] 0 ω
  simp [q6]
  exact ⟨p,q,nb,cells,ps,pv,rfl,(LV.less (fun b hb=>by omega)).mono (LV.q.qt W0.v.qt),fun x hx=>(F3 x ω).trans ((E.get x ω).trans (E0.get x hx))⟩
end Go.Proofs.YtmbndhciflilbaaGreatDoor.X
