/-
  Texts of a proof, as one: V59, V60, V61, V62.
-/
import Derived.Test.YtjcnihmbpakipaaGreatDoorVE
namespace Go.Proofs.YtjcnihmbpakipaaGreatDoor.X
open Go.RowKit F
set_option maxRecDepth 100000
set_option linter.unusedSimpArgs false
set_option linter.unusedVariables false
theorem rdisks_pure (c:Cfg):CPure Tryz.prog 36 [CfA c] (.int .i64 (confDisks c)):=by
 refine CPure.of_sem (k:=1) ?_
 refine CSem.body hm Tryz.func36 rfl (by kernel_rfl) (by kernel_rfl) (by simp [Tryz.ntmps36]) ?_
 simp [Tryz.f36,CfA,AV.cells,fieldAddrX,loadX_agg,takeN,Heap.get_alloc]
 refine (rconfOf_call c _ _).use ?_
 simp [disksW]
theorem rsectors_pure {c:Cfg} (hc:ConfP c):CPure Tryz.prog 37 [CfA c] (.int .i64 (1+c.sl+c.st)):=by
 refine CPure.of_sem (k:=1) ?_
 refine CSem.body hm Tryz.func37 rfl (by kernel_rfl) (by kernel_rfl) (by simp [Tryz.ntmps37]) ?_
 simp [Tryz.f37,CfA,AV.cells,fieldAddrX,loadX_agg,takeN,Heap.get_alloc]
 refine (rconfOf_call c _ _).use ?_
 have h1:=hc.2.2.2.2.1
 have h2:=hc.2.2.2.1
 have w1:IntKind.i64.wrap (1+c.sl)=1+c.sl:=wrap64 (by omega) (by omega)
 have w2:IntKind.i64.wrap (1+c.sl+c.st)=1+c.sl+c.st:=wrap64 (by omega) (by omega)
 simp [hc,w1,w2]
theorem rsize_pure {c:Cfg} (hc:ConfP c):CPure Tryz.prog 38 [CfA c] (.int .i64 (c.k * c.sh+42)):=by
 refine CPure.of_sem (k:=1) ?_
 refine CSem.body hm Tryz.func38 rfl (by kernel_rfl) (by kernel_rfl) (by simp [Tryz.ntmps38]) ?_
 simp [Tryz.f38,CfA,AV.cells,fieldAddrX,loadX_agg,takeN,Heap.get_alloc]
 refine (rconfOf_call c _ _).use ?_
 have h1:=hc.1.1
 have h2:=hc.2.2.1
 have h3:=hc.2.2.2.2.2
 have h0:0≤c.k * c.sh:=Int.mul_nonneg (by omega) (by omega)
 have w0:IntKind.i64.wrap (c.k * c.sh)=c.k * c.sh:=wrap64 (by omega) (by omega)
 have w1:IntKind.i64.wrap (c.k * c.sh+16)=c.k * c.sh+16:=wrap64 (by omega) (by omega)
 have w2:IntKind.i64.wrap (c.k * c.sh+16+26)=c.k * c.sh+42:=by rw [wrap64 (by omega) (by omega)];omega
 simp [hc,w0,w1,w2]
def FrH (A:Arr) (h0 H:Heap) (b6 b7 b8 b10:Bool) (v12 v5 v13 v3:AV) (h:Heap):Prop :=
 (b6=false→h=H)∧(b6=true→∃ p,v12 = .tup [.ptr p 0,.int .i64 0]∧(b7=true→v5 = .tup [.ptr p 0,.int .i64 0])∧(b8=true→v13 = .ptr p 0)∧(b10=true→v3 = .ptr p 0)∧At (ArrA p A) (fun b=>b < h0.next) h∧Ext h0 h)
def FrV (c:Cfg):Nat→AV→Prop
 | 0,v=>v=CfA c
 | 1,v=>v = .int .i64 (confDisks c)
 | 2,v=>v=CfA c
 | 3,v=>v = .int .i64 (1+c.sl+c.st)
 | 4,v=>v=CfA c
 | 5,v=>v = .int .i64 (c.k * c.sh+42)
 | _,v=>True
def freshR (c:Cfg):Arr:=newArr (c.k+c.m) (1+c.sl+c.st) (c.k * c.sh+42)
theorem fresh_sem {c:Cfg} (hc:ConfP c) (h:Heap):CSem Tryz.prog 12 [CfA c] h fun x h'=> ∃ p,x = .ptr p 0∧At (ArrA p (freshR c)) (fun b=>b < h.next) h'∧Ext h h':=by
 refine CSem.body hm Tryz.func12 rfl (by kernel_rfl) (by kernel_rfl) (by simp [Tryz.ntmps12]) ?_
 have haggC:aggT Tryz.prog 23=some true:=by kernel_rfl
 have hzC:szT Tryz.prog 23=some 5:=by kernel_rfl
 have hcC:(CfA c).cells=[.int .i64 c.k,.int .i64 c.m,.int .i64 c.sh,.int .i64 c.st,.int .i64 c.sl]:=rfl
 have h1:=hc.1.1
 have h2:=hc.1.2.1
 have h3:=hc.1.2.2
 have h4:=hc.2.2.1
 have h5:=hc.2.2.2.1
 have h6:=hc.2.2.2.2.1
 have h7:=hc.2.2.2.2.2
 have h0:0≤c.k * c.sh:=Int.mul_nonneg (by omega) (by omega)
 have hcd:confDisks c=c.k+c.m:=by rw [confDisks,if_pos hc]
 refine wpc_st (fun r1 h1=>rg r1 1 = .ptr h.next 0∧h1=h.alloc [.int .i64 c.k,.int .i64 c.m,.int .i64 c.sh,.int .i64 c.st,.int .i64 c.sl]) ?_ (by simp [hcC])
 rintro r1 _ ⟨r1',rfl⟩
 have e0:(h.alloc [.int .i64 c.k,.int .i64 c.m,.int .i64 c.sh,.int .i64 c.st,.int .i64 c.sl]).get h.next=some [.int .i64 c.k,.int .i64 c.m,.int .i64 c.sh,.int .i64 c.st,.int .i64 c.sl]:=Heap.get_alloc_same _ _
 have E0:Ext h (h.alloc [.int .i64 c.k,.int .i64 c.m,.int .i64 c.sh,.int .i64 c.st,.int .i64 c.sl]):=(Ext.refl h).alloc _
 generalize h.alloc [.int .i64 c.k,.int .i64 c.m,.int .i64 c.sh,.int .i64 c.st,.int .i64 c.sl]=H at e0 E0 ⊢
 rw [wpc_seq]
 have hN:((c.k+c.m).toNat:Int)=c.k+c.m:=by omega
 have hnew:∀ h1:Heap,CSem Tryz.prog 35 [.int .i64 (c.k+c.m),.int .i64 (1+c.sl+c.st),.int .i64 (c.k * c.sh+42)] h1 fun x h'=> ∃ p,x = .tup [.ptr p 0,.int .i64 0]∧At (ArrA p (freshR c)) (fun b=>b < h1.next) h'∧Ext h1 h':=fun h1=>by
  have:=anew_sem (N:=(c.k+c.m).toNat) (n:=1+c.sl+c.st) (z:=c.k * c.sh+42) (by omega) (by omega) ⟨by omega,by omega,by omega,by omega⟩ h1
  rw [hN] at this
  exact this
 generalize freshR c=na at hnew ⊢
 refine wpc_ordJ (fun L r h'=>FrH na h H (L 6) (L 7) (L 8) (L 10) (rg r 12) (rg r 5) (rg r 13) (rg r 3) h') (FrV c) (by kernel_rfl) ⟨fun _=>rfl,fun h=>by cases h⟩ ?_ ?_
 ·intro L r2 H1 hH cl hr
  have q1:rg r2 1 = .ptr h.next 0:=(ordReg0 hr (by kernel_rfl)).trans r1'
  have eH:L 6=false→H1=H:=fun h6=>hH.1 h6
  refine ⟨?_,?_,?_,?_,?_,?_,?_,?_,?_,?_,?_,?_,trivial⟩
  all_goals (intro hL hd;simp [DepL,VL,FrV,Region.binds] at hd)
  ·have h6:=cl 6 1 (by kernel_rfl) (cl 1 0 (by kernel_rfl) hL)
   rw [eH h6] at hH ⊢
   simp [q1,e0,loadX_agg haggC,hzC,takeN,FrV,CfA]
   exact ⟨_,rfl,rfl,hH⟩
  ·have h6:=cl 6 1 (by kernel_rfl) hL
   rw [eH h6] at hH ⊢
   simp [hd]
   refine ((rdisks_pure c).call (k:=2) (by simp [CfA,snap,mapL])).use ?_
   simp [FrV]
   exact ⟨_,rfl,rfl,hH⟩
  ·have h6:=cl 6 3 (by kernel_rfl) (cl 3 2 (by kernel_rfl) hL)
   rw [eH h6] at hH ⊢
   simp [q1,e0,loadX_agg haggC,hzC,takeN,FrV,CfA]
   exact ⟨_,rfl,rfl,hH⟩
  ·have h6:=cl 6 3 (by kernel_rfl) hL
   rw [eH h6] at hH ⊢
   simp [hd]
   refine ((rsectors_pure hc).call (k:=2) (by simp [CfA,snap,mapL])).use ?_
   simp [FrV]
   exact ⟨_,rfl,rfl,hH⟩
  ·have h6:=cl 6 5 (by kernel_rfl) (cl 5 4 (by kernel_rfl) hL)
   rw [eH h6] at hH ⊢
   simp [q1,e0,loadX_agg haggC,hzC,takeN,FrV,CfA]
   exact ⟨_,rfl,rfl,hH⟩
  ·have h6:=cl 6 5 (by kernel_rfl) hL
   rw [eH h6] at hH ⊢
   simp [hd]
   refine ((rsize_pure hc).call (k:=2) (by simp [CfA,snap,mapL])).use ?_
   simp [FrV]
   exact ⟨_,rfl,rfl,hH⟩
  ·have l6:L 6=false:=hL
   have h7:=cl 7 6 (by kernel_rfl) hL
   have h8:=cl 8 7 (by kernel_rfl) h7
   have h10:=cl 10 8 (by kernel_rfl) h8
   rw [eH l6]
   simp [hd,hcd]
   refine (hnew H).then ?_
   rintro _ h' ⟨p,rfl,A,E⟩
   simp [FrV,h7,h8,h10]
   have X:∀ v5 v13 v3,FrH na h H true false false false (.tup [.ptr p 0,.int .i64 0]) v5 v13 v3 h':=fun v5 v13 v3=>⟨fun h=>(by cases h),fun _=>⟨p,rfl,fun h=>(by cases h),fun h=>(by cases h),fun h=>(by cases h),A.mono fun b hb=>Nat.lt_of_lt_of_le hb E0.next,E0.trans E⟩⟩
   first|exact ⟨⟨_,rfl⟩,X _ _ _⟩|exact ⟨_,rfl,X _ _ _⟩
  ·have l6:L 6=true:=by simp [hd]
   rw [l6] at hH
   obtain ⟨p,h12,h5,h13,h3,A,E⟩:=hH.2 rfl
   simp [h12,l6]
   have X:FrH na h H true true (L 8) (L 10) (.tup [.ptr p 0,.int .i64 0]) (.tup [.ptr p 0,.int .i64 0]) (rg r2 13) (rg r2 3) H1:=⟨fun h=>(by cases h),fun _=>⟨p,rfl,fun _=>rfl,h13,h3,A,E⟩⟩
   first|exact ⟨⟨_,rfl⟩,trivial,X⟩|exact ⟨⟨_,rfl⟩,X⟩|exact ⟨_,rfl,trivial,X⟩|exact ⟨_,rfl,X⟩
  ·have l7:L 7=true:=by simp [hd]
   have l6:L 6=true:=by
    cases h6:L 6 with
    | true=>rfl
    | false=>have:=cl 7 6 (by kernel_rfl) h6;rw [l7] at this;cases this
   rw [l6] at hH
   obtain ⟨p,h12,h5,h13,h3,A,E⟩:=hH.2 rfl
   have h5:=h5 l7
   simp [h5,l6,h12,l7]
   have X:FrH na h H true true true (L 10) (.tup [.ptr p 0,.int .i64 0]) (.tup [.ptr p 0,.int .i64 0]) (.ptr p 0) (rg r2 3) H1:=⟨fun h=>(by cases h),fun _=>⟨p,rfl,fun _=>rfl,fun _=>rfl,h3,A,E⟩⟩
   first|exact ⟨⟨_,rfl⟩,trivial,X⟩|exact ⟨⟨_,rfl⟩,X⟩|exact ⟨_,rfl,trivial,X⟩|exact ⟨_,rfl,X⟩
  ·have l7:L 7=true:=by simp [hd]
   have l6:L 6=true:=by
    cases h6:L 6 with
    | true=>rfl
    | false=>have:=cl 7 6 (by kernel_rfl) h6;rw [l7] at this;cases this
   obtain ⟨p,h12,h5,h13,h3,A,E⟩:=hH.2 l6
   have h5:=h5 l7
   rw [h5] at hH
   simp [h5]
   first|exact ⟨⟨_,rfl⟩,trivial,hH⟩|exact ⟨⟨_,rfl⟩,hH⟩|exact ⟨_,rfl,trivial,hH⟩|exact ⟨_,rfl,hH⟩
  ·have l8:L 8=true:=by simp [hd]
   have l7:L 7=true:=by
    cases h7:L 7 with
    | true=>rfl
    | false=>have:=cl 8 7 (by kernel_rfl) h7;rw [l8] at this;cases this
   have l6:L 6=true:=by
    cases h6:L 6 with
    | true=>rfl
    | false=>have:=cl 7 6 (by kernel_rfl) h6;rw [l7] at this;cases this
   rw [l6] at hH
   obtain ⟨p,h12,h5,h13,h3,A,E⟩:=hH.2 rfl
   have h13:=h13 l8
   simp [h13,h12,l6,l7,l8]
   have X:FrH na h H true true true true (.tup [.ptr p 0,.int .i64 0]) (rg r2 5) (.ptr p 0) (.ptr p 0) H1:=⟨fun h=>(by cases h),fun _=>⟨p,rfl,fun _=>h5 l7,fun _=>rfl,fun _=>rfl,A,E⟩⟩
   first|exact ⟨⟨_,rfl⟩,trivial,X⟩|exact ⟨⟨_,rfl⟩,X⟩|exact ⟨_,rfl,trivial,X⟩|exact ⟨_,rfl,X⟩
  ·simp
   first|exact ⟨⟨_,rfl⟩,trivial,hH⟩|exact ⟨⟨_,rfl⟩,hH⟩|exact ⟨_,rfl,trivial,hH⟩|exact ⟨_,rfl,hH⟩
 ·intro L r2 H1 hall hH hr hA
  obtain ⟨p,_,_,_,h3,A,E⟩:=hH.2 (hall 6 (by decide))
  have h3:=h3 (hall 10 (by decide))
  simp [h3]
  exact ⟨A,E⟩
def cv:Cfg:=⟨2,1,8,2,1⟩
def hello:Txt:=[104,101,108,108,111]
def lv1:OpenD:=vmakeR (freshR cv) cv 7
def lv2:Arr×Int×Int:=vwriteR lv1.ar 7 cv 0 0 hello
def lv3:Arr:=(lv2.1.fail 1).1
def lv4:Arr:=(lv3.replace 1).1
def lv5:Arr×Int×Int:=vmendR lv4 7 cv 0
def lv6:Arr×Int×Int:=vheadsR lv5.1 7 cv
def lv7:OpenD:=vopenR lv6.1 7
def lv8:OpenD:=vopenR lv7.ar 8
def voB (c:Cfg) (s:Int):Option (Cfg×Int)→Bool
 | some (d,t)=>decide (d.k=c.k) && decide (d.m=c.m) && decide (d.sh=c.sh) && decide (d.st=c.st) && decide (d.sl=c.sl) && decide (t=s)
 | none=>false
theorem voB_eq {c:Cfg} {s:Int} {o:Option (Cfg×Int)} (h:voB c s o=true):o=some (c,s):=by
 match o with
 | none=>cases h
 | some (⟨k,m,sh,st,sl⟩,t) =>
  obtain ⟨k',m',sh',st',sl'⟩:=c
  simp [voB] at h
  obtain ⟨⟨⟨⟨⟨h1,h2⟩,h3⟩,h4⟩,h5⟩,h6⟩:=h
  subst h1 h2 h3 h4 h5 h6
  rfl
def liveB:Bool:=voB cv 0 lv1.vo && decide (lv1.er=0) && decide (lv2.2=(1,0)) && decide (vreadR lv3 7 cv 0=(hello,0)) && decide (vhealthR lv3 7 cv 0=(2,0)) && decide (lv5.2=(1,0)) && decide (lv6.2=(1,0)) &&
 voB cv 1 lv7.vo && decide (lv7.er=0) && decide (vreadR lv7.ar 7 cv 0=(hello,0)) && lv8.vo.isNone && decide (lv8.er=10) && decide (vreadR lv8.ar 7 cv 2=([],1))
theorem live_b:liveB=true:=by decide+kernel
theorem live_f:lv1.vo=some (cv,0)∧lv1.er=0∧lv2.2=(1,0)∧vreadR lv3 7 cv 0=(hello,0)∧vhealthR lv3 7 cv 0=(2,0)∧lv5.2=(1,0)∧lv6.2=(1,0)∧lv7.vo=some (cv,1)∧lv7.er=0∧vreadR lv7.ar 7 cv 0=(hello,0)∧lv8.vo=none∧lv8.er=10∧vreadR lv8.ar 7 cv 2=([],1):=by
 have h:=live_b
 simp only [liveB,Bool.and_eq_true,decide_eq_true_eq] at h
 obtain ⟨⟨⟨⟨⟨⟨⟨⟨⟨⟨⟨⟨h1,h2⟩,h3⟩,h4⟩,h5⟩,h6⟩,h7⟩,h8⟩,h9⟩,h10⟩,h11⟩,h12⟩,h13⟩:=h
 exact ⟨voB_eq h1,h2,h3,h4,h5,h6,h7,voB_eq h8,h9,h10,by simpa using h11,h12,h13⟩
def dskQB (k:Nat) (d:Dsk):Bool:=d.waits.all (fun w=>decide (0≤w.1) && decide (w.1 < d.secs.length) && decide (w.2.length≤4096)) && (!d.gone || d.waits.isEmpty) && decide (0≤d.size) && decide (d.size≤4096) && decide (d.secs.length≤4096) && decide (0 < d.secs.length) && decide (d.waits.length≤k) && d.secs.all (fun s=>decide (s.length≤4096))
def arrQB (k:Nat) (a:Arr):Bool:=a.disks.all (dskQB k) && decide (0 < a.disks.length) && decide (a.disks.length≤255) && decide (a.left < 2 ^ 62)
theorem arrQB_ok {k:Nat} {a:Arr} (h:arrQB k a=true):ArrQ k a:=by
 simp only [arrQB,Bool.and_eq_true,List.all_eq_true,decide_eq_true_eq] at h
 obtain ⟨⟨⟨h1,h2⟩,h3⟩,h4⟩:=h
 have hd:∀ d∈a.disks,DiskB k d∧DskL d:=by
  intro d hd
  have h:=h1 d hd
  simp only [dskQB,Bool.and_eq_true,List.all_eq_true,decide_eq_true_eq,Bool.or_eq_true,Bool.not_eq_true',List.isEmpty_iff] at h
  obtain ⟨⟨⟨⟨⟨⟨⟨g1,g2⟩,g3⟩,g4⟩,g5⟩,g6⟩,g7⟩,g8⟩:=h
  refine ⟨⟨⟨fun w hw=>(g1 w hw).1,fun hg=> ?_,g3,g5⟩,g6,g7⟩,⟨g4,g8,fun w hw=>(g1 w hw).2⟩⟩
  rcases g2 with g2|g2
  ·rw [hg] at g2;cases g2
  ·exact g2
 exact ⟨⟨fun d hd'=>(hd d hd').1,h2,h3,h4⟩,fun d hd'=>(hd d hd').2⟩
def liveQ:Bool:=arrQB 100 (freshR cv) && arrQB 100 lv1.ar && arrQB 100 lv2.1 && arrQB 100 lv3 && arrQB 100 lv4 && arrQB 100 lv5.1 && arrQB 100 lv6.1 && arrQB 100 lv7.ar && arrQB 100 lv8.ar && decide (lv1.ar.disks.length=3) && decide (lv3.disks.length=3) && decide (lv4.disks.length=3) &&
 (match headR lv6.1 7 with|some c=>decide (c.st≤12)|none=>true) && (match headR lv7.ar 8 with|some c=>decide (c.st≤12)|none=>true)
theorem live_q:liveQ=true:=by decide+kernel
theorem live_g:(ArrQ 100 (freshR cv)∧ArrQ 100 lv1.ar∧ArrQ 100 lv2.1∧ArrQ 100 lv3∧ArrQ 100 lv4∧ArrQ 100 lv5.1∧ArrQ 100 lv6.1∧ArrQ 100 lv7.ar∧ArrQ 100 lv8.ar)∧lv1.ar.disks.length=3∧lv3.disks.length=3∧lv4.disks.length=3∧(∀ c,headR lv6.1 7=some c→c.st≤12)∧(∀ c,headR lv7.ar 8=some c→c.st≤12):=by
 have h:=live_q
 simp only [liveQ,Bool.and_eq_true,decide_eq_true_eq] at h
 obtain ⟨⟨⟨⟨⟨⟨⟨⟨⟨⟨⟨⟨⟨h1,h2⟩,h3⟩,h4⟩,h5⟩,h6⟩,h7⟩,h8⟩,h9⟩,h10⟩,h11⟩,h12⟩,h13⟩,h14⟩:=h
 refine ⟨⟨arrQB_ok h1,arrQB_ok h2,arrQB_ok h3,arrQB_ok h4,arrQB_ok h5,arrQB_ok h6,arrQB_ok h7,arrQB_ok h8,arrQB_ok h9⟩,h10,h11,h12,fun c hc=> ?_,fun c hc=> ?_⟩
 ·rw [hc] at h13;simpa using h13
 ·rw [hc] at h14;simpa using h14
theorem cvP:ConfP cv:=by decide
theorem live_sem0:CSem Tryz.prog 11 [] Heap.empty fun x h'=>x = .bool true:=by
 refine CSem.body hm Tryz.func11 rfl (by kernel_rfl) (by kernel_rfl) (by simp [Tryz.ntmps11]) ?_
 have haggC:aggT Tryz.prog 23=some true:=by kernel_rfl
 have hzC:szT Tryz.prog 23=some 5:=by kernel_rfl
 have hzz:zeroAV Tryz.prog 23=some (.agg [.int .i64 0,.int .i64 0,.int .i64 0,.int .i64 0,.int .i64 0]):=by kernel_rfl
 have hbd:buildX Tryz.prog 23 [(0,.int .i64 2),(1,.int .i64 1),(2,.int .i64 8),(3,.int .i64 2),(4,.int .i64 1)]=some (CfA cv):=by kernel_rfl
 have hcmp:binX Tryz.prog .eql 23 (CfA cv) (.agg [.int .i64 2,.int .i64 1,.int .i64 8,.int .i64 2,.int .i64 1])=some (.bool true):=by kernel_rfl
 have hcC:CfA cv = .agg [.int .i64 2,.int .i64 1,.int .i64 8,.int .i64 2,.int .i64 1]:=rfl
 obtain ⟨⟨Q0,Q1,Q2,Q3,Q4,Q5,Q6,Q7,Q8⟩,L1,L3,L4,S6,S7⟩:=live_g
 obtain ⟨f1,f2,f3,f4,f5,f6,f7,f8,f9,f10,f11,f12,f13⟩:=live_f
 simp only [Tryz.f11]
 generalize hg:Code.seq (Code.region 16 _ _) _=c16
 have e0:∀ zs,(Heap.empty.alloc zs).get 0=some zs:=fun zs=>Heap.get_alloc_same Heap.empty zs
 simp [hbd,hcC,hzz,AV.cells,storeX_agg,hzC,putN,e0]
 have e1:((Heap.empty.alloc [.int .i64 0,.int .i64 0,.int .i64 0,.int .i64 0,.int .i64 0]).put 0 [.int .i64 2,.int .i64 1,.int .i64 8,.int .i64 2,.int .i64 1]).get 0=some [.int .i64 2,.int .i64 1,.int .i64 8,.int .i64 2,.int .i64 1]:=Heap.get_put_same (e0 _)
 have lp1:((Heap.empty.alloc [.int .i64 0,.int .i64 0,.int .i64 0,.int .i64 0,.int .i64 0]).put 0 [.int .i64 2,.int .i64 1,.int .i64 8,.int .i64 2,.int .i64 1]).lp=none:=rfl
 generalize (Heap.empty.alloc [.int .i64 0,.int .i64 0,.int .i64 0,.int .i64 0,.int .i64 0]).put 0 [.int .i64 2,.int .i64 1,.int .i64 8,.int .i64 2,.int .i64 1]=H1 at e1 lp1 ⊢
 have hpos1:=Heap.get_lt e1
 simp [e1,loadX_agg haggC,hzC,takeN]
 refine (fresh_sem cvP H1).then ?_
 rintro _ H2 ⟨p,rfl,A2,E2⟩
 obtain ⟨q,n,cells,ps,A2⟩:=A2.arrI Q0.b.one
 have A2:At (ArrI p q n cells ps (freshR cv)) (fun b=>b=0) H2:=A2.mono fun b hb=>by rw [hb];exact hpos1
 have g2:=E2.got e1
 have lp2:H2.lp=none:=E2.lp.trans lp1
 simp [g2,loadX_agg haggC,hzC,takeN]
 refine (vmake_sem (id:=7) (c:=cv) Q0 (by decide) A2 lp2).then ?_
 rintro x3 H3 ⟨K3,_,_,hs3⟩
 obtain ⟨pv,rfl,hpv,gv3,A3⟩:=hs3 cv 0 f1
 have hef:(vmakeR (freshR cv) cv 7).er=0:=f2
 rw [hef]
 have A3:At (ArrI p q n cells ps lv1.ar) (fun b=>b=0∨b=pv) H3:=A3
 have lp3:H3.lp=none:=K3.lp.trans lp2
 simp
 have B1:VolB 100 lv1.ar cv:=⟨cvP,Q1,by decide⟩
 refine (vwrite_sem B1 (by rw [L1];decide) (by decide) (by decide) gv3 A3 (.inr rfl) (by decide) (by decide) lp3 0 hello).then ?_
 rintro _ H4 ⟨rfl,A4,K4,gv4⟩
 have w1:(vwriteR lv1.ar 7 cv 0 0 hello).2.2=0:=by show lv2.2.2=0;rw [f3]
 have w2:(vwriteR lv1.ar 7 cv 0 0 hello).2.1=1:=by show lv2.2.1=1;rw [f3]
 rw [w1]
 rw [w2] at gv4
 have A4:At (ArrI p q n cells ps lv2.1) (fun b=>b=0∨b=pv) H4:=A4
 have lp4:H4.lp=none:=K4.lp.trans lp3
 simp
 refine (afail_sem A4 1).then ?_
 rintro _ H5 ⟨rfl,A5,K5⟩
 have A5:At (ArrI p q n cells ps lv3) (fun b=>b=0∨b=pv) H5:=A5
 have gv5:=K5.got (.inr rfl) gv4
 have lp5:H5.lp=none:=K5.lp.trans lp4
 have B3:VolB 100 lv3 cv:=⟨cvP,Q3,by decide⟩
 simp
 refine (vread_sem B3 gv5 A5 lp5 0).use ?_
 rw [f4]
 simp
 refine (vhealth_sem B3 gv5 A5 lp5 0).use ?_
 rw [f5]
 simp
 refine (areplace_sem A5 1).then ?_
 rintro _ H6 ⟨rfl,A6,K6⟩
 have A6:At (ArrI p q n cells ps lv4) (fun b=>b=0∨b=pv) H6:=A6
 have gv6:=K6.got (.inr rfl) gv5
 have lp6:H6.lp=none:=K6.lp.trans lp5
 have B4:VolB 100 lv4 cv:=⟨cvP,Q4,by decide⟩
 simp
 refine (vmend_sem B4 (by rw [L4];decide) (by decide) (by decide) gv6 A6 (.inr rfl) lp6 0).then ?_
 rintro _ H7 ⟨rfl,A7,K7⟩
 have m1:(vmendR lv4 7 cv 0).2.1=1:=by show lv5.2.1=1;rw [f6]
 have m2:(vmendR lv4 7 cv 0).2.2=0:=by show lv5.2.2=0;rw [f6]
 rw [m1,m2]
 have A7:At (ArrI p q n cells ps lv5.1) (fun b=>b=0∨b=pv) H7:=A7
 have gv7:=K7.got (.inr rfl) gv6
 have lp7:H7.lp=none:=K7.lp.trans lp6
 have B5:VolB 100 lv5.1 cv:=⟨cvP,Q5,by decide⟩
 simp
 refine (vheads_sem B5 (by decide) (by decide) gv7 A7 (.inr rfl) lp7).then ?_
 rintro _ H8 ⟨rfl,A8,K8⟩
 have n1:(vheadsR lv5.1 7 cv).2.1=1:=by show lv6.2.1=1;rw [f7]
 have n2:(vheadsR lv5.1 7 cv).2.2=0:=by show lv6.2.2=0;rw [f7]
 rw [n1,n2]
 have A8:At (ArrI p q n cells ps lv6.1) (fun b=>b=0∨b=pv) H8:=A8
 have gv8:=K8.got (.inr rfl) gv7
 have lp8:H8.lp=none:=K8.lp.trans lp7
 simp
 refine (vopen_sem (id:=7) Q6 (by decide) S6 (by decide) A8 lp8).then ?_
 rintro x9 H9 ⟨K9,_,_,hs9⟩
 obtain ⟨pw,rfl,hpw,gw9,A9⟩:=hs9 cv 1 f8
 have he9:(vopenR lv6.1 7).er=0:=f9
 rw [he9]
 have A9:At (ArrI p q n cells ps lv7.ar) (fun b=>(b=0∨b=pv)∨b=pw) H9:=A9
 have gv9:=K9.got (.inr rfl) gv8
 have lp9:H9.lp=none:=K9.lp.trans lp8
 have B7:VolB 100 lv7.ar cv:=⟨cvP,Q7,by decide⟩
 simp
 refine (vread_sem B7 gw9 A9 lp9 0).use ?_
 rw [f10]
 simp
 refine (vopen_sem (id:=8) Q7 (by decide) S7 (by decide) A9 lp9).then ?_
 rintro x10 H10 ⟨K10,A10,hn10,_⟩
 have he10:=hn10 f11
 have he10':(vopenR lv7.ar 8).er=10:=f12
 rw [he10'] at he10
 rw [he10]
 have A10:At (ArrI p q n cells ps lv8.ar) (fun b=>(b=0∨b=pv)∨b=pw) H10:=A10
 have gv10:=K10.got (.inl (.inr rfl)) gv9
 have gw10:=K10.got (.inr rfl) gw9
 have g10:H10.get 0=some [.int .i64 2,.int .i64 1,.int .i64 8,.int .i64 2,.int .i64 1]:=K10.got (.inl (.inl rfl)) (K9.got (.inl rfl) (K8.got (.inl rfl) (K7.got (.inl rfl) (K6.got (.inl rfl) (K5.got (.inl rfl) (K4.got ⟨.inl rfl,fun e=>by have:=Heap.get_lt g2;omega⟩ (K3.got rfl g2)))))))
 have lp10:H10.lp=none:=K10.lp.trans lp9
 have B8:VolB 100 lv8.ar cv:=⟨cvP,Q8,by decide⟩
 simp
 subst hg
 refine wpc_st (fun r h=>rg r 5 = .int .i64 0∧rg r 6=S hello∧rg r 7 = .int .i64 0∧rg r 8 = .int .i64 2∧rg r 9 = .int .i64 0∧rg r 10 = .int .i64 1∧rg r 11 = .int .i64 0∧rg r 12 = .int .i64 1∧rg r 13 = .int .i64 0∧rg r 15 = .int .i64 0∧rg r 16=S hello∧rg r 17 = .int .i64 0∧rg r 19 = .int .i64 10∧rg r 21 = .int .i64 1∧rg r 3 = .ptr pv 0∧rg r 14 = .ptr pw 0∧rg r 1 = .ptr 0 0∧h=H10) ?_ ?_
 rotate_left
 ·simp
  refine (vread_sem B8 gv10 A10 lp10 2).use ?_
  rw [f13]
  simp
 rintro r _ ⟨r5,r6,r7,r8,r9,r10,r11,r12,r13,r15,r16,r17,r19,r21,r3,r14,r1,rfl⟩
 rw [wpc_seq]
 refine wpc_draw 71 (by kernel_rfl) ?_
 simp [r5,r6,r7,r8,r9,r10,r11,r12,r13,r15,r16,r17,r19,r21,r3,r14,r1,hello]
 refine QCall.use (x:= .int .i64 1) (vseq_sem gv10) ?_
 simp [r14]
 refine QCall.use (x:= .int .i64 1) (vseq_sem gw10) ?_
 simp [r3,r1]
 refine QCall.use (x:=CfA cv) (vconf_sem gv10) ?_
 simp [r1,g10,loadX_agg haggC,hzC,takeN,hcmp]
theorem live_pure:CPure Tryz.prog 11 [] (.bool true):=CPure.of_sem (k:=1) (live_sem0.mono fun x h hx=>by subst hx;rfl)
theorem live_call (h:Heap):CSem Tryz.prog 11 [] h fun x h'=>x = .bool true∧h'=h:=live_pure.call (k:=1) rfl
end Go.Proofs.YtjcnihmbpakipaaGreatDoor.X
