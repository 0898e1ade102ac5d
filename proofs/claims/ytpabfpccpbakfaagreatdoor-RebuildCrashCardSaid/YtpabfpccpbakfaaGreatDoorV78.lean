/-
  law17.live.
-/
import Derived.Test.YtpabfpccpbakfaaGreatDoorV77
namespace Go.Proofs.YtpabfpccpbakfaaGreatDoor.X
open Go.RowKit F
set_option maxRecDepth 100000
set_option linter.unusedSimpArgs false
set_option linter.unusedVariables false
def cw:Cfg:=⟨2,1,8,3,1⟩
def cwT:List Txt:=[[97],[98],[99]]
def lw0:Arr×Int:=Ga cw cwT 3
def lw1:ScD:=Dt lw0.1 7 cw
def lw2:Arr:=(lw1.ar.fail 2).1
def lw3:Arr:=(lw2.replace 2).1
def lw4:ScD:=Bj lw3 7 cw 0 2
def lw5:ScD:=Bj lw4.ar 7 cw 2 2
def lw6:ScD:=Bj lw5.ar 7 cw 4 1
def repB (r:RepD) (nx me lo:Int) (dn:Bool):Bool:=decide (r.nx=nx) && decide (r.me=me) && decide (r.lo=lo) && decide (r.dn=dn)
theorem A2p {r:RepD} {nx me lo:Int} {dn:Bool} (h:repB r nx me lo dn=true):repC r=[.int .i64 nx,.int .i64 me,.int .i64 lo,.bool dn]:=by
 simp only [repB,Bool.and_eq_true,decide_eq_true_eq] at h
 obtain ⟨⟨⟨rfl,rfl⟩,rfl⟩,rfl⟩:=h
 rfl
def A9v:Bool:=repB lw1.rp 3 0 0 true && decide (lw1.er=0) && decide (Dy lw3 7 cw=(2,0)) && repB lw4.rp 2 3 0 false && decide (lw4.er=0) && repB lw5.rp 3 1 0 true && decide (lw5.er=0) && decide (Dy lw5.ar 7 cw=(3,0)) && decide (lw6.er=1)
theorem Afe:A9v=true:=by decide+kernel
theorem Aff:repC lw1.rp=[.int .i64 3,.int .i64 0,.int .i64 0,.bool true]∧lw1.er=0∧Dy lw3 7 cw=(2,0)∧repC lw4.rp=[.int .i64 2,.int .i64 3,.int .i64 0,.bool false]∧lw4.er=0∧repC lw5.rp=[.int .i64 3,.int .i64 1,.int .i64 0,.bool true]∧lw5.er=0∧Dy lw5.ar 7 cw=(3,0)∧lw6.er=1:=by
 have h:=Afe
 simp only [A9v,Bool.and_eq_true,decide_eq_true_eq] at h
 obtain ⟨⟨⟨⟨⟨⟨⟨⟨h1,h2⟩,h3⟩,h4⟩,h5⟩,h6⟩,h7⟩,h8⟩,h9⟩:=h
 exact ⟨A2p h1,h2,h3,A2p h4,h5,A2p h6,h7,h8,h9⟩
theorem Aju (a0 a1 a2 b0 b1 b2:Int) (a3 b3:Bool):binX Tryz.prog .eql 44 (.agg [.int .i64 a0,.int .i64 a1,.int .i64 a2,.bool a3]) (.agg [.int .i64 b0,.int .i64 b1,.int .i64 b2,.bool b3])=some (.bool (decide (a0=b0) && decide (a1=b1) && decide (a2=b2) && decide (a3=b3))):=by
 have hfl:Zz Tryz.prog 44=some [(0,1),(1,1),(2,1),(3,3)]:=by kernel_rfl
 have e1:∀ x y:Int,eq1 1 (.int .i64 x) (.int .i64 y)=some (x == y):=fun x y=>by simp [eq1]
 have e3:∀ x y:Bool,eq1 3 (.bool x) (.bool y)=some (x == y):=fun x y=>by simp [eq1]
 simp only [binX,Ss,hfl,Option.bind_some,eqL,List.getElem?_cons_zero,List.getElem?_cons_succ,e1,e3,Option.map_some]
 by_cases h0:a0=b0
 ·by_cases h1:a1=b1
  ·by_cases h2:a2=b2
   ·simp [h0,h1,h2];cases a3<;>cases b3<;>rfl
   ·simp [h0,h1,h2]
  ·simp [h0,h1]
 ·simp [h0]
theorem cwP:As cw:=by decide
theorem A4m:CSem Tryz.prog 6 [] Heap.empty fun x h'=>x = .bool true:=by
 refine CSem.body hm Tryz.func6 rfl (by kernel_rfl) (by kernel_rfl) (by simp [Tryz.ntmps6]) ?_
 have haggC:aggT Tryz.prog 23=some true:=by kernel_rfl
 have hzC:szT Tryz.prog 23=some 5:=by kernel_rfl
 have hzz:Au Tryz.prog 23=some (.agg [.int .i64 0,.int .i64 0,.int .i64 0,.int .i64 0,.int .i64 0]):=by kernel_rfl
 have hbd:Ce Tryz.prog 23 [(0,.int .i64 2),(1,.int .i64 1),(2,.int .i64 8),(3,.int .i64 3),(4,.int .i64 1)]=some (.agg [.int .i64 2,.int .i64 1,.int .i64 8,.int .i64 3,.int .i64 1]):=by kernel_rfl
 have haggR:aggT Tryz.prog 44=some true:=by kernel_rfl
 have hzR:szT Tryz.prog 44=some 4:=by kernel_rfl
 have hzr:Au Tryz.prog 44=some (.agg [.int .i64 0,.int .i64 0,.int .i64 0,.bool false]):=by kernel_rfl
 have hbr:∀ n m d,Ce Tryz.prog 44 [(0,.int .i64 n),(1,.int .i64 m),(3,.bool d)]=some (.agg [.int .i64 n,.int .i64 m,.int .i64 0,.bool d]):=fun n m d=>by kernel_rfl
 have hbr2:∀ n d,Ce Tryz.prog 44 [(0,.int .i64 n),(3,.bool d)]=some (.agg [.int .i64 n,.int .i64 0,.int .i64 0,.bool d]):=fun n d=>by kernel_rfl
 have hbr3:∀ n m,Ce Tryz.prog 44 [(0,.int .i64 n),(1,.int .i64 m)]=some (.agg [.int .i64 n,.int .i64 m,.int .i64 0,.bool false]):=fun n m=>by kernel_rfl
 have hcmp:∀ n m d,binX Tryz.prog .eql 44 (.agg [.int .i64 n,.int .i64 m,.int .i64 0,.bool d]) (.agg [.int .i64 n,.int .i64 m,.int .i64 0,.bool d])=some (.bool true):=fun n m d=>by rw [Aju];simp
 have hcC:CfA cw = .agg [.int .i64 2,.int .i64 1,.int .i64 8,.int .i64 3,.int .i64 1]:=rfl
 have hbs:∀ (h:Heap),Bz Tryz.prog h 24 3 [(0,S [97]),(1,S [98]),(2,S [99])]=some (.sl h.next 0 3 3 1,h.alloc (cwT.map S)):=fun h=>by kernel_rfl
 obtain ⟨f1,f2,f3,f4,f5,f6,f7,f8,f9⟩:=Aff
 simp only [Tryz.f6]
 generalize hg:Code.seq (Code.region 14 _ _) _=c16
 have e0:∀ zs,(Heap.empty.alloc zs).get 0=some zs:=fun zs=>Heap.A9 Heap.empty zs
 simp [hbd,hzz,AV.cells,Ae,hzC,putN,e0]
 have e1:((Heap.empty.alloc [.int .i64 0,.int .i64 0,.int .i64 0,.int .i64 0,.int .i64 0]).put 0 [.int .i64 2,.int .i64 1,.int .i64 8,.int .i64 3,.int .i64 1]).get 0=some [.int .i64 2,.int .i64 1,.int .i64 8,.int .i64 3,.int .i64 1]:=Heap.Ac (e0 _)
 have lp1:((Heap.empty.alloc [.int .i64 0,.int .i64 0,.int .i64 0,.int .i64 0,.int .i64 0]).put 0 [.int .i64 2,.int .i64 1,.int .i64 8,.int .i64 3,.int .i64 1]).lp=none:=rfl
 generalize (Heap.empty.alloc [.int .i64 0,.int .i64 0,.int .i64 0,.int .i64 0,.int .i64 0]).put 0 [.int .i64 2,.int .i64 1,.int .i64 8,.int .i64 3,.int .i64 1]=H1 at e1 lp1 ⊢
 have hpos1:=Heap.Ah e1
 simp [e1,Ab haggC,hzC,takeN,hbs]
 refine (Xe cwP (by decide) (ts:=cwT) (tv:= .sl H1.next 0 3 3 1) (by decide) _ (.inr ⟨H1.next,rfl,Heap.A9 _ _⟩) lp1).then ?_
 rintro _ H2 ⟨p,q,nb,cells,ps,pv,rfl,LH,_⟩
 have LH:LawV p q nb cells ps pv cw 0 lw0.1 lw0.2 (fun _=>False) H2:=LH.less fun _ h=>h.elim
 simp
 refine (LH.all cwP (by decide)).then ?_
 rintro _ H3 ⟨rfl,L3,_⟩
 have r1:Dt lw0.1 7 cw=lw1:=rfl
 rw [r1] at L3 ⊢
 rw [f1,f2]
 simp [hzr,AV.cells,Ae,hzR,putN,Heap.A9]
 obtain ⟨L4,g4,_⟩:=L3.box [.int .i64 0,.int .i64 0,.int .i64 0,.bool false] [.int .i64 3,.int .i64 0,.int .i64 0,.bool true]
 generalize (H3.alloc [.int .i64 0,.int .i64 0,.int .i64 0,.bool false]).put H3.next [.int .i64 3,.int .i64 0,.int .i64 0,.bool true]=H4 at L4 g4 ⊢
 generalize H3.next=b4 at L4 g4 ⊢
 have L4:=L4.less (E':=fun x=>x=b4) fun x hx=> .inr hx
 refine (L4.fail 2).then ?_
 rintro _ H5 ⟨rfl,L5,F5⟩
 have L5:LawV p q nb cells ps pv cw (0+300000) lw2 lw0.2 (fun x=>x=b4) H5:=L5
 have g5:=(F5 b4 rfl).trans g4
 simp
 refine (L5.repl 2).then ?_
 rintro _ H6 ⟨rfl,L6,F6⟩
 have L6:LawV p q nb cells ps pv cw (0+300000) lw3 lw0.2 (fun x=>x=b4) H6:=L6
 have g6:=(F6 b4 rfl).trans g5
 simp
 refine (L6.least cwP (by decide)).use ?_
 rw [f3]
 simp
 refine (L6.step cwP (by decide) 0 2).then ?_
 rintro _ H7 ⟨rfl,L7,F7⟩
 have g7:=(F7 b4 rfl).trans g6
 have r4:Bj lw3 7 cw 0 2=lw4:=rfl
 rw [r4] at L7 ⊢
 rw [f4,f5]
 simp [hzr,AV.cells,Ae,hzR,putN,Heap.A9]
 obtain ⟨L8,g8,F8⟩:=L7.box [.int .i64 0,.int .i64 0,.int .i64 0,.bool false] [.int .i64 2,.int .i64 3,.int .i64 0,.bool false]
 have h8:=(F8 b4 rfl).trans g7
 generalize (H7.alloc [.int .i64 0,.int .i64 0,.int .i64 0,.bool false]).put H7.next [.int .i64 2,.int .i64 3,.int .i64 0,.bool false]=H8 at L8 g8 h8 ⊢
 generalize H7.next=b8 at L8 g8 ⊢
 simp [A8,g8]
 refine (L8.step cwP (by decide) 2 2).then ?_
 rintro _ H9 ⟨rfl,L9,F9⟩
 have g9:=(F9 b4 (.inl rfl)).trans h8
 have h9:=(F9 b8 (.inr rfl)).trans g8
 have r5:Bj lw4.ar 7 cw 2 2=lw5:=rfl
 rw [r5] at L9 ⊢
 rw [f6,f7]
 simp [hzr,AV.cells,Ae,hzR,putN,Heap.A9]
 obtain ⟨L10,g10,F10⟩:=L9.box [.int .i64 0,.int .i64 0,.int .i64 0,.bool false] [.int .i64 3,.int .i64 1,.int .i64 0,.bool true]
 have h10:=(F10 b4 (.inl rfl)).trans g9
 have k10:=(F10 b8 (.inr rfl)).trans h9
 generalize (H9.alloc [.int .i64 0,.int .i64 0,.int .i64 0,.bool false]).put H9.next [.int .i64 3,.int .i64 1,.int .i64 0,.bool true]=H10 at L10 g10 h10 k10 ⊢
 generalize H9.next=b10 at L10 g10 ⊢
 refine (L10.least cwP (by decide)).use ?_
 rw [f8]
 simp
 refine (L10.step cwP (by decide) 4 1).then ?_
 rintro _ H11 ⟨rfl,L11,F11⟩
 have g11:=(F11 b4 (.inl (.inl rfl))).trans h10
 have h11:=(F11 b8 (.inl (.inr rfl))).trans k10
 have k11:=(F11 b10 (.inr rfl)).trans g10
 have r6:Bj lw5.ar 7 cw 4 1=lw6:=rfl
 rw [r6] at L11 ⊢
 rw [f9]
 simp only [repC]
 simp [hzr,AV.cells,Ae,hzR,putN,Heap.A9]
 obtain ⟨L12,g12,F12⟩:=L11.box [.int .i64 0,.int .i64 0,.int .i64 0,.bool false] [.int .i64 lw6.rp.nx,.int .i64 lw6.rp.me,.int .i64 lw6.rp.lo,.bool lw6.rp.dn]
 have h12:=(F12 b4 (.inl (.inl rfl))).trans g11
 have i12:=(F12 b8 (.inl (.inr rfl))).trans h11
 have k12:=(F12 b10 (.inr rfl)).trans k11
 generalize (H11.alloc [.int .i64 0,.int .i64 0,.int .i64 0,.bool false]).put H11.next [.int .i64 lw6.rp.nx,.int .i64 lw6.rp.me,.int .i64 lw6.rp.lo,.bool lw6.rp.dn]=H12 at L12 g12 h12 i12 k12 ⊢
 generalize H11.next=b12 at L12 g12 ⊢
 refine (Afd H12).then ?_
 rintro _ H13 ⟨rfl,E13⟩
 have g13:=E13.got h12
 have h13:=E13.got i12
 have k13:=E13.got k12
 have b4l:=Heap.Ah g13
 have b8l:=Heap.Ah h13
 have b10l:=Heap.Ah k13
 simp only [repC,rep0]
 simp [hzr,AV.cells,Ae,hzR,putN,Heap.A9]
 have g14:∀ cs ys,((H13.alloc cs).put H13.next ys).get b4=some [.int .i64 3,.int .i64 0,.int .i64 0,.bool true]:=fun cs ys=>(Heap.Ag (Heap.A9 _ _) (by omega)).trans (Heap.Af g13)
 have h14:∀ cs ys,((H13.alloc cs).put H13.next ys).get b8=some [.int .i64 2,.int .i64 3,.int .i64 0,.bool false]:=fun cs ys=>(Heap.Ag (Heap.A9 _ _) (by omega)).trans (Heap.Af h13)
 have k14:∀ cs ys,((H13.alloc cs).put H13.next ys).get b10=some [.int .i64 3,.int .i64 1,.int .i64 0,.bool true]:=fun cs ys=>(Heap.Ag (Heap.A9 _ _) (by omega)).trans (Heap.Af k13)
 subst hg
 simp [g14,h14,k14,Ab haggR,takeN,hzR,hbr,hbr2,hbr3,hcmp]
theorem A4n:Aq Tryz.prog 6 [] (.bool true):=Aq.Az (k:=1) (A4m.mono fun x h hx=>by subst hx;rfl)
theorem A4p (h:Heap):CSem Tryz.prog 6 [] h fun x h'=>x = .bool true∧h'=h:=A4n.call (k:=1) rfl
theorem out17 (h:Heap) (K:AV→Heap→Prop) (hK:K (.bool true) h):Call Tryz.prog 6 [] h K:=(A4p h).use hK
end Go.Proofs.YtpabfpccpbakfaaGreatDoor.X
