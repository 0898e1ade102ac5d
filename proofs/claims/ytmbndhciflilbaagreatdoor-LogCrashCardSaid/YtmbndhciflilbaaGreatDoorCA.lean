/-
  Texts of a proof, as one: C01, C02, C03, C04, C05, C06, C07, C08, C09, C10, C11, C12, C13, C14, C15, C16, C17, C18, C19, D01.
-/
import Derived.Test.YtmbndhciflilbaaGreatDoorXB
import Derived.Test.YtmbndhciflilbaaGreatDoorFA
namespace Go.Proofs.YtmbndhciflilbaaGreatDoor.X
open Go.RowKit F
set_option maxRecDepth 100000
set_option linter.unusedSimpArgs false
set_option linter.unusedVariables false
theorem Agq (a b:UInt8) (h:Heap):CSem Tryz.prog 190 [B8 a,B8 b] h fun x h'=>x=B8 (a ^^^ b)∧h'=h:=by
 refine CSem.body hm Tryz.func190 rfl κ κ (by simp [Tryz.ntmps190]) ?_
 have la:=lt8 a
 have lb:=lt8 b
 simp (disch:=first|omega|(simp;done)|fail) [Tryz.f190,B8,xor8]
theorem A84:∀ (n x p:Nat),gL n x 0 p=p
 | 0,_,_=>rfl
 | n+1,x,p=>A84 n (twN x) p
theorem Agr {n x b p:Nat} (hb:b≠0) (h2:b < 2 ^ n):∃ m,n=m+1∧b / 2 < 2 ^ m∧gL n x b p=gL m (if 255 < x * 2 then (x * 2) ^^^ 285 else x * 2) (b / 2) (if b % 2=0 then p else p ^^^ x):=by
 cases n with
 | zero=>simp at h2;omega
 | succ m =>
  refine ⟨m,rfl,by rw [Nat.pow_succ] at h2;omega,?_⟩
  simp only [gL,twN]
  have e1:(bif Nat.ble 256 (Nat.mul 2 x) then Nat.xor (Nat.mul 2 x) 285 else Nat.mul 2 x)=if 255 < x * 2 then (x * 2) ^^^ 285 else x * 2:=by
   rw [show Nat.mul 2 x=x * 2 from Nat.mul_comm 2 x]
   have hd:Nat.ble 256 (x * 2)=decide (255 < x * 2):=by rw [Bool.eq_iff_iff,Nat.ble_eq,decide_eq_true_eq];exact Iff.rfl
   rw [hd]
   by_cases hh:255 < x * 2<;>simp only [hh,decide_true,decide_false,cond_true,cond_false,if_true,if_false]<;>rfl
  have e2:(bif Nat.beq (Nat.mod b 2) 1 then Nat.xor p x else p)=if b % 2=0 then p else p ^^^ x:=by
   have hd:Nat.beq (Nat.mod b 2) 1=decide (b % 2=1):=by rw [Bool.eq_iff_iff,Nat.beq_eq,decide_eq_true_eq];exact Iff.rfl
   rw [hd]
   rcases Nat.mod_two_eq_zero_or_one b with h|h<;>simp [h]
  rw [e1,e2]
  rfl
theorem tw_ok {x:Nat} (hx:x < 256) (h2:255 < (x:Int) * 2):x * 2 ^^^ 285 < 256:=by
 have e:twN x=x * 2 ^^^ 285:=by
  have hd:Nat.ble 256 (Nat.mul 2 x)=true:=by rw [Nat.ble_eq];show 256≤2 * x;omega
  unfold twN
  rw [hd,cond_true,show Nat.mul 2 x=x * 2 from Nat.mul_comm 2 x]
  rfl
 rw [←e];exact Yt hx
def Su (a b:UInt8) (s:Nat×Nat×Nat×Nat) (r:Regs) (_:Heap):Prop :=
 rg r 1 = .int .u8 (s.2.1:Int)∧rg r 5 = .int .u8 (s.2.2.1:Int)∧rg r 6 = .int .i64 (s.2.2.2:Int) ∧
   s.2.2.2 < 256∧s.2.2.1 < 256∧s.2.1 < 2 ^ s.1∧s.2.1 < 256∧gL s.1 s.2.2.2 s.2.1 s.2.2.1=gN a.toNat b.toNat
theorem A0x (a b:UInt8) (h:Heap):CSem Tryz.prog 189 [B8 a,B8 b] h fun x h'=>x=B8 (gm a b)∧h'=h:=by
 refine CSem.body hm Tryz.func189 rfl κ κ (by simp [Tryz.ntmps189]) ?_
 have la:=lt8 a
 have lb:=lt8 b
 simp (disch:=first|omega|(simp;done)|fail) [Tryz.f189,Sv,B8,wrap64]
 refine Ar (fun s r h'=>h'=h∧Su a b s r h') (·.1) ?_ (8,b.toNat,0,a.toNat) ?_
 ·rintro ⟨n,b',p,x⟩ r h' ⟨rfl,h1,h5,h6,hx,hp,hb,hn,hg⟩
  simp only at h1 h5 h6 hx hp hb hn hg
  by_cases hb0:b'=0
  ·subst hb0
   simp [h1,h5,h6,Gk,←hg,A84]
  obtain ⟨m,rfl,hm2,e⟩:=Agr (x:=x) (p:=p) hb0 hb
  have hx2:x * 2 < 2 ^ 9:=by omega
  have hxx:(x * 2) ^^^ 285 < 2 ^ 9:=Nat.xor_lt_two_pow hx2 ω
  have hpx:p ^^^ x < 2 ^ 8:=Nat.xor_lt_two_pow ω ω
  have hx3:((x:Int) * 2).toNat=x * 2:=by omega
  rw [hg] at e
  by_cases c1:(b':Int) % 2=0<;>by_cases c2:255 < (x:Int) * 2<;>simp (disch:=first|omega|(simp;done)|fail) [h1,h5,h6,hb0,and8,Yu,wrap64,xor8,Acn,c1,c2]
  ·rw [if_pos ω,if_pos ω] at e
   refine ⟨m,Nat.lt_succ_self m,b' / 2,p,x * 2 ^^^ 285,?_⟩
   simp only [Su];simp [hx3,h5];exact ⟨tw_ok hx c2,hp,hm2,ω,e.symm⟩
  ·rw [if_neg ω,if_pos ω] at e
   refine ⟨m,Nat.lt_succ_self m,b' / 2,p,x * 2,?_⟩
   simp only [Su];simp [h5];exact ⟨ω,hp,hm2,ω,e.symm⟩
  ·rw [if_pos ω,if_neg ω] at e
   refine ⟨m,Nat.lt_succ_self m,b' / 2,p ^^^ x,x * 2 ^^^ 285,?_⟩
   simp only [Su];simp [hx3,h5];exact ⟨tw_ok hx c2,hpx,hm2,ω,e.symm⟩
  ·rw [if_neg ω,if_neg ω] at e
   refine ⟨m,Nat.lt_succ_self m,b' / 2,p ^^^ x,x * 2,?_⟩
   simp only [Su];simp [h5];exact ⟨ω,hpx,hm2,ω,e.symm⟩
 ·simp [Su,la,lb,gN]
theorem Acp (a b:UInt8):As Tryz.prog 190 [B8 a,B8 b] (B8 (a ^^^ b)) :=
 As.Ba (k:=1) ((Agq a b _).mono (by rintro x h' ⟨rfl,rfl⟩;rfl))
theorem Acq (a b:UInt8):As Tryz.prog 189 [B8 a,B8 b] (B8 (gm a b)) :=
 As.Ba (k:=1) ((A0x a b _).mono (by rintro x h' ⟨rfl,rfl⟩;rfl))
theorem add_q (a b:UInt8) (h:Heap):D7 Tryz.prog 190 [B8 a,B8 b] h (B8 (a ^^^ b)):=(Acp a b).quiet (k:=1) (fun _=>rfl)
theorem mul_q (a b:UInt8) (h:Heap):D7 Tryz.prog 189 [B8 a,B8 b] h (B8 (gm a b)):=(Acq a b).quiet (k:=1) (fun _=>rfl)
def A2f (a:List UInt8) (c:UInt8) (i:Nat) (r:Regs) (h:Heap):Prop :=
 i≤a.length∧rg r 1=B8 c∧rg r 5 = .sl 0 0 a.length a.length 1∧rg r 10 = .sl 0 0 a.length a.length 1∧rg r 11 = .int .i64 a.length∧rg r 12 = .int .i64 i∧h.get 0=some ((mid (Cq a c) a i).map B8)
theorem A5v (a:List UInt8) (c:UInt8) (ha:a.length < 2 ^ 60):As Tryz.prog 172 [S a,B8 c] (S (Cq a c)):=by
 refine As.Ba (k:=1) ?_
 refine CSem.body hm Tryz.func172 rfl κ κ (by simp [Tryz.ntmps172]) ?_
 have hl:(Cq a c).length=a.length:=by simp [Cq]
 simp [Tryz.f172]
 refine Ar (A2f a c) (a.length - ·) ?_ 0 ?_
 ·rintro i r h ⟨hi,h1,h5,h10,h11,h12,hg⟩
  rcases Nat.lt_or_eq_of_le hi with hlt|heq
  ·have hx:a[i]? = some a[i]:=List.getElem?_eq_getElem hlt
   have hm:=Ug hl hi
   rw [hx] at hm
   have hz:(Cq a c)[i]? = some (gm a[i] c):=by simp [Cq,hx]
   simp [h1,h5,h10,h11,h12,hg,hlt,hm]
   refine (A0x _ _ _).use ?_
   simp [h1,h5,h10,h11,h12,hg,hlt,hl,hi]
   refine ⟨i+1,ω,ω,?_⟩
   simp [h1,h5,h10,h11,h12,wrap64 (n:=(i:Int)+1) ω ω,Heap.Ak hg,←List.map_set,Gm hl hlt hz]
  ·subst heq
   simp [h1,h5,h10,h11,h12,hg,F7 hl,hl]
 ·simp [A2f,Heap.A9,Heap.Aa]
theorem A5w (a:List UInt8) (c:UInt8) (h:Heap) (ha:a.length < 2 ^ 60):CSem Tryz.prog 172 [S a,B8 c] h fun x' h'=>x'=S (Cq a c)∧h'=h :=
 (A5v a c ha).call (k:=1) μ
theorem Kn {n:Nat} {rows:List (List UInt8)} (hr:∀ x∈rows,x.length=n):(sumL n rows).length=n:=by
 suffices H:∀ (rows:List (List UInt8)) (acc:List UInt8),acc.length=n→(∀ x∈rows,x.length=n)→(rows.foldl xorL acc).length=n from H rows _ μ hr
 intro rows
 induction rows with
 | nil=>intro acc h _;exact h
 | cons x l ih=>intro acc h hx;exact ih _ (by simp [xorL,h,hx x μ]) (fun y hy=>hx y (by simp [hy]))
theorem J8 (n:Nat):List.replicate n (AV.int .u8 0)=(List.replicate n (0:UInt8)).map B8:=by
 rw [List.map_replicate];rfl
theorem Yv {n:Nat} {rows:List (List UInt8)} {i:Nat} (hi:i < rows.length):sumL n (rows.take (i+1))=xorL (sumL n (rows.take i)) rows[i]:=by
 unfold sumL
 rw [List.take_succ_eq_append_getElem hi,List.foldl_append]
 rfl
def Acr (n:Nat) (rows:List (List UInt8)) (i:Nat) (r:Regs) (h:Heap):Prop :=
 i≤rows.length∧rg r 5 = .sl 0 0 n n 1∧rg r 11=SL rows∧rg r 12 = .int .i64 rows.length∧rg r 13 = .int .i64 i∧h.get 0=some ((sumL n (rows.take i)).map B8)
def SumIn (n:Nat) (rows:List (List UInt8)) (i:Nat) (acc row:List UInt8) (j:Nat) (r:Regs) (h:Heap):Prop :=
 j≤n∧rg r 5 = .sl 0 0 n n 1∧rg r 11=SL rows∧rg r 12 = .int .i64 rows.length∧rg r 13 = .int .i64 i∧rg r 7=S row∧rg r 17 = .sl 0 0 n n 1∧rg r 18 = .int .i64 n∧rg r 19 = .int .i64 j ∧
 h.get 0=some ((mid (xorL acc row) acc j).map B8)
theorem Acs (n:Nat) (rows:List (List UInt8)) (hn:n < 2 ^ 40) (hl:rows.length < 2 ^ 60) (hr:∀ x∈rows,x.length=n):As Tryz.prog 173 [.int .i64 n,SL rows] (S (sumL n rows)):=by
 refine As.Ba (k:=1) ?_
 refine CSem.body hm Tryz.func173 rfl κ κ (by simp [Tryz.ntmps173]) ?_
 simp [Tryz.f173]
 refine ⟨ω,?_⟩
 refine Ar (Acr n rows) (rows.length - ·) ?_ 0 ?_
 ·rintro i r h ⟨hi,h5,h11,h12,h13,hg⟩
  rcases Nat.lt_or_eq_of_le hi with hlt|heq
  ·have hx:rows[i]? = some rows[i]:=List.getElem?_eq_getElem hlt
   have hrl:rows[i].length=n:=hr _ (List.getElem_mem hlt)
   have hal:(sumL n (rows.take i)).length=n:=Kn (fun x hx=>hr x (List.mem_of_mem_take hx))
   have hst:=Yv (n:=n) hlt
   generalize sumL n (rows.take i)=acc at hg hal hst
   generalize hrow:rows[i]=row at hx hrl hst
   have hxl:(xorL acc row).length=acc.length:=by simp [xorL,hrl,hal]
   simp [h5,h11,h12,h13,hg,hlt,hx]
   refine Ar (SumIn n rows i acc row) (n - ·) ?_ 0 ?_
   ·rintro j r h ⟨hj,h5,h11,h12,h13,h7,h17,h18,h19,hg⟩
    rcases Nat.lt_or_eq_of_le hj with hjt|heq
    ·have hy:acc[j]? = some acc[j]:=List.getElem?_eq_getElem ω
     have hw:row[j]? = some row[j]:=List.getElem?_eq_getElem ω
     have hm:=Ug hxl (by omega:j≤acc.length)
     rw [hy] at hm
     have hz:(xorL acc row)[j]? = some (acc[j] ^^^ row[j]):=by simp [xorL,List.getElem?_zipWith,hy,hw]
     simp [h5,h11,h12,h13,h7,h17,h18,h19,hg,hjt]
     refine Br 11 κ ?_
     simp [h5,h11,h12,h13,h7,h17,h18,h19,hg,hjt,hm,hw]
     refine (add_q _ _ _).use ?_
     simp [h5,h11,h12,h13,h7,h17,h18,h19,hg,hjt,hxl,hal,hj]
     refine ⟨j+1,ω,ω,?_⟩
     simp [h5,h11,h12,h13,h7,h17,h18,h19,wrap64 (n:=(j:Int)+1) ω ω,Heap.Ak hg,←List.map_set,Gm hxl (by omega:j < acc.length) hz]
    ·subst heq
     simp [h5,h11,h12,h13,h7,h17,h18,h19]
     refine ⟨i+1,ω,ω,?_⟩
     simp [h5,h11,h12,h13,wrap64 (n:=(i:Int)+1) ω ω,hg,hst]
     rw [←hal,F7 hxl]
   ·simp [SumIn,h5,h11,h12,h13,hg,hrow]
  ·subst heq
   simp [h5,h11,h12,h13,hg,Kn hr]
 ·simp [Acr,Heap.Aa,J8,sumL]
def rS (e:Int):Option (List UInt8)→AV
 | some x=> .tup [S x,.int .i64 0]
 | none=> .tup [S [],.int .i64 e]
def scaled (c:List UInt8) (l:List (List UInt8)):List (List UInt8):=List.zipWith Cq l c
def Fh (c:List UInt8) (l:List (List UInt8)):Option (List UInt8) :=
 if c.length=l.length∧l≠[]∧∀ x∈l,x.length=(l[0]?.getD []).length then some (sumL (l[0]?.getD []).length (scaled c l)) else none
def Acu (c:List UInt8) (l:List (List UInt8)) (i:Nat) (r:Regs) (h:Heap):Prop :=
 i≤l.length∧rg r 0=BL c∧rg r 1=SL l∧rg r 6 = .sl 0 0 l.length l.length 1∧rg r 22=SL l∧rg r 23 = .int .i64 l.length∧rg r 24 = .int .i64 i ∧
 h.get 0=some ((mid (scaled c l) (List.replicate l.length []) i).map S)∧(∀ x∈l.take i,x.length=(l[0]?.getD []).length)
theorem A2h (c:List UInt8) (l:List (List UInt8)) (hl:l.length < 2 ^ 40) (hx:∀ x∈l,x.length < 2 ^ 40):As Tryz.prog 147 [BL c,SL l] (rS 1 (Fh c l)):=by
 refine As.Ba (k:=2) ?_
 refine CSem.body hm Tryz.func147 rfl κ κ (by simp [Tryz.ntmps147]) ?_
 by_cases h1:c.length=l.length
 rotate_left
 ·simp [Tryz.f147,h1,Fh,rS]
 by_cases h2:l.length=0
 ·simp [Tryz.f147,h1,h2,Fh,rS,List.length_eq_zero_iff.1 h2]
 have hsl:(scaled c l).length=(List.replicate l.length ([]:List UInt8)).length:=by simp [scaled,h1]
 have hp:0 < l.length:=by omega
 have h0:l[0]? = some l[0]:=List.getElem?_eq_getElem ω
 simp [Tryz.f147,h1,h2]
 refine ⟨ω,?_⟩
 refine Ar (Acu c l) (l.length - ·) ?_ 0 ?_
 ·rintro i r h ⟨hi,g0,g1,g6,g22,g23,g24,hg,ha⟩
  rcases Nat.lt_or_eq_of_le hi with hlt|heq
  ·have hr:l[i]? = some l[i]:=List.getElem?_eq_getElem hlt
   have hc:c[i]? = some c[i]:=List.getElem?_eq_getElem ω
   have hz:(scaled c l)[i]? = some (Cq l[i] c[i]):=by simp [scaled,List.getElem?_zipWith,hr,hc]
   by_cases he:l[i].length=l[0].length
   ·simp [g0,g1,g6,g22,g23,g24,hg,hlt,hr,hc,h0,he,hp,h1]
    refine (A5w _ _ _ (Nat.lt_trans (hx _ (List.getElem_mem hlt)) ν)).use ?_
    simp [g0,g1,g6,g22,g23,g24,hg,hsl,hlt,hi]
    refine ⟨i+1,ω,ω,?_⟩
    simp [g0,g1,g6,g22,g23,g24,wrap64 (n:=(i:Int)+1) ω ω,Heap.Ak hg,←List.map_set,Gm hsl (by simpa using hlt) hz]
    intro x hxm
    rw [List.take_succ_eq_append_getElem hlt] at hxm
    rcases List.mem_append.1 hxm with hm|hm
    ·exact ha x hm
    ·simp at hm;rw [hm,he,h0];rfl
   ·simp [g0,g1,g6,g22,g23,g24,hg,hlt,hr,hc,h0,he,hp,h1]
    have:Fh c l=none:=by
     rw [Fh,if_neg]
     rintro ⟨-,-,h3⟩
     exact he (by have:=h3 _ (List.getElem_mem hlt);rw [h0] at this;exact this)
    rw [this];rfl
  ·subst heq
   have hrow:∀ x∈scaled c l,x.length=l[0].length:=by
    intro x hxm
    obtain ⟨j,hj,rfl⟩:=List.getElem_of_mem hxm
    have hjl:j < l.length:=by simp [scaled] at hj;omega
    have:=ha l[j] (by rw [List.take_length];exact List.getElem_mem _)
    rw [h0] at this
    simpa [scaled,List.getElem_zipWith,Cq] using this
   have hm:mid (scaled c l) (List.replicate l.length []) l.length=scaled c l:=by
    have:=F7 hsl
    simpa using this
   rw [hm] at hg
   have hs0:snap h true 2 (AV.sl 0 0 l.length l.length 1)=some (SL (scaled c l)):=F8 hg (by simpa using hsl.symm) (fun _=>rfl)
   simp [g0,g1,g6,g22,g23,g24,hg,hp,h0]
   refine ((Acs l[0].length (scaled c l) (hx _ (List.getElem_mem hp)) (by simp at hsl;omega) hrow).call (k:=2) (by simp [hs0])).use ?_
   simp [g0,g1,g6,g22,g23,g24]
   rw [Fh,if_pos ⟨h1,by rintro rfl;simp at hp,fun x hxm=>ha x (by rw [List.take_length];exact hxm)⟩]
   simp [rS,hp]
 ·simp [Acu,Heap.Aa]
def tabs:Nat→List Nat×List Nat×Nat
 | 0=>(List.replicate 510 0,List.replicate 256 0,1)
 | i+1=>let (e,g,x):=tabs i
  ((e.set i x).set (i+255) x,g.set x i,twN x)
def u8c (n:Nat):AV:= .int .u8 n
def i64c (n:Nat):AV:= .int .i64 n
@[simp] theorem u8c_atom (n:Nat):(u8c n).atom=true:=id rfl
@[simp] theorem i64c_atom (n:Nat):(i64c n).atom=true:=id rfl
def tabC (s:List Nat×List Nat×Nat):List AV:=s.1.map u8c ++ s.2.1.map i64c
theorem Hq:∀ i,(tabs i).1.length=510∧(tabs i).2.1.length=256∧(tabs i).2.2 < 256
 | 0=>⟨by simp [tabs],by simp [tabs],by simp [tabs]⟩
 | i+1=>by
  obtain ⟨h1,h2,h3⟩:=Hq i
  exact ⟨by simp [tabs,h1],by simp [tabs,h2],Yt h3⟩
theorem A2j:B7 Tryz.prog 275=some (.agg (tabC (tabs 0))):=by kernel_rfl
def MkInv (i:Nat) (r:Regs) (h:Heap):Prop :=
 i≤255∧rg r 0 = .ptr 0 0∧rg r 1 = .ptr 1 0∧rg r 2 = .int .i64 (tabs i).2.2∧rg r 4 = .int .i64 i∧h.get 0=some (tabC (tabs 0))∧h.get 1=some (tabC (tabs i))
theorem A5x:As Tryz.prog 200 [] (.agg (tabC (tabs 255))):=by
 refine As.Ba (k:=2) ?_
 refine CSem.body hm Tryz.func200 rfl κ κ (by simp [Tryz.ntmps200]) ?_
 have hat:∀ s,(tabC s).all AV.atom=true:=by intro s;simp [tabC]
 have hat0:∀ v∈tabC (tabs 0),v.atom=true:=by simpa using hat (tabs 0)
 have hl2:(tabC (tabs 0)).length≠2:=by simp [tabC,(Hq 0).1,(Hq 0).2.1]
 simp [Tryz.f200,A2j,A85 hl2,AV.cells]
 refine ⟨hat0,?_⟩
 refine Ar MkInv (255 - ·) ?_ 0 ?_
 ·rintro i r h ⟨hi,g0,g1,g2,g4,hg0,hg1⟩
  obtain ⟨t1,t2,t3⟩:=Hq i
  rcases Nat.lt_or_eq_of_le hi with hlt|heq
  ·have hs:(tabC (tabs i)).length=766:=by simp [tabC,t1,t2]
   generalize htab:tabs i=s at g2 hg1 t1 t2 t3 hs
   obtain ⟨e,g,x⟩:=s
   simp only at g2 hg1 t1 t2 t3 hs
   have hc8:IntKind.u8.wrap (x:Int)=x:=Yu ω ω
   have hw:IntKind.i64.wrap ((i:Int)+255)=((i+255:Nat):Int):=by rw [wrap64 ω ω];omega
   have hlt':(i:Int) < 255:=by omega
   have hn:1 < h.next:=Heap.Ah hg1
   have h255:((i:Int)+255).toNat=i+255:=by omega
   have htab':tabs (i+1)=((e.set i x).set (i+255) x,g.set x i,twN x):=by simp [tabs,htab]
   have hcell:(((tabC (e,g,x)).set i (AV.int .u8 (x:Int))).set (i+255) (AV.int .u8 (x:Int))).set (510+x) (AV.int .i64 (i:Int))=tabC (tabs (i+1)):=by
    rw [htab']
    simp only [tabC]
    rw [List.set_append_left _ _ (by simp;omega),List.set_append_left _ _ (by simp;omega),List.set_append_right _ _ (by simp;omega)]
    congr 1
    ·rw [List.map_set,List.map_set];rfl
    ·rw [List.map_set]
     congr 1
     simp [t1]
   have hx2:IntKind.i64.wrap ((x:Int) * 2)=((x * 2:Nat):Int):=by rw [wrap64 ω ω];omega
   have htw:twN x=if 255 < x * 2 then x * 2 ^^^ 285 else x * 2:=by
    unfold twN
    rw [show Nat.mul 2 x=x * 2 from Nat.mul_comm 2 x]
    have hd:Nat.ble 256 (x * 2)=decide (255 < x * 2):=by rw [Bool.eq_iff_iff,Nat.ble_eq,decide_eq_true_eq];exact Iff.rfl
    rw [hd]
    by_cases hh:255 < x * 2<;>simp only [hh,decide_true,decide_false,cond_true,cond_false,if_true,if_false]<;>rfl
   have hw1:IntKind.i64.wrap ((i:Int)+1)=((i+1:Nat):Int):=by rw [wrap64 ω ω];omega
   have hxor:intX .xor .i64 ((x * 2:Nat):Int) 285=some (.int .i64 ((x * 2 ^^^ 285:Nat):Int)):=Acn ω ω ω ω
   simp only [Int.natCast_mul,Int.natCast_add] at hx2 hxor hw hw1
   simp at hxor
   by_cases h1:255 < (x:Int) * 2
   all_goals
    simp [g0,g1,g2,g4,hlt',hc8,hw,h255,hw1,hx2,A8,Bx,hg1,hn,Heap.Ad,hcell,hs,h1,hxor]
    refine ⟨ω,ω,ω,ω,ω,ω,i+1,ω,ω,?_⟩
    simp [g0,g1,htab',htw,hn,Heap.Ad,hg0]
   ·omega
   ·rw [if_neg ω]
    omega
  ·subst heq
   have hl:∀ i,(tabC (tabs i)).length=766:=fun i=>by simp [tabC,(Hq i).1,(Hq i).2.1]
   have hz:szT Tryz.prog 275=some 766:=by kernel_rfl
   have hn0:0 < h.next:=Heap.Ah hg0
   have hsn:snap (h.put 0 (tabC (tabs 255))) false 2 (.agg (tabC (tabs 255)))=some (.agg (tabC (tabs 255))):=by
    have:mapL (snap (h.put 0 (tabC (tabs 255))) false 1) (tabC (tabs 255))=some (tabC (tabs 255)):=by
     have hm:∀ l:List AV,(∀ x∈l,snap (h.put 0 (tabC (tabs 255))) false 1 x=some x)→mapL (snap (h.put 0 (tabC (tabs 255))) false 1) l=some l:=by
      intro l hl
      have:=Qy (f:=snap (h.put 0 (tabC (tabs 255))) false 1) (g:=id) (g':=id) (l:=l) hl
      simpa using this
     refine hm _ fun x hx=> ?_
     simp only [tabC,List.mem_append,List.mem_map] at hx
     rcases hx with ⟨y,_,rfl⟩|⟨y,_,rfl⟩<;>rfl
    rw [Da,this];rfl
   simp [g0,g1,g2,g4,Ac,Aj,hz,hg1,hg0,hl,hat,Qz,Heap.Ad,hn0,hsn]
 ·simp [MkInv,Heap.Aa,tabs]
def expL:List Nat:=[1,2,4,8,16,32,64,128,29,58,116,232,205,135,19,38,76,152,45,90,180,117,234,201,143,3,6,12,24,48,96,192,157,39,78,156,37,74,148,53,106,212,181,119,238,193,159,35,70,140,5,10,20,40,80,160,93,186,105,210,185,111,222,161,95,190,97,194,153,47,94,188,101,202,137,15,30,60,120,240,253,231,211,187,107,214,177,127,254,225,223,163,91,182,113,226,217,175,67,134,17,34,68,136,13,26,52,104,208,189,103,206,129,31,62,124,248,237,199,147,59,118,236,197,151,51,102,204,133,23,46,92,184,109,218,169,79,158,33,66,132,21,42,84,168,77,154,41,82,164,85,170,73,146,57,114,228,213,183,115,230,209,191,99,198,145,63,126,252,229,215,179,123,246,241,255,227,219,171,75,150,49,98,196,149,55,110,220,165,87,174,65,130,25,50,100,200,141,7,14,28,56,112,224,221,167,83,166,81,162,89,178,121,242,249,239,195,155,43,86,172,69,138,9,18,36,72,144,61,122,244,245,247,243,251,235,203,139,11,22,44,88,176,125,250,233,207,131,27,54,108,216,173,71,142,1,2,4,8,16,32,64,128,29,58,116,232,205,135,19,38,76,152,45,90,180,117,234,201,143,3,6,12,24,48,96,192,157,39,78,156,37,74,148,53,106,212,181,119,238,193,159,35,70,140,5,10,20,40,80,160,93,186,105,210,185,111,222,161,95,190,97,194,153,47,94,188,101,202,137,15,30,60,120,240,253,231,211,187,107,214,177,127,254,225,223,163,91,182,113,226,217,175,67,134,17,34,68,136,13,26,52,104,208,189,103,206,129,31,62,124,248,237,199,147,59,118,236,197,151,51,102,204,133,23,46,92,184,109,218,169,79,158,33,66,132,21,42,84,168,77,154,41,82,164,85,170,73,146,57,114,228,213,183,115,230,209,191,99,198,145,63,126,252,229,215,179,123,246,241,255,227,219,171,75,150,49,98,196,149,55,110,220,165,87,174,65,130,25,50,100,200,141,7,14,28,56,112,224,221,167,83,166,81,162,89,178,121,242,249,239,195,155,43,86,172,69,138,9,18,36,72,144,61,122,244,245,247,243,251,235,203,139,11,22,44,88,176,125,250,233,207,131,27,54,108,216,173,71,142]
def logL:List Nat:=[0,0,1,25,2,50,26,198,3,223,51,238,27,104,199,75,4,100,224,14,52,141,239,129,28,193,105,248,200,8,76,113,5,138,101,47,225,36,15,33,53,147,142,218,240,18,130,69,29,181,194,125,106,39,249,185,201,154,9,120,77,228,114,166,6,191,139,98,102,221,48,253,226,152,37,179,16,145,34,136,54,208,148,206,143,150,219,189,241,210,19,92,131,56,70,64,30,66,182,163,195,72,126,110,107,58,40,84,250,133,186,61,202,94,155,159,10,21,121,43,78,212,229,172,115,243,167,87,7,112,192,247,140,128,99,13,103,74,222,237,49,197,254,24,227,165,153,119,38,184,180,124,17,68,146,217,35,32,137,46,55,63,209,91,149,188,207,205,144,135,151,178,220,252,190,97,242,86,211,171,20,42,93,158,132,60,57,83,71,109,65,162,31,45,67,216,183,123,164,118,196,23,73,236,127,12,111,246,108,161,59,82,41,157,85,170,251,96,134,177,187,204,62,90,203,89,95,176,156,169,160,81,11,245,22,235,122,117,44,215,79,174,213,233,230,231,173,232,116,214,244,234,168,80,88,175]
theorem Acv:tabs 255=(expL,logL,1):=by kernel_rfl
def chkB (b:Nat):Bool:=b == 0 || match logL[b]? with
 | some l=>decide (l≤254) && match expL[255 - l]? with
  | some x=>decide (x < 256) && UInt8.ofNat x == gi (UInt8.ofNat b)
  | none=>false
 | none=>false
theorem Ags:all chkB 256=true:=by decide+kernel
theorem Agt (b:UInt8) (hb:b≠0):∃ l,logL[b.toNat]? = some l∧l≤254∧expL[255 - l]? = some (gi b).toNat:=by
 have h:=Lb Ags b.toNat (lt8 b)
 have h0:b.toNat≠0:=fun h=>hb (UInt8.toNat_inj.1 h)
 unfold chkB at h
 simp only [Bool.or_eq_true,beq_iff_eq,h0,false_or] at h
 split at h
 ·rename_i l hl
  simp only [Bool.and_eq_true,decide_eq_true_eq] at h
  refine ⟨l,hl,h.1,?_⟩
  have h2:=h.2
  split at h2
  ·rename_i x hx
   simp only [Bool.and_eq_true,decide_eq_true_eq,beq_iff_eq] at h2
   rw [hx,←(by simpa using h2.2:UInt8.ofNat x=gi b)]
   simp only [UInt8.toNat_ofNat']
   rw [Nat.mod_eq_of_lt h2.1]
  ·cases h2
 ·cases h
theorem log1:logL[1]? = some 0:=by decide+kernel
theorem lens:expL.length=510∧logL.length=256:=by decide+kernel
theorem Acw (b:UInt8):As Tryz.prog 188 [B8 1,B8 b] (.tup [B8 (gi b),.int .i64 (if b=0 then 1 else 0)]):=by
 refine As.Ba (k:=2) ?_
 refine CSem.body hm Tryz.func188 rfl κ κ (by simp [Tryz.ntmps188]) ?_
 by_cases hb:b=0
 ·subst hb
  simp [Tryz.f188,B8,gi]
 obtain ⟨l,hl,hl2,he⟩:=Agt b hb
 have h0:b.toNat≠0:=fun h=>hb (UInt8.toNat_inj.1 h)
 have hz:szT Tryz.prog 275=some 766:=by kernel_rfl
 simp [Tryz.f188,B8,h0]
 refine (A5x.call (k:=1) μ).use ?_
 have hlen:(tabC (tabs 255)).length=766:=by simp [tabC,(Hq 255).1,(Hq 255).2.1]
 have hat:(tabC (tabs 255)).all AV.atom=true:=by simp [tabC]
 have hc:tabC (tabs 255)=expL.map u8c ++ logL.map i64c:=by rw [Acv];rfl
 have hlen0:(tabC (tabs 0)).length=766:=by simp [tabC,(Hq 0).1,(Hq 0).2.1]
 have hat0:∀ x∈tabC (tabs 0),x.atom=true:=by
  intro x hx;have:(tabC (tabs 0)).all AV.atom=true:=by simp [tabC]
  exact List.all_eq_true.1 this x hx
 have hl2:(tabC (tabs 0)).length≠2:=by rw [hlen0];decide
 simp [A2j,A85 hl2,AV.cells,Ac,Aj,hz,hlen,hlen0,hat,hat0,Heap.Aa,Qz,hb]
 refine ⟨hat0,?_⟩
 have hlt:logL.length=256:=lens.2
 have hel:expL.length=510:=lens.1
 have k1:(tabC (tabs 255))[510+b.toNat]? = some (.int .i64 l):=by
  rw [hc,List.getElem?_append_right (by simp [hel])]
  simp [hel,hl,i64c]
 have k2:(tabC (tabs 255))[511]? = some (.int .i64 0):=by
  rw [hc,List.getElem?_append_right (by simp [hel])]
  simp [hel,log1,i64c]
 have k3:(tabC (tabs 255))[255 - l]? = some (.int .u8 (gi b).toNat):=by
  rw [hc,List.getElem?_append_left (by simp [hel];omega)]
  simp [he,u8c]
 have hb8:=lt8 b
 have hb8':(b.toNat:Int) < 256:=by omega
 have hw:IntKind.i64.wrap (255 - (l:Int))=((255 - l:Nat):Int):=by rw [wrap64 ω ω];omega
 have hlt510:((255 - l:Nat):Int) < 510:=by omega
 refine Br 15 κ ?_
 simp [A8,Bx,Heap.Ad,Heap.Aa,k1,k2,k3,hb8',hw,hlt510,wrap64]
def invE (b:UInt8):AV:= .int .i64 (if b=0 then 1 else 0)
theorem Acx (b:UInt8):As Tryz.prog 161 [B8 b] (.tup [B8 (gi b),invE b]):=by
 refine As.Ba (k:=2) ?_
 refine CSem.body hm Tryz.func161 rfl κ κ (by simp [Tryz.ntmps161]) ?_
 simp [Tryz.f161]
 refine ((Acw b).call (k:=1) (by simp [B8])).use ?_
 simp [invE]
theorem A2k (b:UInt8) (h:Heap):CSem Tryz.prog 161 [B8 b] h fun x' h'=>x' = .tup [B8 (gi b),invE b]∧h'=h:=(Acx b).call (k:=1) μ
def row0 (a:List (List UInt8)):List UInt8:=a[0]?.getD []
def MayP (a:List (List UInt8)):Prop:=1≤a.length∧a.length≤255∧1≤(row0 a).length∧(row0 a).length≤255∧∀ x∈a,x.length=(row0 a).length
instance (a:List (List UInt8)):Decidable (MayP a):=by unfold MayP;exact inferInstance
def Acy (a:List (List UInt8)) (i:Nat) (r:Regs) (h:Heap):Prop :=
 i≤a.length∧rg r 0=SL a∧rg r 27=SL a∧rg r 28 = .int .i64 a.length∧rg r 29 = .int .i64 i∧∀ x∈a.take i,x.length=(row0 a).length
theorem Acz (a:List (List UInt8)):As Tryz.prog 167 [SL a] (.bool (decide (MayP a))):=by
 refine As.Ba (k:=1) ?_
 refine CSem.body hm Tryz.func167 rfl κ κ (by simp [Tryz.ntmps167]) ?_
 by_cases h1:(a.length:Int) < 1
 ·have:¬MayP a:=fun h=>by have:=h.1;omega
  simp [Tryz.f167,h1,this]
 by_cases h2:(255:Int) < (a.length:Int)
 ·have:¬MayP a:=fun h=>by have:=h.2.1;omega
  simp [Tryz.f167,h1,h2,this]
 have hp:0 < a.length:=by omega
 have h0:a[0]? = some a[0]:=List.getElem?_eq_getElem hp
 have hr0:row0 a=a[0]:=by simp [row0,h0]
 by_cases h3:(a[0].length:Int) < 1
 ·have:¬MayP a:=fun h=>by have:=h.2.2.1;rw [hr0] at this;omega
  simp [Tryz.f167,h1,h2,hp,h3,this]
 by_cases h4:(255:Int) < (a[0].length:Int)
 ·have:¬MayP a:=fun h=>by have:=h.2.2.2.1;rw [hr0] at this;omega
  simp [Tryz.f167,h1,h2,hp,h3,h4,this]
 simp [Tryz.f167,h1,h2,hp,h3,h4]
 refine Ar (Acy a) (a.length - ·) ?_ 0 ?_
 ·rintro i r h ⟨hi,g0,g27,g28,g29,ha⟩
  rcases Nat.lt_or_eq_of_le hi with hlt|heq
  ·have hx:a[i]? = some a[i]:=List.getElem?_eq_getElem hlt
   by_cases he:a[i].length=a[0].length
   ·simp [g0,g27,g28,g29,hlt,hp,he]
    refine ⟨i+1,ω,ω,?_⟩
    simp [g0,g27,g28,g29,wrap64 (n:=(i:Int)+1) ω ω]
    intro x hxm
    rw [List.take_succ_eq_append_getElem hlt] at hxm
    rcases List.mem_append.1 hxm with hm|hm
    ·exact ha x hm
    ·simp at hm;rw [hm,he,hr0]
   ·have:¬MayP a:=fun h=>he (by rw [←hr0];exact h.2.2.2.2 _ (List.getElem_mem hlt))
    simp [g0,g27,g28,g29,hlt,hp,he,this]
  ·subst heq
   have:MayP a:=⟨ω,ω,by rw [hr0];omega,by rw [hr0];omega,by simpa using ha⟩
   simp [g0,g27,g28,g29,this]
 ·simp [Acy]
theorem A2m (a:List (List UInt8)) (h:Heap):CSem Tryz.prog 167 [SL a] h fun x' h'=>x' = .bool (decide (MayP a))∧h'=h:=(Acz a).call (k:=2) μ
def atR (a:List (List UInt8)) (r:Int):List UInt8:=a[r.toNat]?.getD []
def R5 (a:List (List UInt8)) (rows:List Int):Prop:=MayP a∧1≤rows.length∧rows.length≤255∧∀ r∈rows,0≤r∧r < a.length
instance (a:List (List UInt8)) (rows:List Int):Decidable (R5 a rows):=by unfold R5;exact inferInstance
def J4 (a:List (List UInt8)) (rows:List Int):List (List UInt8)×Int:=if R5 a rows then (rows.map (atR a),0) else ([],1)
def A86 (a:List (List UInt8)) (rows:List Int) (i:Nat) (r:Regs) (h:Heap):Prop :=
 i≤rows.length∧rg r 0=SL a∧rg r 22=IL rows∧rg r 23 = .int .i64 rows.length∧rg r 24 = .int .i64 i∧(∀ r∈rows.take i,0≤r∧r < a.length)∧Own h (rg r 6) (((rows.take i).map (atR a)).map S)
theorem A5y (a:List (List UInt8)) (rows:List Int):Jj Tryz.prog 145 [SL a,IL rows] (J4 a rows).1 (J4 a rows).2:=by
 refine CSem.body hm Tryz.func145 rfl κ κ (by simp [Tryz.ntmps145]) ?_
 simp [Tryz.f145]
 refine (A2m a _).use ?_
 by_cases h1:MayP a
 rotate_left
 ·have:¬R5 a rows:=fun h=>h1 h.1
  simp [h1,J4,this,FrQ.nil]
 by_cases h2:rows.length=0
 ·have:¬R5 a rows:=fun h=>by have:=h.2.1;omega
  simp [h1,h2,J4,this,FrQ.nil]
 by_cases h3:(255:Int) < rows.length
 ·have:¬R5 a rows:=fun h=>by have:=h.2.2.1;omega
  simp [h1,h2,h3,J4,this,FrQ.nil]
 simp [h1,h2,h3]
 refine Ar (A86 a rows) (rows.length - ·) ?_ 0 ?_
 ·rintro i r h ⟨hi,g0,g22,g23,g24,ha,ho⟩
  rcases Nat.lt_or_eq_of_le hi with hlt|heq
  ·have hx:rows[i]? = some rows[i]:=List.getElem?_eq_getElem hlt
   by_cases h4:rows[i] < 0
   ·have:¬R5 a rows:=fun h=>by have:=(h.2.2.2 _ (List.getElem_mem hlt)).1;omega
    simp [g0,g22,g23,g24,hlt,I64,h4,J4,this,FrQ.nil]
   by_cases h5:(a.length:Int)≤rows[i]
   ·have:¬R5 a rows:=fun h=>by have:=(h.2.2.2 _ (List.getElem_mem hlt)).2;omega
    simp [g0,g22,g23,g24,hlt,I64,h4,h5,J4,this,FrQ.nil]
   have k1:0≤rows[i]:=by omega
   have k2:rows[i] < a.length:=by omega
   have k3:a[rows[i].toNat]? = some a[rows[i].toNat]:=List.getElem?_eq_getElem ω
   simp [g0,g22,g23,g24,hlt,I64,h4,h5,k1,k2,k3]
   obtain ⟨x',h',e,ho',hnx,hat,hk⟩:=H7 (P:=Tryz.prog) (t:=51) (xt:=51) κ ho (by simp;omega) (Jk a[rows[i].toNat])
   simp [Bt (P:=Tryz.prog) (t:=51) (xt:=51) κ,e,g0,g22,g23,g24]
   refine ⟨i+1,ω,ω,by simp [g0],by simp [g22],by simp [g23],by simp [wrap64 (n:=(i:Int)+1) ω ω],Px ha hx ⟨k1,k2⟩,?_⟩
   rw [Y8 _ hx,List.map_append]
   simpa [atR,k3] using ho'
  ·subst heq
   have hP:R5 a rows:=⟨h1,ω,ω,by simpa using ha⟩
   rw [List.take_length] at ho
   simp [g0,g22,g23,g24,J4,hP]
   exact FrQ.own ho
 ·simp [A86,Own]
theorem A9q (a:List (List UInt8)) (rows:List Int) (h:Heap):CSem Tryz.prog 145 [SL a,IL rows] h fun x' h'=>x'=rL (J4 a rows).1 (J4 a rows).2∧h'=h:=(A5y a rows).pure.call (k:=2) μ
def MulP (a b:List (List UInt8)):Prop:=MayP a∧MayP b∧(row0 a).length=b.length
instance (a b:List (List UInt8)):Decidable (MulP a b):=by unfold MulP;exact inferInstance
theorem A9r (o:Option (List UInt8)) (e:Int):∃ n,rS e o = .tup [S (o.getD []),.int .i64 n]:=by
 cases o with
 | none=>exact ⟨e,rfl⟩
 | some x=>exact ⟨0,rfl⟩
theorem A2n (c:List UInt8) (l:List (List UInt8)) (hl:l.length < 2 ^ 40) (hx:∀ x∈l,x.length < 2 ^ 40) {h:Heap} {x:AV} (hs:snap h true 2 x=some (BL c)) :
  CSem Tryz.prog 147 [x,SL l] h fun x' h'=>x'=rS 1 (Fh c l)∧h'=h:=(A2h c l hl hx).call (k:=2) (by simp [hs])
structure Chg (h h':Heap) (b:Nat) (cs:List AV):Prop where
 next:h'.next=h.next
 this:h'.get b=some cs
 other:∀ k,k≠b→h'.get k=h.get k
theorem Chg.put {h:Heap} {b:Nat} {xs cs:List AV} (hg:h.get b=some xs):Chg h (h.put b cs) b cs :=
 ⟨rfl,Heap.Ak hg,fun k hk=>Heap.Aq hg hk⟩
theorem Chg.step {h h1:Heap} {b:Nat} {xs cs:List AV} (c:Chg h h1 b xs):Chg h (h1.put b cs) b cs :=
 ⟨c.next,Heap.Ak c.this,fun k hk=>by rw [Heap.Aq c.this hk,c.other k hk]⟩
theorem Chg.refl {h:Heap} {b:Nat} {xs:List AV} (hg:h.get b=some xs):Chg h h b xs:=⟨rfl,hg,fun _ _=>rfl⟩
def ScInv (a:List UInt8) (c:UInt8) (b:Nat) (h0:Heap) (i:Nat) (r:Regs) (h:Heap):Prop :=
 i≤a.length∧rg r 0 = .sl b 0 a.length a.length 1∧rg r 1=B8 c∧rg r 6 = .sl b 0 a.length a.length 1∧rg r 7 = .int .i64 a.length∧rg r 8 = .int .i64 i∧Chg h0 h b ((mid (Cq a c) a i).map B8)
theorem Va (a:List UInt8) (c:UInt8) (b:Nat) (h:Heap) (ha:a.length < 2 ^ 60) (hg:h.get b=some (a.map B8)) :
  CSem Tryz.prog 169 [.sl b 0 a.length a.length 1,B8 c] h fun x' h'=>Chg h h' b ((Cq a c).map B8):=by
 refine CSem.body hm Tryz.func169 rfl κ κ (by simp [Tryz.ntmps169]) ?_
 have hl:(Cq a c).length=a.length:=by simp [Cq]
 simp [Tryz.f169]
 refine Ar (ScInv a c b h) (a.length - ·) ?_ 0 ?_
 ·rintro i r h1 ⟨hi,g0,g1,g6,g7,g8,hc⟩
  have hg:=hc.this
  rcases Nat.lt_or_eq_of_le hi with hlt|heq
  ·have hx:a[i]? = some a[i]:=List.getElem?_eq_getElem hlt
   have hm:=Ug hl hi
   rw [hx] at hm
   have hz:(Cq a c)[i]? = some (gm a[i] c):=by simp [Cq,hx]
   simp [g0,g1,g6,g7,g8,hg,hlt,hm]
   refine (A0x _ _ _).use ?_
   simp [g0,g1,g6,g7,g8,hg,hlt,hl,hi]
   refine ⟨i+1,ω,ω,by simp [g0],by simp [g1],by simp [g6],by simp [g7],by simp [wrap64 (n:=(i:Int)+1) ω ω],?_⟩
   have:=hc.step (cs:=(mid (Cq a c) a (i+1)).map B8)
   rw [←Gm hl hlt hz,List.map_set] at this ⊢
   exact this
  ·subst heq
   rw [F7 hl] at hc
   simp [g0,g1,g6,g7,g8,hc]
 ·exact ⟨Nat.zero_le _,μ,μ,μ,μ,μ,by simpa using Chg.refl hg⟩
def AdInv (a y:List UInt8) (c:UInt8) (b d:Nat) (h0:Heap) (i:Nat) (r:Regs) (h:Heap):Prop :=
 i≤a.length∧rg r 0 = .sl b 0 a.length a.length 1∧rg r 2=B8 c∧rg r 8 = .sl d 0 a.length a.length 1∧rg r 9 = .int .i64 a.length∧rg r 10 = .int .i64 i∧Chg h0 h b ((mid (addL a y c) a i).map B8)
theorem A2p (a y:List UInt8) (c:UInt8) (b d:Nat) (h:Heap) (ha:a.length < 2 ^ 60) (hy:y.length=a.length) (hbd:d≠b) (hg:h.get b=some (a.map B8)) (hd:h.get d=some (y.map B8)) :
  CSem Tryz.prog 170 [.sl b 0 a.length a.length 1,.sl d 0 a.length a.length 1,B8 c] h fun x' h'=>Chg h h' b ((addL a y c).map B8):=by
 refine CSem.body hm Tryz.func170 rfl κ κ (by simp [Tryz.ntmps170]) ?_
 have hl:(addL a y c).length=a.length:=by simp [addL,hy]
 simp [Tryz.f170]
 refine Ar (AdInv a y c b d h) (a.length - ·) ?_ 0 ?_
 ·rintro i r h1 ⟨hi,g0,g2,g8,g9,g10,hc⟩
  have hg:=hc.this
  have hd1:h1.get d=some (y.map B8):=by rw [hc.other d hbd,hd]
  rcases Nat.lt_or_eq_of_le hi with hlt|heq
  ·have hx:a[i]? = some a[i]:=List.getElem?_eq_getElem hlt
   have hyi:y[i]? = some y[i]:=List.getElem?_eq_getElem ω
   have hm:=Ug hl hi
   rw [hx] at hm
   have hz:(addL a y c)[i]? = some (a[i] ^^^ gm y[i] c):=by simp [addL,List.getElem?_zipWith,hx,hyi]
   simp [g0,g2,g8,g9,g10,hg,hlt,hm,hd1,hyi]
   refine Br 11 κ ?_
   simp [g0,g2,g8,g9,g10,hg,hlt,hm,hd1,hyi]
   refine (mul_q _ _ _).use ?_
   simp [g0,g2,g8,g9,g10,hg,hlt,hm,hd1,hyi]
   refine (add_q _ _ _).use ?_
   simp [g0,g2,g8,g9,g10,hg,hlt,hl,hi]
   refine ⟨i+1,ω,ω,by simp [g0],by simp [g2],by simp [g8],by simp [g9],by simp [wrap64 (n:=(i:Int)+1) ω ω],?_⟩
   have:=hc.step (cs:=(mid (addL a y c) a (i+1)).map B8)
   rw [←Gm hl hlt hz,List.map_set] at this ⊢
   exact this
  ·subst heq
   rw [F7 hl] at hc
   simp [g0,g2,g8,g9,g10,hc]
 ·exact ⟨Nat.zero_le _,μ,μ,μ,μ,μ,by simpa using Chg.refl hg⟩
structure Rws (h:Heap) (b:Nat) (B:List Nat) (M:List (List UInt8)) (n:Nat):Prop where
 len:B.length=M.length
 top:h.get b=some (B.map fun k=> .sl k 0 n n 1)
 row:∀ (i k:Nat) (x:List UInt8),B[i]? = some k→M[i]? = some x→x.length=n∧h.get k=some (x.map B8)
def Ft (b n:Nat):List AV:=(List.range n).map fun j=> .sl (b+1+j) 0 n n 1
def UInv (n:Nat) (h0:Heap) (i:Nat) (r:Regs) (h:Heap):Prop :=
 i≤n∧rg r 0 = .int .i64 n∧rg r 3 = .sl h0.next 0 n n 1∧rg r 8 = .int .i64 n∧rg r 9 = .int .i64 i∧h.next=h0.next+1+i∧h.get h0.next=some (mid (Ft h0.next n) (List.replicate n .nilSl) i) ∧
 (∀ j,j < i→h.get (h0.next+1+j)=some ((Cu n j).map B8))∧∀ k,k < h0.next→h.get k=h0.get k
theorem Jm (n:Nat) (h:Heap) (hn:n < 2 ^ 30):CSem Tryz.prog 168 [.int .i64 n] h fun x' h' =>
  x' = .sl h.next 0 n n 1∧Rws h' h.next ((List.range n).map (h.next+1 + ·)) (Bs n) n∧h'.next=h.next+1+n∧∀ k,k < h.next→h'.get k=h.get k:=by
 refine CSem.body hm Tryz.func168 rfl κ κ (by simp [Tryz.ntmps168]) ?_
 have hl:(Ft h.next n).length=(List.replicate n AV.nilSl).length:=by simp [Ft]
 simp [Tryz.f168]
 refine ⟨ω,?_⟩
 refine Ar (UInv n h) (n - ·) ?_ 0 ?_
 ·rintro i r h1 ⟨hi,g0,g3,g8,g9,hnx,hb,hr,ho⟩
  rcases Nat.lt_or_eq_of_le hi with hlt|heq
  ·have hz:(Ft h.next n)[i]? = some (.sl (h.next+1+i) 0 n n 1):=by simp [Ft,hlt]
   have hne:h.next≠h.next+1+i:=by omega
   have hml:(mid (Ft h.next n) (List.replicate n AV.nilSl) i).length=n:=by rw [H8 hl (by simpa using hi)];simp
   have hset:(mid (Ft h.next n) (List.replicate n AV.nilSl) i).set i (.sl (h.next+1+i) 0 n n 1)=mid (Ft h.next n) (List.replicate n AV.nilSl) (i+1):=Gm hl (by simpa using hlt) hz
   have hget:(mid (Ft h.next n) (List.replicate n AV.nilSl) (i+1))[i]? = some (.sl (h.next+1+i) 0 n n 1):=by
    rw [←hset,List.getElem?_set,if_pos rfl,if_pos ω]
   have hbig:(n:Int)≤140737488355328:=by omega
   have ha1:(h1.alloc (List.replicate n (AV.int .u8 0))).get h.next=some (mid (Ft h.next n) (List.replicate n AV.nilSl) i):=Heap.Ag hb
   have ha2:(h1.alloc (List.replicate n (AV.int .u8 0))).get (h.next+1+i)=some (List.replicate n (AV.int .u8 0)):=by rw [←hnx];exact Heap.A9 _ _
   have k1:((h1.alloc (List.replicate n (AV.int .u8 0))).put h.next (mid (Ft h.next n) (List.replicate n AV.nilSl) (i+1))).get h.next=some (mid (Ft h.next n) (List.replicate n AV.nilSl) (i+1)):=Heap.Ak ha1
   have k2:((h1.alloc (List.replicate n (AV.int .u8 0))).put h.next (mid (Ft h.next n) (List.replicate n AV.nilSl) (i+1))).get (h.next+1+i)=some (List.replicate n (AV.int .u8 0)):=by
    rw [Heap.Aq ha1 ω,ha2]
   simp [g0,g3,g8,g9,hlt,hnx,ha1,hml,hset,k1,k2,hget,hbig]
   refine ⟨i+1,ω,ω,by simp [g0],by simp [g3],by simp [g8],by simp [wrap64 (n:=(i:Int)+1) ω ω],by simp [hnx];omega,?_,fun j hj=> ?_,fun k hk=> ?_⟩
   ·rw [Heap.Aq k2 ω,k1]
   ·by_cases hji:j=i
    ·subst hji
     rw [Heap.Ak k2]
     rw [J8,Cu,List.map_set]
     rfl
    ·rw [Heap.Aq k2 ω,Heap.Aq ha1 ω,Heap.Aa,if_neg ω,hr j ω]
   ·rw [Heap.Aq k2 ω,Heap.Aq ha1 ω,Heap.Aa,if_neg ω,ho k hk]
  ·subst heq
   rw [show mid (Ft h.next i) (List.replicate i AV.nilSl) i=Ft h.next i by have:=F7 hl;simpa using this] at hb
   simp [g0,g3,g8,g9]
   refine ⟨⟨by simp [Bs],by rw [hb];simp [Ft],fun j k x hk hx=> ?_⟩,hnx,ho⟩
   have hj:j < i:=by
    have:=(List.getElem?_eq_some_iff.1 hx).1
    simpa [Bs] using this
   simp [Bs,List.getElem?_range hj] at hk hx
   subst hk;subst hx
   exact ⟨by simp [Cu],hr j hj⟩
 ·refine ⟨Nat.zero_le _,μ,μ,μ,μ,μ,by simp [Heap.Aa],fun j hj=>by omega,fun k hk=> ?_⟩
  rw [Heap.Aa,if_neg ω]
theorem Rws.snap {h:Heap} {b n:Nat} {B:List Nat} {M:List (List UInt8)} (R:Rws h b B M n) {al:Bool} : X.snap h al 3 (.sl b 0 M.length M.length 1)=some (BBL M):=by
 have hcells:(B.map fun k=>AV.sl k 0 n n 1)=(List.range M.length).map fun i=>AV.sl (B[i]?.getD 0) 0 n n 1:=by
  apply List.ext_getElem?
  intro i
  simp only [List.getElem?_map]
  by_cases hi:i < M.length
  ·have hb:B[i]? = some (B[i]'(by rw [R.len];exact hi)):=List.getElem?_eq_getElem (by rw [R.len];exact hi)
   rw [List.getElem?_range hi]
   simp only [Option.map_some,hb,Option.getD_some]
  ·rw [List.getElem?_eq_none (by rw [R.len];omega),List.getElem?_eq_none (by simp;omega)]
   rfl
 have hg:=R.top
 rw [hcells] at hg
 have h1:BBL M=TL (fun i=>BL (M[i]?.getD [])) (List.range M.length):=by
  simp only [TL,List.length_range]
  congr 1
  apply List.ext_getElem?
  intro i
  simp only [List.getElem?_map]
  by_cases hi:i < M.length
  ·rw [List.getElem?_range hi,List.getElem?_eq_getElem hi]
   simp [List.getElem?_eq_getElem hi,TL]
  ·rw [List.getElem?_eq_none ω,List.getElem?_eq_none (by simp;omega)]
   rfl
 rw [h1]
 refine R6 hg (Sw μ) μ (fun i hi=> ?_)
 have hi:i < M.length:=by simpa using hi
 have hib:i < B.length:=by rw [R.len];exact hi
 have hB:B[i]? = some B[i]:=List.getElem?_eq_getElem hib
 have hM:M[i]? = some M[i]:=List.getElem?_eq_getElem hi
 obtain ⟨r1,r2⟩:=R.row i _ _ hB hM
 rw [hB,hM]
 exact F8 r2 r1.symm (fun _=>rfl)
def TxInv (M:List (List UInt8)) (i:Nat) (r:Regs) (h:Heap):Prop :=
 i≤M.length∧rg r 3 = .sl 0 0 M.length M.length 1∧rg r 9=BBL M∧rg r 10 = .int .i64 M.length∧rg r 11 = .int .i64 i∧h.get 0=some ((mid M (List.replicate M.length []) i).map S)
theorem A9s (M:List (List UInt8)) (hM:M.length < 2 ^ 40):CSem Tryz.prog 171 [BBL M] Heap.empty fun x' h'=> ∃ b,x' = .sl b 0 M.length M.length 1∧h'.get b=some (M.map S):=by
 refine CSem.body hm Tryz.func171 rfl κ κ (by simp [Tryz.ntmps171]) ?_
 have hl:M.length=(List.replicate M.length ([]:List UInt8)).length:=by simp
 have hbig:(M.length:Int)≤140737488355328:=by omega
 simp [Tryz.f171,hbig]
 refine ⟨ω,?_⟩
 refine Ar (TxInv M) (M.length - ·) ?_ 0 ?_
 ·rintro i r h ⟨hi,g3,g9,g10,g11,hg⟩
  rcases Nat.lt_or_eq_of_le hi with hlt|heq
  ·have hx:M[i]? = some M[i]:=List.getElem?_eq_getElem hlt
   have hml:(mid M (List.replicate M.length ([]:List UInt8)) i).length=M.length:=by rw [H8 hl (by simpa using hi)];simp
   simp [g3,g9,g10,g11,hlt,hg,hml]
   refine ⟨i+1,ω,ω,by simp [g3],by simp [g9],by simp [g10],by simp [wrap64 (n:=(i:Int)+1) ω ω],?_⟩
   rw [Heap.Ak hg,←List.map_set,Gm hl (by simpa using hlt) hx]
  ·subst heq
   rw [show mid M (List.replicate M.length []) M.length=M by have:=F7 hl;simpa using this] at hg
   simp [g3,g9,g10,g11,hg]
 ·refine ⟨Nat.zero_le _,μ,μ,μ,μ,?_⟩
  simp [Heap.Aa]
theorem Vb (M:List (List UInt8)) (hM:M.length < 2 ^ 40) {h:Heap} {x:AV} (hs:snap h true 3 x=some (BBL M)) :
  CSem Tryz.prog 171 [x] h fun x' h'=>x' = .sl h.next 0 M.length M.length 1∧h'=h.alloc (M.map S) :=
 CSem.fresh (k:=3) (by simp [hs]) (Py.sl _ _ _) (A87 M) (A9s M hM)
def IdP (n:Int):Prop:=1≤n∧n≤255
instance (n:Int):Decidable (IdP n):=by unfold IdP;exact inferInstance
theorem A9t (n:Int) (hn:IdP n):CSem Tryz.prog 159 [.int .i64 n] Heap.empty fun x' h'=> ∃ b,x' = .tup [.sl b 0 (Bs n.toNat).length (Bs n.toNat).length 1,.int .i64 0]∧h'.get b=some ((Bs n.toNat).map S):=by
 refine CSem.body hm Tryz.func159 rfl κ κ (by simp [Tryz.ntmps159]) ?_
 obtain ⟨k,rfl⟩:=Int.eq_ofNat_of_zero_le (show 0≤n by have:=hn.1;omega)
 have h1:¬(k:Int) < 1:=by have:=hn.1;omega
 have h2:¬(255:Int) < k:=by have:=hn.2;omega
 simp [Tryz.f159,h1,h2]
 refine (Jm k _ ω).then ?_
 rintro x' h' ⟨rfl,R,-,-⟩
 have hs:=R.snap (al:=true)
 have hlen:(Bs k).length=k:=by simp [Bs]
 rw [hlen] at hs
 simp
 refine (Vb (Bs k) ω hs).then ?_
 rintro x' h' ⟨rfl,rfl⟩
 simp
 exact Heap.A9 _ _
theorem A5z (n:Int) (hn:IdP n) (h:Heap):CSem Tryz.prog 159 [.int .i64 n] h fun x' h'=>x' = .tup [.sl h.next 0 (Bs n.toNat).length (Bs n.toNat).length 1,.int .i64 0]∧h'=h.alloc ((Bs n.toNat).map S) :=
 CSem.fresh (k:=1) (F:=fun b=> .tup [.sl b 0 (Bs n.toNat).length (Bs n.toNat).length 1,.int .i64 0]) μ ((Py.sl _ _ _).tup (k:=1) rfl) (A87 _) (A9t n hn)
structure Tbl (h:Heap) (b:Nat) (β:Nat→Nat) (M:Tab) (n:Nat):Prop where
 len:M.length=n
 top:h.get b=some ((List.range n).map fun i=> .sl (β i) 0 n n 1)
 row:∀ i,i < n→(rowN M i).length=n∧h.get (β i)=some ((rowN M i).map B8)
 inj:∀ i j,i < n→j < n→β i=β j→i=j
 ne:∀ i,i < n→β i≠b
structure St (h:Heap) (b:Nat) (β:Nat→Nat) (L:Tab) (d:Nat) (δ : Nat→Nat) (R:Tab) (n:Nat):Prop where
 left:Tbl h b β L n
 right:Tbl h d δ R n
 tops:b≠d
 rows:∀ i j,i < n→j < n→β i≠δ j
 bd:∀ i,i < n→δ i≠b
 db:∀ i,i < n→β i≠d
theorem St.symm {h:Heap} {b d n:Nat} {β δ : Nat→Nat} {L R:Tab} (s:St h b β L d δ R n):St h d δ R b β L n :=
 ⟨s.right,s.left,s.tops.symm,fun i j hi hj e=>s.rows j i hj hi e.symm,s.db,s.bd⟩
theorem Vc {M:Tab} {k:Nat} {x:List UInt8} (hk:k < M.length) (i:Nat):rowN (M.set k x) i=if i=k then x else rowN M i:=by
 unfold rowN
 rw [List.getElem?_set]
 by_cases h:k=i
 ·subst h;simp [hk]
 ·rw [if_neg h,if_neg (Ne.symm h)]
theorem Tbl.frame {h h':Heap} {b n:Nat} {β:Nat→Nat} {M:Tab} (t:Tbl h b β M n) (h1:h'.get b=h.get b) (h2:∀ i,i < n→h'.get (β i)=h.get (β i)):Tbl h' b β M n :=
 ⟨t.len,by rw [h1];exact t.top,fun i hi=>⟨(t.row i hi).1,by rw [h2 i hi];exact (t.row i hi).2⟩,t.inj,t.ne⟩
theorem St.setRow {h h':Heap} {b d n k:Nat} {β δ : Nat→Nat} {L R:Tab} (s:St h b β L d δ R n) (hk:k < n) {x:List UInt8} (hx:x.length=n) (c:Chg h h' (β k) (x.map B8)):St h' b β (L.set k x) d δ R n:=by
 refine ⟨⟨by simp [s.left.len],?_,fun i hi=> ?_,s.left.inj,s.left.ne⟩,s.right.frame (c.other _ ?_) fun i hi=>c.other _ ?_,s.tops,s.rows,s.bd,s.db⟩
 ·rw [c.other b (fun e=>s.left.ne k hk e.symm)];exact s.left.top
 ·rw [Vc (by rw [s.left.len];exact hk)]
  by_cases hik:i=k
  ·subst hik;rw [if_pos rfl];exact ⟨hx,c.this⟩
  ·rw [if_neg hik,c.other _ (fun e=>hik (s.left.inj i k hi hk e))]
   exact s.left.row i hi
 ·exact fun e=>s.db k hk e.symm
 ·exact fun e=>s.rows k i hk hi e.symm
def Vd (β:Nat→Nat) (r c:Nat):Nat→Nat:=fun i=>if i=c then β r else if i=r then β c else β i
theorem Sx {α:Type} {n k:Nat} {f:Nat→α} {v:α} : ((List.range n).map f).set k v=(List.range n).map fun i=>if i=k then v else f i:=by
 apply List.ext_getElem?
 intro i
 rw [List.getElem?_set]
 by_cases hi:i < n
 ·by_cases hk:k=i
  ·subst hk;simp [hi]
  ·rw [if_neg hk];simp [hi,Ne.symm hk]
 ·by_cases hk:k=i
  ·subst hk;simp [hi]
  ·rw [if_neg hk];simp [hi]
theorem St.swap {h h':Heap} {b d n r c:Nat} {β δ : Nat→Nat} {L R:Tab} (s:St h b β L d δ R n) (hr:r < n) (hc:c < n)
  (ch:Chg h h' b ((((List.range n).map fun i=>AV.sl (β i) 0 n n 1).set r (.sl (β c) 0 n n 1)).set c (.sl (β r) 0 n n 1))):St h' b (Vd β r c) (Dh L r c) d δ R n:=by
 have hne:∀ i,i < n→Vd β r c i≠b:=by
  intro i hi
  unfold Vd
  split
  ·exact s.left.ne r hr
  ·split
   ·exact s.left.ne c hc
   ·exact s.left.ne i hi
 have hinv:∀ i,i < n→∃ j,j < n∧Vd β r c i=β j∧rowN (Dh L r c) i=rowN L j∧j=(if i=c then r else if i=r then c else i):=by
  intro i hi
  have hlen:=s.left.len
  unfold Vd Dh
  rw [Vc (by simp;omega),Vc ω]
  by_cases h1:i=c
  ·exact ⟨r,hr,by simp [h1],by simp [h1],by simp [h1]⟩
  ·by_cases h2:i=r
   ·exact ⟨c,hc,by rw [if_neg h1,if_pos h2],by rw [if_neg h1,if_pos h2],by rw [if_neg h1,if_pos h2]⟩
   ·exact ⟨i,hi,by simp [h1,h2],by simp [h1,h2],by simp [h1,h2]⟩
 refine ⟨⟨by simp [Dh,s.left.len],?_,fun i hi=> ?_,fun i j hi hj e=> ?_,hne⟩,s.right.frame (ch.other _ s.tops.symm) fun i hi=>ch.other _ (s.bd i hi),s.tops,fun i j hi hj=> ?_,s.bd,fun i hi=> ?_⟩
 ·rw [ch.this,Sx,Sx]
  congr 1
  apply List.map_congr_left
  intro i _
  unfold Vd
  split
  ·rfl
  ·split<;>rfl
 ·obtain ⟨j,hj,e1,e2,_⟩:=hinv i hi
  rw [e1,e2,ch.other _ (s.left.ne j hj)]
  exact s.left.row j hj
 ·obtain ⟨i',hi',e1,_,e3⟩:=hinv i hi
  obtain ⟨j',hj',f1,_,f3⟩:=hinv j hj
  rw [e1,f1] at e
  have:=s.left.inj i' j' hi' hj' e
  rw [e3,f3] at this
  revert this
  split<;>split<;>(try split)<;>(try split)<;>omega
 ·obtain ⟨i',hi',e1,_⟩:=hinv i hi
  rw [e1];exact s.rows i' j hi' hj
 ·obtain ⟨i',hi',e1,_⟩:=hinv i hi
  rw [e1];exact s.db i' hi'
theorem St.swapR {h h':Heap} {b d n r c:Nat} {β δ : Nat→Nat} {L R:Tab} (s:St h b β L d δ R n) (hr:r < n) (hc:c < n)
  (ch:Chg h h' d ((((List.range n).map fun i=>AV.sl (δ i) 0 n n 1).set r (.sl (δ c) 0 n n 1)).set c (.sl (δ r) 0 n n 1))):St h' b β L d (Vd δ r c) (Dh R r c) n :=
 (s.symm.swap hr hc ch).symm
theorem St.A88 {h h':Heap} {b d n k:Nat} {β δ : Nat→Nat} {L R:Tab} (s:St h b β L d δ R n) (hk:k < n) {x:List UInt8} (hx:x.length=n) (c:Chg h h' (δ k) (x.map B8)):St h' b β L d δ (R.set k x) n :=
 (s.symm.setRow hk hx c).symm
theorem Tbl.rws {h:Heap} {b n:Nat} {β:Nat→Nat} {M:Tab} (t:Tbl h b β M n):Rws h b ((List.range n).map β) M n:=by
 refine ⟨by simp [t.len],by rw [t.top];simp,fun i k x hk hx=> ?_⟩
 have hi:i < n:=by have:=(List.getElem?_eq_some_iff.1 hx).1;rw [t.len] at this;exact this
 simp [hi] at hk
 subst hk
 have:=t.row i hi
 simpa [rowN,hx] using this
def SqP (a:Tab):Prop:=MayP a∧a.length=(row0 a).length
instance (a:Tab):Decidable (SqP a):=by unfold SqP;exact inferInstance
def invR (a:Tab):Tab×Int:=if SqP a then match gj a.length a a.length with
 | some s=>(s.2,0)
 | none=>([],2) else ([],1)
def Made (a:Tab) (n:Nat) (r:Regs) (h:Heap):Prop :=
 ∃ bl br δ,rg r 0=SL a∧rg r 4 = .int .i64 n∧rg r 5 = .sl bl 0 n n 1∧rg r 6 = .sl br 0 n n 1∧h.get bl=some (List.replicate n .nilSl)∧Tbl h br δ (Bs n) n∧bl≠br∧∀ i,i < n→δ i≠bl
theorem Tbl.Nw {h:Heap} {b n:Nat} (R:Rws h b ((List.range n).map (b+1 + ·)) (Bs n) n):Tbl h b (b+1 + ·) (Bs n) n:=by
 have hl:(Bs n).length=n:=by simp [Bs]
 refine ⟨hl,by rw [R.top];simp,fun i hi=> ?_,fun i j _ _ e=>by omega,fun i _=>by omega⟩
 have hx:(Bs n)[i]? = some (Bs n)[i]:=List.getElem?_eq_getElem ω
 have:=R.row i (b+1+i) _ (by simp [hi]) hx
 simpa [rowN,hx] using this
theorem Tbl.A0y {h:Heap} {n:Nat} {M:Tab} {cs:List AV} (t:Tbl h 0 (0+1 + ·) M n) (nx:h.next=0+1+n):Tbl (h.alloc cs) 0 (0+1 + ·) M n :=
 t.frame (by rw [Heap.Aa,if_neg ω]) (fun i hi=>by show (h.alloc cs).get (0+1+i)=h.get (0+1+i);rw [Heap.Aa,if_neg ω])
def Lx (β:Nat→Nat) (n i:Nat):List AV:=(List.range n).map fun j=>if j < i then .sl (β j) 0 n n 1 else .nilSl
theorem A60 {β:Nat→Nat} {n i b:Nat} : (Lx β n i).set i (.sl b 0 n n 1)=Lx (fun j=>if j=i then b else β j) n (i+1):=by
 unfold Lx
 rw [Sx]
 apply List.map_congr_left
 intro j _
 by_cases h:j=i
 ·subst h;simp
 ·rw [if_neg h]
  by_cases h2:j < i
  ·rw [if_pos h2,if_pos ω]
   show _=AV.sl (if j=i then b else β j) 0 n n 1
   rw [if_neg h]
  ·rw [if_neg h2,if_neg ω]
def Yw (a:Tab) (n bl br:Nat) (δ : Nat→Nat) (i:Nat) (h:Heap):Prop :=
 ∃ β,h.get bl=some (Lx β n i)∧Tbl h br δ (Bs n) n∧(∀ j,j < i→h.get (β j)=some ((rowN a j).map B8)∧β j≠bl∧β j≠br∧∀ k,k < n→β j≠δ k)∧∀ j k,j < i→k < i→β j=β k→j=k
theorem Yw.step {a:Tab} {n bl br i:Nat} {δ : Nat→Nat} {h:Heap} {row:List UInt8} {cs:List AV} (hcs:h.get bl=some cs) (hrow:rowN a i=row) (hrl:row.length=n) (hin:i < n) (hne:bl≠br) (hδ : ∀ i,i < n→δ i≠bl) (hh:Yw a n bl br δ i h) :
  Yw a n bl br δ (i+1) ((h.alloc (row.map B8)).put bl (cs.set i (.sl h.next 0 row.length row.length 1))):=by
 obtain ⟨β,hb,ht,hβ,hinj⟩:=hh
 rw [hb] at hcs
 cases hcs
 have hA:(h.alloc (row.map B8)).get bl=some (Lx β n i):=Heap.Ag hb
 have fr:∀ k zs,h.get k=some zs→k≠bl→((h.alloc (row.map B8)).put bl ((Lx β n i).set i (.sl h.next 0 row.length row.length 1))).get k=some zs:=fun k zs hk hkb=>by
  rw [Heap.Aq hA hkb];exact Heap.Ag hk
 have hbn:=Heap.Ah hb
 have hbr:=Heap.Ah ht.top
 refine ⟨fun j=>if j=i then h.next else β j,?_,ht.frame ?_ fun k hk=> ?_,fun j hj=> ?_,fun j k hj hk e=> ?_⟩
 ·rw [Heap.Ak hA,hrl,A60]
 ·rw [fr br _ ht.top (Ne.symm hne),ht.top]
 ·rw [fr _ _ (ht.row k hk).2 (hδ k hk),(ht.row k hk).2]
 ·by_cases hji:j=i
  ·subst hji
   simp only [if_true]
   rw [hrow]
   refine ⟨?_,ω,ω,fun k hk=> ?_⟩
   ·rw [Heap.Aq hA ω];exact Heap.A9 _ _
   ·have:=Heap.Ah (ht.row k hk).2;omega
  ·simp only [if_neg hji]
   obtain ⟨q1,q2,q3,q4⟩:=hβ j ω
   exact ⟨fr _ _ q1 q2,q2,q3,q4⟩
 ·simp only at e
  by_cases hji:j=i<;>by_cases hki:k=i
  ·rw [hji,hki]
  ·rw [if_pos hji,if_neg hki] at e
   have:=Heap.Ah (hβ k ω).1;omega
  ·rw [if_neg hji,if_pos hki] at e
   have:=Heap.Ah (hβ j ω).1;omega
  ·rw [if_neg hji,if_neg hki] at e
   exact hinj j k ω ω e
theorem Yw.done {a:Tab} {n bl br:Nat} {δ : Nat→Nat} {h:Heap} (hlen:a.length=n) (hrl:∀ i,i < n→(rowN a i).length=n) (hne:bl≠br) (hδ : ∀ i,i < n→δ i≠bl) (hh:Yw a n bl br δ n h):∃ β,St h bl β a br δ (Bs n) n:=by
 obtain ⟨β,hb,ht,hβ,hinj⟩:=hh
 refine ⟨β,⟨⟨hlen,?_,fun i hi=>⟨hrl i hi,(hβ i hi).1⟩,hinj,fun i hi=>(hβ i hi).2.1⟩,ht,hne,fun i j hi hj=>(hβ i hi).2.2.2 j hj,hδ,fun i hi=>(hβ i hi).2.2.1⟩⟩
 rw [hb]
 congr 1
 apply List.map_congr_left
 intro j hj
 rw [if_pos (by simpa using hj)]
def LInv (a:Tab) (n bl br:Nat) (δ : Nat→Nat) (i:Nat) (r:Regs) (h:Heap):Prop :=
 i≤n∧rg r 4 = .int .i64 n∧rg r 5 = .sl bl 0 n n 1∧rg r 6 = .sl br 0 n n 1∧rg r 33=SL a∧rg r 34 = .int .i64 n∧rg r 35 = .int .i64 i ∧
 Yw a n bl br δ i h
def CInv (a:Tab) (n bl br:Nat) (c:Nat) (r:Regs) (h:Heap):Prop :=
 c≤n∧rg r 4 = .int .i64 n∧rg r 5 = .sl bl 0 n n 1∧rg r 6 = .sl br 0 n n 1∧rg r 46 = .int .i64 n∧rg r 47 = .int .i64 c∧∃ s β δ,gj n a c=some s∧St h bl β s.1 br δ s.2 n
@[simp] theorem Agu {P:Program} {t:TypeId} {x:UInt8} : binX P .eql t (B8 x) (.int .u8 0)=some (.bool (decide (x=0))):=by
 have:((x.toNat:Int)=0)=(x=0):=by
  apply propext
  constructor
  ·intro h;exact UInt8.toNat_inj.1 (by simpa using h)
  ·rintro rfl;rfl
 simp [B8]
 exact ⟨fun h=>UInt8.toNat_inj.1 (by simpa using h),fun h=>by subst h;rfl⟩
theorem Tbl.ent {h:Heap} {b n:Nat} {β:Nat→Nat} {M:Tab} (t:Tbl h b β M n) {i j:Nat} (hi:i < n) (hj:j < n):(rowN M i)[j]? = some (ent M i j):=by
 have:=(t.row i hi).1
 rw [F.ent,List.getElem?_eq_getElem ω]
 rfl
def RInv (n bl br c:Nat) (s:Tab×Tab) (i:Nat) (r:Regs) (h:Heap):Prop :=
 c≤i∧i≤n∧rg r 4 = .int .i64 n∧rg r 5 = .sl bl 0 n n 1∧rg r 6 = .sl br 0 n n 1∧rg r 9 = .int .i64 c∧rg r 10 = .int .i64 i∧rg r 46 = .int .i64 n∧rg r 47 = .int .i64 c ∧
 Lg s.1 c (n - c) c=Lg s.1 c (n - i) i∧∃ β δ,St h bl β s.1 br δ s.2 n
def Q4 (n bl br c i:Nat) (L R:Tab) (r:Regs) (h:Heap):Prop :=
 rg r 4 = .int .i64 n∧rg r 5 = .sl bl 0 n n 1∧rg r 6 = .sl br 0 n n 1∧rg r 9 = .int .i64 c∧rg r 10 = .int .i64 i∧rg r 46 = .int .i64 n∧rg r 47 = .int .i64 c∧∃ β δ,St h bl β L br δ R n
def KInv (n bl br c:Nat) (s:Tab×Tab) (k:Nat) (r:Regs) (h:Heap):Prop :=
 k≤n∧rg r 4 = .int .i64 n∧rg r 5 = .sl bl 0 n n 1∧rg r 6 = .sl br 0 n n 1∧rg r 9 = .int .i64 c∧rg r 46 = .int .i64 n∧rg r 47 = .int .i64 c∧rg r 115 = .int .i64 n∧rg r 116 = .int .i64 k ∧
 ∃ β δ,St h bl β (Ge c k s).1 br δ (Ge c k s).2 n
theorem Agv {n:Nat} {a:Tab} {c m:Nat} (hcm:c≤m) (hn:gj n a c=none):gj n a m=none:=by
 induction m with
 | zero =>
  obtain rfl:c=0:=by omega
  exact hn
 | succ m ih =>
  rcases Nat.lt_or_eq_of_le hcm with h|h
  ·simp [gj,ih ω]
  ·subst h;exact hn
theorem A0z (a:Tab):Jj Tryz.prog 146 [SL a] (invR a).1 (invR a).2:=by
 refine CSem.body hm Tryz.func146 rfl κ κ (by simp [Tryz.ntmps146]) ?_
 simp [Tryz.f146]
 refine (A2m a _).use ?_
 by_cases h1:MayP a
 rotate_left
 ·have:¬SqP a:=fun h=>h1 h.1
  simp [h1,invR,this,FrQ.nil]
 have hp:0 < a.length:=h1.1
 have h0:a[0]? = some a[0]:=List.getElem?_eq_getElem hp
 have hr0:row0 a=a[0]:=by simp [row0,h0]
 by_cases h2:a.length=a[0].length
 rotate_left
 ·have:¬SqP a:=fun h=>h2 (by rw [←hr0];exact h.2)
  simp [h1,hp,h2,invR,this,FrQ.nil]
 have hS:SqP a:=⟨h1,by rw [hr0];exact h2⟩
 have hn:=h1.2.1
 simp [h1,hp,←h2]
 have hb24:24 * (a.length:Int)≤140737488355328:=by omega
 have hb1:(a.length:Int)≤140737488355328:=by omega
 refine R7 (Made a a.length) ?_ ?_
 ·refine Nx ?_
  refine Be [0,2] κ μ ?_
  simp [hb24,hb1]
  refine ⟨?_,?_⟩
  ·refine Be [1,2] κ μ ?_
   simp [hb24,hb1]
   refine ⟨?_,?_⟩
   ·refine Be [2] κ μ ?_
    simp [hb24,hb1]
    refine Be [3] κ μ ?_
    simp [hb24,hb1]
    refine (Jm a.length _ ω).then ?_
    rintro _ h1 ⟨rfl,RU,nx,old⟩
    simp [hb24,hb1]
    refine Be [4] κ μ ?_
    simp [hb24,hb1]
    refine Be [5] κ μ ?_
    simp [hb24,hb1]
    refine Gf κ ?_
    exact ⟨0,1,fun i=>1+1+i,μ,μ,μ,μ,by rw [old 0 μ];exact Heap.A9 Heap.empty _,Tbl.Nw RU,μ,fun i hi=>(by omega:1+1+i≠0)⟩
   ·refine Be [1,3] κ μ ?_
    simp [hb24,hb1]
    refine ⟨?_,?_⟩
    ·refine Be [3] κ μ ?_
     simp [hb24,hb1]
     refine (Jm a.length _ ω).then ?_
     rintro _ h1 ⟨rfl,RU,nx,old⟩
     simp [hb24,hb1]
     refine Be [4] κ μ ?_
     simp [hb24,hb1]
     refine Be [5] κ μ ?_
     simp [hb24,hb1]
     refine Gf κ ?_
     exact ⟨0,1,fun i=>1+1+i,μ,μ,μ,μ,by rw [old 0 μ];exact Heap.A9 Heap.empty _,Tbl.Nw RU,μ,fun i hi=>(by omega:1+1+i≠0)⟩
    ·refine (Jm a.length _ ω).then ?_
     rintro _ h1 ⟨rfl,RU,nx,old⟩
     simp [hb24,hb1]
     refine Be [1] κ μ ?_
     simp [hb24,hb1]
     refine Be [4] κ μ ?_
     simp [hb24,hb1]
     refine Be [5] κ μ ?_
     simp [hb24,hb1]
     refine Gf κ ?_
     exact ⟨h1.next,0,fun i=>0+1+i,μ,μ,μ,μ,Heap.A9 _ _,(Tbl.Nw RU).A0y nx,by rw [nx];simp,fun i hi=>by rw [nx];simp;omega⟩
  ·refine Be [0,3] κ μ ?_
   simp [hb24,hb1]
   refine ⟨?_,?_⟩
   ·refine Be [1,3] κ μ ?_
    simp [hb24,hb1]
    refine ⟨?_,?_⟩
    ·refine Be [3] κ μ ?_
     simp [hb24,hb1]
     refine (Jm a.length _ ω).then ?_
     rintro _ h1 ⟨rfl,RU,nx,old⟩
     simp [hb24,hb1]
     refine Be [4] κ μ ?_
     simp [hb24,hb1]
     refine Be [5] κ μ ?_
     simp [hb24,hb1]
     refine Gf κ ?_
     exact ⟨0,1,fun i=>1+1+i,μ,μ,μ,μ,by rw [old 0 μ];exact Heap.A9 Heap.empty _,Tbl.Nw RU,μ,fun i hi=>(by omega:1+1+i≠0)⟩
    ·refine (Jm a.length _ ω).then ?_
     rintro _ h1 ⟨rfl,RU,nx,old⟩
     simp [hb24,hb1]
     refine Be [1] κ μ ?_
     simp [hb24,hb1]
     refine Be [4] κ μ ?_
     simp [hb24,hb1]
     refine Be [5] κ μ ?_
     simp [hb24,hb1]
     refine Gf κ ?_
     exact ⟨h1.next,0,fun i=>0+1+i,μ,μ,μ,μ,Heap.A9 _ _,(Tbl.Nw RU).A0y nx,by rw [nx];simp,fun i hi=>by rw [nx];simp;omega⟩
   ·refine (Jm a.length _ ω).then ?_
    rintro _ h1 ⟨rfl,RU,nx,old⟩
    simp [hb24,hb1]
    refine Be [0] κ μ ?_
    simp [hb24,hb1]
    refine Be [1] κ μ ?_
    simp [hb24,hb1]
    refine Be [4] κ μ ?_
    simp [hb24,hb1]
    refine Be [5] κ μ ?_
    simp [hb24,hb1]
    refine Gf κ ?_
    exact ⟨h1.next,0,fun i=>0+1+i,μ,μ,μ,μ,Heap.A9 _ _,(Tbl.Nw RU).A0y nx,by rw [nx];simp,fun i hi=>by rw [nx];simp;omega⟩
 rintro r h ⟨bl,br, δ,g0,g4,g5,g6,hb,ht,hne,hδ⟩
 simp [g0,g4,g5,g6]
 refine Ar (LInv a a.length bl br δ) (a.length - ·) ?_ 0 ?_
 ·rintro i r h ⟨hi,g4,g5,g6,g33,g34,g35,hh⟩
  rcases Nat.lt_or_eq_of_le hi with hlt|heq
  ·have hx:a[i]? = some a[i]:=List.getElem?_eq_getElem hlt
   have hxl:a[i].length=a.length:=by rw [h1.2.2.2.2 _ (List.getElem_mem hlt),hr0,←h2]
   have hxn:a[i]≠[]:=by intro e;rw [e] at hxl;simp at hxl;omega
   obtain ⟨β,hb,_⟩:=id hh
   simp [g4,g5,g6,g33,g34,g35,hlt,A61 (P:=Tryz.prog) (t:=53) (xt:=9) κ hxn ω,Heap.Ag hb]
   refine ⟨by simp [Lx];omega,i+1,ω,ω,by simp [g4],by simp [g5],by simp [g6],by simp [g33],by simp [g34],by simp [wrap64 (n:=(i:Int)+1) ω ω],?_⟩
   exact hh.step hb (by simp [rowN,hx]) hxl hlt hne hδ
  ·subst heq
   obtain ⟨β,st⟩:=hh.done rfl (fun i hi=>by simp [rowN,hi];rw [h1.2.2.2.2 _ (List.getElem_mem hi),hr0,←h2]) hne hδ
   simp [g4,g5,g6,g33,g34,g35]
   refine Ar (CInv a a.length bl br) (a.length - ·) ?_ 0 ?_
   ·rintro c r h ⟨hc,g4,g5,g6,g46,g47,s, β, δ,hgj,st⟩
    rcases Nat.lt_or_eq_of_le hc with hlt|heq
    ·simp [g4,g5,g6,g46,g47,hlt]
     refine Ar (RInv a.length bl br c s) (a.length - ·) ?_ c ?_
     ·rintro i r h ⟨hci,hi,g4,g5,g6,g9,g10,g46,g47,hf, β, δ,st⟩
      rcases Nat.lt_or_eq_of_le hi with hit|heq
      ·have hent:=st.left.ent hit hlt
       have htop:=st.left.top
       have hrow:=(st.left.row i hit).2
       by_cases he:ent s.1 i c=0
       ·simp [g4,g5,g6,g9,g10,g46,g47,hit,hlt,htop,hrow,hent,he]
        refine ⟨i+1,ω,ω,ω,by simp [g4],by simp [g5],by simp [g6],by simp [g9],by simp [wrap64 (n:=(i:Int)+1) ω ω],by simp [g46],by simp [g47],?_, β, δ,st⟩
        rw [hf,show a.length - i=(a.length - (i+1))+1 by omega]
        simp [Lg,he]
       ·simp [g4,g5,g6,g9,g10,g46,g47,hit,hlt,htop,hrow,hent,he]
        have k1:=fun cs=>Heap.Ak (cs:=cs) htop
        have hfn:Lg s.1 c (a.length - c) c=some i:=by
         rw [hf,show a.length - i=(a.length - (i+1))+1 by omega]
         simp [Lg,he]
        refine R7 (Q4 a.length bl br c i (Dh s.1 i c) s.2) ?_ ?_
        ·refine R8 [0,1,2,3,4,5,6,7,8,9,10,11,12,13,14,15] κ ?_
         simp [g4,g5,g6,g9,g10,g46,g47,hit,hlt,htop,k1]
         exact ⟨by simp [g4],by simp [g5],by simp [g6],by simp [g9],by simp [g10],by simp [g46],by simp [g47],_, δ,st.swap hit hlt ((Chg.put htop).step)⟩
        rintro r h ⟨g4,g5,g6,g9,g10,g46,g47, β, δ,st⟩
        have htop:=st.right.top
        have k1:=fun cs=>Heap.Ak (cs:=cs) htop
        simp
        refine R7 (Q4 a.length bl br c i (Dh s.1 i c) (Dh s.2 i c)) ?_ ?_
        ·refine R8 [0,1,2,3,4,5,6,7,8,9,10,11,12,13,14,15] κ ?_
         simp [g4,g5,g6,g9,g10,g46,g47,hit,hlt,htop,k1]
         exact ⟨by simp [g4],by simp [g5],by simp [g6],by simp [g9],by simp [g10],by simp [g46],by simp [g47], β,_,st.swapR hit hlt ((Chg.put htop).step)⟩
        rintro r h ⟨g4,g5,g6,g9,g10,g46,g47, β, δ,st⟩
        have hent:=st.left.ent hlt hlt
        have htop:=st.left.top
        have hrow:=(st.left.row c hlt)
        simp [g4,g5,g6,g9,g10,g46,g47,hit,hlt,htop,hrow.2,hent]
        refine (A2k _ _).use ?_
        generalize hx:gi (ent (Dh s.1 i c) c c)=x
        simp [g4,g5,g6,g9,g10,g46,g47,hit,hlt,htop,hrow.2,hent]
        have hsc:=Va (rowN (Dh s.1 i c) c) x (β c) h (by rw [hrow.1];omega) hrow.2
        rw [hrow.1] at hsc
        refine hsc.then ?_
        rintro x1 h1 ch
        have st1:=st.setRow hlt (by simp [Cq,hrow.1]) ch
        have htop:=st1.right.top
        have hrow:=st1.right.row c hlt
        simp [g4,g5,g6,g9,g10,g46,g47,hit,hlt,htop,hrow.2]
        have hsc:=Va (rowN (Dh s.2 i c) c) x (δ c) h1 (by rw [hrow.1];omega) hrow.2
        rw [hrow.1] at hsc
        refine hsc.then ?_
        rintro x2 h2 ch
        have st2:=st1.A88 hlt (by simp [Cq,hrow.1]) ch
        simp [g4,g5,g6,g9,g10,g46,g47]
        have hpv:Jn c i s=((Dh s.1 i c).set c (Cq (rowN (Dh s.1 i c) c) x),(Dh s.2 i c).set c (Cq (rowN (Dh s.2 i c) c) x)):=by
         simp only [Jn,J1,hx]
        refine Ar (KInv a.length bl br c (Jn c i s)) (a.length - ·) ?_ 0 ?_
        ·rintro k r h ⟨hk,g4,g5,g6,g9,g46,g47,g115,g116, β, δ,st⟩
         rcases Nat.lt_or_eq_of_le hk with hkt|heq
         ·by_cases hkc:k=c
          ·subst hkc
           simp [g4,g5,g6,g9,g46,g47,g115,g116,hkt]
           refine ⟨k+1,ω,ω,by simp [g4],by simp [g5],by simp [g6],by simp [g9],by simp [g46],by simp [g47],by simp [g115],by simp [wrap64 (n:=(k:Int)+1) ω ω], β, δ,?_⟩
           simpa [Ge,A2q] using st
          ·have hent:=st.left.ent hkt hlt
           have htop:=st.left.top
           have hrow:=st.left.row k hkt
           have hrowc:=st.left.row c hlt
           generalize hy:ent (Ge c k (Jn c i s)).1 k c=y at hent
           have hne:β c≠β k:=fun e=>hkc (st.left.inj c k hlt hkt e).symm
           simp [g4,g5,g6,g9,g46,g47,g115,g116,hkt,hlt,hkc,htop,hrow.2,hent]
           refine R8 [0,1,2,3,4,5,6,7,8,9] κ ?_
           simp [g4,g5,g6,g9,g46,g47,g115,g116,hkt,hlt,hkc,htop,hrow.2,hent]
           have had:=A2p (rowN (Ge c k (Jn c i s)).1 k) (rowN (Ge c k (Jn c i s)).1 c) y (β k) (β c) h (by rw [hrow.1];omega) (by rw [hrow.1,hrowc.1]) hne hrow.2 hrowc.2
           rw [hrow.1] at had
           refine had.then ?_
           rintro x1 h1 ch
           have st1:=st.setRow hkt (by simp [addL,hrow.1,hrowc.1]) ch
           have htop:=st1.right.top
           have hrow:=st1.right.row k hkt
           have hrowc:=st1.right.row c hlt
           have hne:δ c≠δ k:=fun e=>hkc (st1.right.inj c k hlt hkt e).symm
           refine R8 [0,1,2,3,4,5,6,7,8,9] κ ?_
           simp [g4,g5,g6,g9,g46,g47,g115,g116,hkt,hlt,hkc,htop,hrow.2]
           have had:=A2p (rowN (Ge c k (Jn c i s)).2 k) (rowN (Ge c k (Jn c i s)).2 c) y (δ k) (δ c) h1 (by rw [hrow.1];omega) (by rw [hrow.1,hrowc.1]) hne hrow.2 hrowc.2
           rw [hrow.1] at had
           refine had.then ?_
           rintro x2 h2 ch
           have st2:=st1.A88 hkt (by simp [addL,hrow.1,hrowc.1]) ch
           simp [g4,g5,g6,g9,g46,g47,g115,g116]
           refine ⟨k+1,ω,ω,by simp [g4],by simp [g5],by simp [g6],by simp [g9],by simp [g46],by simp [g47],by simp [g115],by simp [wrap64 (n:=(k:Int)+1) ω ω], β, δ,?_⟩
           rw [show Ge c (k+1) (Jn c i s)=A2q c k (Ge c k (Jn c i s)) from rfl,A2q,if_neg hkc,hy]
           exact st2
         ·subst heq
          simp [g4,g5,g6,g9,g46,g47,g115,g116]
          refine ⟨c+1,ω,ω,by simp [g4],by simp [g5],by simp [g6],by simp [g46],by simp [wrap64 (n:=(c:Int)+1) ω ω],Ge c a.length (Jn c i s), β, δ,?_,st⟩
          simp [gj,hgj,Ny,hfn]
        ·refine ⟨Nat.zero_le _,by simp [g4],by simp [g5],by simp [g6],by simp [g9],by simp [g46],by simp [g47],by simp [g4],μ, β, δ,?_⟩
         simp only [Ge,hpv]
         exact st2
      ·subst heq
       have hn0:Lg s.1 c (a.length - c) c=none:=by rw [hf,Nat.sub_self];rfl
       have hgn:gj a.length a a.length=none:=Agv (c:=c+1) ω (by simp [gj,hgj,Ny,hn0])
       simp [g4,g5,g6,g9,g10,g46,g47]
       simp [invR,hS,hgn,FrQ.nil]
     ·exact ⟨Nat.le_refl _,ω,by simp [g4],by simp [g5],by simp [g6],μ,μ,by simp [g46],by simp [g47],rfl, β, δ,st⟩
    ·subst heq
     simp [g4,g5,g6,g46,g47]
     have hs:=st.right.rws.snap (al:=true)
     have hl2:List.length s.2=a.length:=st.right.len
     rw [hl2] at hs
     refine (Vb s.2 ω hs).then ?_
     rintro x' h' ⟨rfl,rfl⟩
     simp [invR,hS,hgj]
     exact .sl rfl (Heap.A9 _ _)
   ·exact ⟨Nat.zero_le _,by simp [g4],by simp [g5],by simp [g6],μ,μ,(a,Bs a.length), β, δ,rfl,st⟩
 ·refine ⟨Nat.zero_le _,by simp [g4],by simp [g5],by simp [g6],μ,μ,μ,id,?_,ht,fun j hj=>by omega,fun j k hj=>by omega⟩
  rw [hb]
  congr 1
  refine (List.eq_replicate_iff.2 ⟨by simp [Lx],fun x hx=> ?_⟩).symm
  simp [Lx] at hx
  exact hx.2.symm ▸ rfl
def GMay (k m:Int):Prop:=1≤k∧0≤m∧k≤255∧m≤255 - k
instance (k m:Int):Decidable (GMay k m):=by unfold GMay;exact inferInstance
theorem A9u (k m:Int):As Tryz.prog 78 [.int .i64 k,.int .i64 m] (.bool (decide (GMay k m))):=by
 refine As.Ba (k:=1) ?_
 refine CSem.body hm Tryz.func78 rfl κ κ (by simp [Tryz.ntmps78]) ?_
 by_cases h1:1≤k
 rotate_left
 ·have:¬GMay k m:=fun h=>h1 h.1
  simp [Tryz.f78,h1,this]
 by_cases h2:0≤m
 rotate_left
 ·have:¬GMay k m:=fun h=>h2 h.2.1
  simp [Tryz.f78,h1,h2,this]
 by_cases h3:k≤255
 rotate_left
 ·have:¬GMay k m:=fun h=>h3 h.2.2.1
  simp [Tryz.f78,h1,h2,h3,this]
 simp [Tryz.f78,h1,h2,h3,wrap64 (n:=255 - k) ω ω,GMay]
theorem Sy (k m:Int) (h:Heap):CSem Tryz.prog 78 [.int .i64 k,.int .i64 m] h fun x' h'=>x' = .bool (decide (GMay k m))∧h'=h:=(A9u k m).call (k:=1) μ
def cy (x j:Nat):UInt8:=UInt8.ofNat (x ^^^ j)
def Ev (k i:Nat):List UInt8:=(List.range k).map fun j=>gi (cy (k+i) j)
def genL (k m:Nat):Tab:=Bs k ++ (List.range m).map (Ev k)
def Old (h h':Heap):Prop:=h.next≤h'.next∧∀ b cs,h.get b=some cs→h'.get b=some cs
def PrInv (k i:Nat) (h0:Heap) (j:Nat) (r:Regs) (h:Heap):Prop :=
 j≤k∧rg r 0 = .int .i64 i∧rg r 1 = .ptr 0 0∧rg r 4 = .sl h0.next 0 k k 1∧rg r 9 = .int .i64 k∧rg r 10 = .int .i64 j∧Old h0 h∧h.get h0.next=some ((mid (Ev k i) (List.replicate k 0) j).map B8)
theorem Agw (k i:Nat) (hk:k+i < 256) (h:Heap) (h0:h.get 0=some [.int .i64 k]) :
  CSem Tryz.prog 160 [.int .i64 i,.ptr 0 0] h fun x' h'=>x'=S (Ev k i)∧Old h h':=by
 refine CSem.body hm Tryz.func160 rfl κ κ (by simp [Tryz.ntmps160]) ?_
 have hl:(Ev k i).length=(List.replicate k (0:UInt8)).length:=by simp [Ev]
 have hkb:(k:Int)≤140737488355328:=by omega
 simp [Tryz.f160,h0,hkb]
 refine Ar (PrInv k i h) (k - ·) ?_ 0 ?_
 ·rintro j r h1 ⟨hj,g0,g1,g4,g9,g10,ho,hg⟩
  have h01:=ho.2 _ _ h0
  rcases Nat.lt_or_eq_of_le hj with hlt|heq
  ·have hxl:(k+i) ^^^ j < 2 ^ 8:=Nat.xor_lt_two_pow ω ω
   have hz:(Ev k i)[j]? = some (gi (cy (k+i) j)):=by simp [Ev,hlt]
   have hxor:intX .xor .i64 ((k:Int)+i) j=some (.int .i64 (((k+i) ^^^ j:Nat):Int)):=by
    have:=Acn (a:=((k+i:Nat):Int)) (b:=(j:Int)) ω ω ω ω
    rw [Int.toNat_natCast,Int.toNat_natCast,Int.natCast_add] at this
    exact this
   have hb8:AV.int .u8 (((k+i) ^^^ j:Nat):Int)=B8 (cy (k+i) j):=by
    simp only [B8,cy,UInt8.toNat_ofNat']
    rw [Nat.mod_eq_of_lt hxl]
   have hml:(mid (Ev k i) (List.replicate k 0) j).length=k:=by rw [H8 hl (by simpa using hj)];simp
   simp [g0,g1,g4,g9,g10,hlt,h01,wrap64 (n:=(k:Int)+i) ω ω,hxor,Yu (n:=(((k+i) ^^^ j:Nat):Int)) ω ω,hb8]
   refine (A2k _ _).use ?_
   simp [g0,g1,g4,g9,g10,hlt,hg,hml]
   refine ⟨j+1,ω,ω,by simp [g0],by simp [g1],by simp [g4],by simp [g9],by simp [wrap64 (n:=(j:Int)+1) ω ω],⟨by simpa using ho.1,fun b cs hb=> ?_⟩,?_⟩
   ·rw [Heap.Aq hg (by have:=Heap.Ah hb;omega)];exact ho.2 b cs hb
   ·rw [Heap.Ak hg,←List.map_set,Gm hl (by simpa using hlt) hz]
  ·subst heq
   rw [show mid (Ev j i) (List.replicate j 0) j=Ev j i by have:=F7 hl;simpa using this] at hg
   have hpl:(Ev j i).length=j:=by simp [Ev]
   simp [g0,g1,g4,g9,g10,hg,hpl]
   exact ho
 ·refine ⟨Nat.zero_le _,μ,μ,μ,μ,μ,⟨μ,fun b cs hb=>Heap.Ag hb⟩,?_⟩
  rw [Heap.A9,Ve,J8]
def genR (k m:Int):Tab×Int:=if GMay k m then (genL k.toNat m.toNat,0) else ([],1)
def MkTInv (k m:Nat) (i:Nat) (r:Regs) (h:Heap):Prop :=
 i≤m∧rg r 8 = .fn 160 [] [.ptr 0 0]∧rg r 20 = .int .i64 m∧rg r 21 = .int .i64 i∧h.get 0=some [.int .i64 k]∧Own h (rg r 6) ((Bs k ++ (List.range i).map (Ev k)).map S)∧∀ off n c z,rg r 6≠.sl 0 off n c z
theorem A9v (k m:Int):Jj Tryz.prog 137 [.int .i64 k,.int .i64 m] (genR k m).1 (genR k m).2:=by
 refine CSem.body hm Tryz.func137 rfl κ κ (by simp [Tryz.ntmps137]) ?_
 simp [Tryz.f137,Heap.Aa]
 refine (Sy _ _ _).use ?_
 by_cases hM:GMay k m
 rotate_left
 ·simp [hM,genR,FrQ.nil]
 obtain ⟨k,rfl⟩:=Int.eq_ofNat_of_zero_le (show 0≤k by have:=hM.1;omega)
 obtain ⟨m,rfl⟩:=Int.eq_ofNat_of_zero_le hM.2.1
 have hb:k+m≤255:=by have:=hM.2.2.2;omega
 have hk1:1≤k:=by have:=hM.1;omega
 simp [hM,Heap.Aa]
 refine (A5z _ ⟨ω,ω⟩ _).then ?_
 rintro _ _ ⟨rfl,rfl⟩
 simp
 refine Ar (MkTInv k m) (m - ·) ?_ 0 ?_
 ·rintro i r h ⟨hi,g8,g20,g21,hg,ho,hne⟩
  rcases Nat.lt_or_eq_of_le hi with hlt|heq
  ·simp [g8,g20,g21,hlt]
   refine (Agw k i ω h hg).then ?_
   rintro _ h1 ⟨rfl,old⟩
   have ho1:Own h1 (rg r 6) ((Bs k ++ (List.range i).map (Ev k)).map S):=by
    rcases ho with h|⟨b,h,hg⟩
    ·exact .inl h
    ·exact .inr ⟨b,h,old.2 _ _ hg⟩
   obtain ⟨x',h',e,ho',hnx,hat,hk⟩:=H7 (P:=Tryz.prog) (t:=51) (xt:=51) κ ho1 (by simp [Bs];omega) (Jk (Ev k i))
   have hg1:=hk 0 _ (old.2 _ _ hg) hne
   simp [Bt (P:=Tryz.prog) (t:=51) (xt:=51) κ,e,g8,g20,g21]
   refine ⟨i+1,ω,ω,by simp [g8],by simp [g20],by simp [wrap64 (n:=(i:Int)+1) ω ω],hg1,?_,?_⟩
   ·rw [List.range_succ]
    simpa using ho'
   ·intro off n c z
    simp
    rintro rfl
    rcases ho' with ⟨q,_⟩|⟨b,q,hgb⟩
    ·cases q
    ·cases q
     rw [hg1] at hgb
     simp [Bs] at hgb
     have:=congrArg List.length hgb
     simp at this
     omega
  ·subst heq
   simp [g8,g20,g21,genR,hM,genL]
   exact FrQ.own (by simpa using ho)
 ·refine ⟨Nat.zero_le _,μ,μ,μ,?_,?_,?_⟩
  ·simp [Heap.Aa]
  ·simp
   exact .inr ⟨_,μ,Heap.A9 _ _⟩
  ·intro off n c z
   simp
theorem A2r (k m:Int) (h:Heap):CSem Tryz.prog 137 [.int .i64 k,.int .i64 m] h fun x' h'=>x'=rL (genR k m).1 (genR k m).2∧h'=h:=(A9v k m).pure.call (k:=1) μ
def okH (n:Int):Int→List Int→Bool
 | _,[]=>true
 | last,x :: l=>if x≤last∨n≤x then false else okH n x l
def decR (k m:Int) (have_:List Int):Tab×Int :=
 if ¬GMay k m then ([],1) else if okH (k+m) (-1) have_=false then ([],1) else if (have_.length:Int) < k then ([],3)
 else invR (J4 (genL k.toNat m.toNat) (have_.take k.toNat)).1
def DcInv (k m:Int) (l:List Int) (i:Nat) (r:Regs) (h:Heap):Prop :=
 i≤l.length∧rg r 0 = .int .i64 k∧rg r 1 = .int .i64 m∧rg r 2=IL l∧rg r 8=SL (genL k.toNat m.toNat)∧rg r 24=IL l∧rg r 25 = .int .i64 l.length∧rg r 26 = .int .i64 i ∧
 ∃ last,rg r 10 = .int .i64 last∧okH (k+m) (-1) l=okH (k+m) last (l.drop i)
theorem A9w (k m:Int) (l:List Int) (hl:l.length < 2 ^ 60):Jj Tryz.prog 116 [.int .i64 k,.int .i64 m,IL l] (decR k m l).1 (decR k m l).2:=by
 refine CSem.body hm Tryz.func116 rfl κ κ (by simp [Tryz.ntmps116]) ?_
 simp [Tryz.f116]
 refine (A2r _ _ _).use ?_
 by_cases hM:GMay k m
 rotate_left
 ·simp [hM,genR,rL,decR,FrQ.nil]
 simp [hM,genR,rL]
 have hkm:IntKind.i64.wrap (k+m)=k+m:=wrap64 (by have:=hM.1;have:=hM.2.1;omega) (by have:=hM.2.2;omega)
 refine Ar (DcInv k m l) (l.length - ·) ?_ 0 ?_
 ·rintro i r h ⟨hi,g0,g1,g2,g8,g24,g25,g26,last,g10,ho⟩
  rcases Nat.lt_or_eq_of_le hi with hlt|heq
  ·have hx:l[i]? = some l[i]:=List.getElem?_eq_getElem hlt
   rw [List.drop_eq_getElem_cons hlt] at ho
   by_cases h1:l[i]≤last
   ·have:okH (k+m) (-1) l=false:=by rw [ho];simp [okH,h1]
    simp [g0,g1,g2,g8,g24,g25,g26,g10,hlt,hx,I64,h1,decR,hM,this,FrQ.nil]
   ·by_cases h2:k+m≤l[i]
    ·have:okH (k+m) (-1) l=false:=by rw [ho];simp [okH,h2]
     simp [g0,g1,g2,g8,g24,g25,g26,g10,hlt,hx,I64,h1,hkm,h2,decR,hM,this,FrQ.nil]
    ·simp [g0,g1,g2,g8,g24,g25,g26,g10,hlt,hx,I64,h1,hkm,h2]
     refine ⟨i+1,ω,ω,by simp [g0],by simp [g1],by simp [g2],by simp [g8],by simp [g24],by simp [g25],by simp [wrap64 (n:=(i:Int)+1) ω ω],l[i],μ,?_⟩
     rw [ho]
     simp [okH,h1,h2]
  ·subst heq
   have hok:okH (k+m) (-1) l=true:=by rw [ho];simp [okH]
   by_cases h3:(l.length:Int) < k
   ·simp [g0,g1,g2,g8,g24,g25,g26,g10,h3,decR,hM,hok,FrQ.nil]
   ·have hk0:0≤k:=by have:=hM.1;omega
    have hkl:k≤l.length:=by omega
    simp [g0,g1,g2,g8,g24,g25,g26,g10,h3,hk0,hkl]
    refine (A9q _ _ _).use ?_
    simp [rL]
    refine ((A0z (J4 (genL k.toNat m.toNat) (l.take k.toNat)).1).call (k:=2) μ).then ?_
    rintro _ _ ⟨rfl,rfl⟩
    obtain ⟨x,hx,-,-,-,hq⟩:=Ad0 h (invR (J4 (genL k.toNat m.toNat) (l.take k.toNat)).1).1 (invR (J4 (genL k.toNat m.toNat) (l.take k.toNat)).1).2
    rw [hx]
    simp [decR,hM,hok,h3]
    exact hq
 ·exact ⟨Nat.zero_le _,μ,μ,μ,μ,μ,μ,μ,-1,μ,μ⟩
def Ad1 (a:Tab) (most long:Int):Prop:=(a.length:Int)≤most∧∀ x∈a,(x.length:Int)≤long
instance (a:Tab) (most long:Int):Decidable (Ad1 a most long):=by unfold Ad1;exact inferInstance
theorem Own.old {h h':Heap} {x:AV} {xs:List AV} (ho:Own h x xs) (hh:∀ b cs,h.get b=some cs→h'.get b=some cs):Own h' x xs:=by
 rcases ho with h|⟨b,h,hg⟩
 ·exact .inl h
 ·exact .inr ⟨b,h,hh _ _ hg⟩
theorem A62 {m:Nat} {rows:Tab} (hr:∀ x∈rows,x.length=m) {j:Nat} (hj:j < m):∀ t,t≤rows.length→(sumL m (rows.take t))[j]? = some (sm t fun k=>ent rows k j):=by
 intro t
 induction t with
 | zero=>intro _;simp [sumL,sm,hj]
 | succ t ih =>
  intro ht
  rw [Yv ω]
  have hl:rows[t].length=m:=hr _ (List.getElem_mem ω)
  simp only [xorL,List.getElem?_zipWith,ih ω]
  rw [List.getElem?_eq_getElem (by omega:j < rows[t].length)]
  simp only [Option.map_some,sm,ent,rowN]
  rw [List.getElem?_eq_getElem (by omega:t < rows.length)]
  simp only [Option.getD_some]
  rw [List.getElem?_eq_getElem (by omega:j < rows[t].length)]
  rfl
def Bz (c:List UInt8) (l:Tab):List UInt8:=(List.range (row0 l).length).map fun j=>sm l.length fun k=>gm (c[k]?.getD 0) (ent l k j)
theorem Y9 {c:List UInt8} {l:Tab} (h1:c.length=l.length) (h2:l≠[]) (h3:∀ x∈l,x.length=(row0 l).length):Fh c l=some (Bz c l):=by
 rw [Fh,if_pos ⟨h1,h2,h3⟩]
 congr 1
 have hrow:∀ x∈scaled c l,x.length=(row0 l).length:=by
  intro x hxm
  obtain ⟨j,hj,rfl⟩:=List.getElem_of_mem hxm
  have hjl:j < l.length:=by simp [scaled] at hj;omega
  have:=h3 l[j] (List.getElem_mem _)
  simpa [scaled,List.getElem_zipWith,Cq] using this
 have hsl:(scaled c l).length=l.length:=by simp [scaled,h1]
 apply List.ext_getElem?
 intro j
 by_cases hj:j < (row0 l).length
 ·have:=A62 hrow hj (scaled c l).length (Nat.le_refl _)
  rw [List.take_length] at this
  rw [show (l[0]?.getD []).length=(row0 l).length from rfl,this,hsl]
  simp only [Bz,List.getElem?_map,List.getElem?_range hj,Option.map_some]
  congr 1
  apply Bw
  intro k hk
  have hk1:l[k]? = some l[k]:=List.getElem?_eq_getElem hk
  have hk2:c[k]? = some c[k]:=List.getElem?_eq_getElem ω
  have hl:j < l[k].length:=by rw [h3 _ (List.getElem_mem hk)];exact hj
  simp [ent,rowN,scaled,List.getElem?_zipWith,hk1,hk2,Cq,List.getElem?_eq_getElem hl,Dg]
 ·rw [List.getElem?_eq_none (by rw [show (l[0]?.getD []).length=(row0 l).length from rfl,Kn hrow];omega),List.getElem?_eq_none (by simp [Bz];omega)]
@[simp] theorem Ak5 {P:Program} {t:TypeId} {x y:UInt8} : binX P .xor t (B8 x) (B8 y)=some (B8 (x ^^^ y)):=by
 have lx:=lt8 x
 have ly:=lt8 y
 have:=xor8 (a:=(x.toNat:Int)) (b:=(y.toNat:Int)) ω ω ω ω
 simp only [B8]
 rw [Vf ν ν,this]
 simp
theorem Fj {b:Tab} {c:List UInt8} : (Bz c b).length=(row0 b).length:=by simp [Bz]
theorem A63 (k m:Int):As Tryz.prog 51 [.int .i64 k,.int .i64 m] (.bool (decide (GMay k m))):=by
 refine As.Ba (k:=1) ?_
 refine CSem.body hm Tryz.func51 rfl κ κ (by simp [Tryz.ntmps51]) ?_
 by_cases h1:1≤k
 rotate_left
 ·have:¬GMay k m:=fun h=>h1 h.1
  simp [Tryz.f51,h1,this]
 by_cases h2:0≤m
 rotate_left
 ·have:¬GMay k m:=fun h=>h2 h.2.1
  simp [Tryz.f51,h1,h2,this]
 by_cases h3:k≤255
 rotate_left
 ·have:¬GMay k m:=fun h=>h3 h.2.2.1
  simp [Tryz.f51,h1,h2,h3,this]
 by_cases h4:m≤255
 rotate_left
 ·have:¬GMay k m:=fun h=>h4 (by have:=h.2.2.2;omega)
  simp [Tryz.f51,h1,h2,h3,h4,this]
 simp [Tryz.f51,h1,h2,h3,h4,wrap64 (n:=k+m) ω ω,GMay]
 omega
theorem A64 (k m:Int) (h:Heap):CSem Tryz.prog 51 [.int .i64 k,.int .i64 m] h fun x' h'=>x' = .bool (decide (GMay k m))∧h'=h:=(A63 k m).call (k:=1) μ
def Ly (k m:Int) (l:List Int):Int:=if ¬GMay k m then 1 else if okH (k+m) (-1) l=false then 1 else if (l.length:Int) < k then 3 else 0
theorem Hr (k m:Nat):(genL k m).length=k+m:=by simp [genL,Bs]
theorem A2s {k m i:Nat} (hi:i < k+m):(genL k m)[i]? = some (if i < k then Cu k i else Ev k (i - k)):=by
 unfold genL
 by_cases h:i < k
 ·rw [List.getElem?_append_left (by simpa [Bs] using h),if_pos h]
  simp [Bs,List.getElem?_range h]
 ·rw [List.getElem?_append_right (by simp [Bs];omega),if_neg h]
  simp only [Bs,List.length_map,List.length_range,List.getElem?_map]
  rw [List.getElem?_range ω]
  rfl
theorem R9 {k m i:Nat} (hi:i < k+m):(rowN (genL k m) i).length=k:=by
 rw [rowN,A2s hi]
 split<;>simp [Cu,Ev]
theorem A2t {k m i j:Nat} (hi:i < k+m) (hj:j < k):ent (genL k m) i j=if i < k then i1 i j else gi (cy i j):=by
 rw [ent,rowN,A2s hi]
 by_cases h:i < k
 ·simp only [if_pos h,Option.getD_some]
  have:=H9 (n:=k) h hj
  rw [ent,rowN] at this
  rw [←this]
  simp [Bs,List.getElem?_range h]
 ·simp only [if_neg h,Option.getD_some,Ev,List.getElem?_map,List.getElem?_range hj,Option.map_some]
  rw [show k+(i - k)=i by omega]
theorem Vg {k m:Nat} {x:List UInt8} (hx:x∈genL k m):x.length=k:=by
 obtain ⟨i,hi,rfl⟩:=List.getElem_of_mem hx
 rw [Hr] at hi
 have:=R9 (k:=k) (m:=m) hi
 rwa [rowN,List.getElem?_eq_getElem (by rw [Hr];exact hi)] at this
theorem cy_eq (x j:Nat):cy x j=UInt8.ofNat x ^^^ UInt8.ofNat j:=by
 unfold cy
 apply UInt8.toNat_inj.1
 rw [UInt8.toNat_xor,UInt8.toNat_ofNat',UInt8.toNat_ofNat',UInt8.toNat_ofNat']
 exact Nat.xor_mod_two_pow (n:=8)
theorem Vh {a b:Nat} (ha:a < 256) (hb:b < 256) (h:UInt8.ofNat a=UInt8.ofNat b):a=b:=by
 have:=congrArg UInt8.toNat h
 rw [UInt8.toNat_ofNat',UInt8.toNat_ofNat'] at this
 omega
theorem Vj {l:List Nat} (hn:l.Nodup) (h:∀ x∈l,x < 256):(l.map UInt8.ofNat).Nodup:=by
 rw [List.nodup_iff_pairwise_ne,List.pairwise_map]
 rw [List.nodup_iff_pairwise_ne] at hn
 refine hn.imp_of_mem ?_
 intro a b ha hb hab e
 exact hab (Vh (h a ha) (h b hb) e)
theorem A2u (f:Nat→UInt8) (n:Nat):sm n f=sl ((List.range n).map f):=by
 have:=sl_sm ((List.range n).map f) n μ
 rw [List.take_of_length_le μ] at this
 rw [←this]
 exact Bw fun k hk=>by simp [List.getElem?_range hk]
theorem Vk {α:Type} (p:α→Bool):∀ l:List α,(l.filter p).length+(l.filter fun x => !p x).length=l.length
 | []=>rfl
 | x :: l=>by
  have:=Vk p l
  by_cases h:p x=true
  ·rw [List.filter_cons_of_pos h,List.filter_cons_of_neg (by simp [h])];simp;omega
  ·rw [List.filter_cons_of_neg h,List.filter_cons_of_pos (by simp [h])];simp;omega
theorem Yx {α:Type} (p:α→Bool) (f:α→UInt8):∀ l:List α,(∀ x∈l,p x=false→f x=0)→sl ((l.filter p).map f)=sl (l.map f)
 | [],_=>rfl
 | x :: l,h=>by
  have ih:=Yx p f l (fun y hy=>h y (by simp [hy]))
  by_cases hp:p x=true
  ·rw [List.filter_cons_of_pos hp,List.map_cons,List.map_cons,sl,sl,ih]
  ·rw [List.filter_cons_of_neg hp,List.map_cons,sl,ih,h x μ (by simpa using hp),UInt8.zero_xor]
theorem Ad2 {k m:Nat} (hkm:k+m < 256) {hs:List Nat} (hl:hs.length=k) (hn:hs.Nodup) (hb:∀ h∈hs,h < k+m) {v:Nat→UInt8}
  (h0:∀ h∈hs,sm k (fun j=>gm (ent (genL k m) h j) (v j))=0):∀ j,j < k→v j=0:=by
 have hD:∀ h∈hs,h < k→v h=0:=by
  intro h hh hk
  have:=h0 h hh
  rw [Bw (g:=fun j=>gm (i1 h j) (v j)) (fun j hj=>by rw [A2t (hb h hh) hj,if_pos hk]),Yy hk] at this
  exact this
 let Dn:=hs.filter fun h=>decide (h < k)
 let Pn:=hs.filter fun h => !decide (h < k)
 let J:=(List.range k).filter fun j => !decide (j∈hs)
 have hlen:Dn.length+Pn.length=k:=by
  rw [←hl]
  exact Vk _ _
 have hJ:J.length+Dn.length≤k:=by
  have:=A9x k (J ++ Dn) (List.nodup_append.2 ⟨List.nodup_range.filter _,hn.filter _,fun a ha b hb e=>by
   subst e
   have h1:=(List.mem_filter.1 ha).2
   have h2:=(List.mem_filter.1 hb).1
   simp [h2] at h1⟩) (fun x hx=>by
    rcases List.mem_append.1 hx with h|h
    ·exact List.mem_range.1 (List.mem_filter.1 h).1
    ·simpa using (List.mem_filter.1 h).2)
  simpa using this
 have hc:=cauchy J.length (J.map fun j=>(UInt8.ofNat j,v j)) (Pn.map UInt8.ofNat) μ (by simp;omega)
  (Vj (hn.filter _) (fun x hx=>by have:=hb x (List.mem_filter.1 hx).1;omega))
  (by
   rw [List.map_map]
   exact Vj (l:=J) (List.nodup_range.filter _) (fun x hx=>by have:=List.mem_range.1 (List.mem_filter.1 hx).1;omega))
  (by
   intro x hx p hp
   obtain ⟨h,hh,rfl⟩:=List.mem_map.1 hx
   obtain ⟨j,hj,rfl⟩:=List.mem_map.1 hp
   have h1:=List.mem_range.1 (List.mem_filter.1 hj).1
   have h2:=(List.mem_filter.1 hh).2
   have h3:=hb h (List.mem_filter.1 hh).1
   intro e
   have:=Vh ω ω e
   subst this
   simp [h1] at h2)
  (by
   intro x hx
   obtain ⟨h,hh,rfl⟩:=List.mem_map.1 hx
   have h1:=(List.mem_filter.1 hh).1
   have h2:=(List.mem_filter.1 hh).2
   have h2':¬h < k:=by simpa using h2
   have:=h0 h h1
   rw [Bw (g:=fun j=>gm (v j) (gi (UInt8.ofNat h ^^^ UInt8.ofNat j))) (fun j hj=>by rw [A2t (hb h h1) hj,if_neg h2',cy_eq,Dg]),A2u] at this
   rw [←Yx (fun j => !decide (j∈hs))] at this
   ·simp only [cs,List.map_map]
    exact this
   ·intro j hj hp
    have hjm:j∈hs:=by simpa using hp
    rw [hD j hjm (List.mem_range.1 hj),Ra])
 intro j hj
 by_cases hm:j∈hs
 ·exact hD j hm hj
 ·exact hc _ (List.mem_map_of_mem (List.mem_filter.2 ⟨List.mem_range.2 hj,by simpa using hm⟩))
theorem Rb {n:Int} : ∀ {last:Int} {l:List Int},okH n last l=true→(∀ x∈l,last < x∧x < n)∧l.Pairwise (· < ·)
 | last,[],_=>⟨μ,.nil⟩
 | last,x :: l,h=>by
  unfold okH at h
  split at h
  ·cases h
  ·rename_i hx
   obtain ⟨h1,h2⟩:=Rb h
   refine ⟨fun y hy=> ?_,.cons (fun y hy=>(h1 y hy).1) h2⟩
   rcases List.mem_cons.1 hy with rfl|hy
   ·omega
   ·have:=h1 y hy;omega
theorem Ad3 {n:Int} : ∀ {last:Int} {l:List Int},(∀ x∈l,last < x∧x < n)→l.Pairwise (· < ·)→okH n last l=true
 | last,[],_,_=>rfl
 | last,x :: l,h,hp=>by
  have hx:=h x μ
  have hp':=List.pairwise_cons.1 hp
  rw [okH,if_neg ω]
  exact Ad3 (fun y hy=>⟨hp'.1 y hy,(h y (by simp [hy])).2⟩) hp'.2
def Dj (k m:Nat) (l:List Int):Tab:=(l.take k).map (atR (genL k m))
section
variable {k m:Int} {l:List Int}
theorem Ad4 (hM:GMay k m):MayP (genL k.toNat m.toNat):=by
 obtain ⟨h1,h2,h3,h4⟩:=hM
 have h0:(row0 (genL k.toNat m.toNat)).length=k.toNat:=R9 (k:=k.toNat) (m:=m.toNat) (i:=0) ω
 exact ⟨by rw [Hr];omega,by rw [Hr];omega,by rw [h0];omega,by rw [h0];omega,fun x hx=>by rw [h0];exact Vg hx⟩
theorem Yz (hM:GMay k m) (hl:k≤l.length) (hb:∀ x∈l,0≤x∧x < k+m):Sq k.toNat (Dj k.toNat m.toNat l):=by
 have h1:=hM.1
 have hlen:(Dj k.toNat m.toNat l).length=k.toNat:=by simp [Dj];omega
 refine ⟨hlen,fun i hi=> ?_⟩
 have hil:i < (l.take k.toNat).length:=by simpa [Dj] using (by rw [hlen];exact hi:i < (Dj k.toNat m.toNat l).length)
 have hm:(l.take k.toNat)[i]∈l:=List.mem_of_mem_take (List.getElem_mem hil)
 have:=hb _ hm
 have hr:=R9 (k:=k.toNat) (m:=m.toNat) (i:=((l.take k.toNat)[i]).toNat) (by have:=hM.2.1;omega)
 rw [rowN,Dj,List.getElem?_map,List.getElem?_eq_getElem hil]
 exact hr
theorem A65 {i j:Nat} (hi:i < (l.take k.toNat).length):ent (Dj k.toNat m.toNat l) i j=ent (genL k.toNat m.toNat) ((l.take k.toNat)[i]).toNat j:=by
 rw [ent,rowN,Dj,List.getElem?_map,List.getElem?_eq_getElem hi]
 rfl
theorem A9y (hM:GMay k m) (hk:k≤l.length) (ho:okH (k+m) (-1) l=true):∃ s,gj k.toNat (Dj k.toNat m.toNat l) k.toNat=some s:=by
 obtain ⟨h1,h2⟩:=Rb ho
 obtain ⟨m1,m2,m3,m4⟩:=hM
 have hM:GMay k m:=⟨m1,m2,m3,m4⟩
 have hb:∀ x∈l,0≤x∧x < k+m:=fun x hx=>by have:=h1 x hx;omega
 have hlk:(l.take k.toNat).length=k.toNat:=by simp;omega
 refine Vm (Yz hM hk hb) fun v hv=> ?_
 refine Ad2 (k:=k.toNat) (m:=m.toNat) ω (hs:=(l.take k.toNat).map Int.toNat) (by simpa using hlk) ?_ ?_ ?_
 ·rw [List.nodup_iff_pairwise_ne,List.pairwise_map]
  refine (h2.sublist (List.take_sublist _ _)).imp_of_mem ?_
  intro a b ha hb' hab
  have:=hb a (List.mem_of_mem_take ha)
  have:=hb b (List.mem_of_mem_take hb')
  omega
 ·intro h hh
  obtain ⟨x,hx,rfl⟩:=List.mem_map.1 hh
  have:=hb x (List.mem_of_mem_take hx)
  omega
 ·intro h hh
  obtain ⟨x,hx,rfl⟩:=List.mem_map.1 hh
  obtain ⟨i,hi,rfl⟩:=List.getElem_of_mem hx
  have:=hv i ω
  rw [←this]
  exact Bw fun j _=>by rw [A65 hi]
theorem A2v (hM:GMay k m) (hk:k≤l.length) (ho:okH (k+m) (-1) l=true):J4 (genL k.toNat m.toNat) (l.take k.toNat)=(Dj k.toNat m.toNat l,0):=by
 obtain ⟨h1,h2⟩:=Rb ho
 obtain ⟨m1,m2,m3,m4⟩:=hM
 have hM:GMay k m:=⟨m1,m2,m3,m4⟩
 rw [J4,if_pos]
 ·rfl
 ·refine ⟨Ad4 hM,by simp;omega,by simp;omega,fun r hr=> ?_⟩
  have:=h1 r (List.mem_of_mem_take hr)
  rw [Hr]
  omega
end
theorem sqP_of {n:Nat} {a:Tab} (h:Sq n a) (h1:1≤n) (h2:n≤255):SqP a:=by
 have h0:(row0 a).length=n:=h.row 0 h1
 refine ⟨⟨by rw [h.len];exact h1,by rw [h.len];exact h2,by rw [h0];exact h1,by rw [h0];exact h2,fun x hx=> ?_⟩,by rw [h.len,h0]⟩
 obtain ⟨i,hi,rfl⟩:=List.getElem_of_mem hx
 have:=h.row i (by rw [←h.len];exact hi)
 rw [rowN,List.getElem?_eq_getElem hi] at this
 rw [h0];exact this
theorem A9z {n:Nat} {a:Tab} (h:Sq n a) (h1:1≤n) (h2:n≤255) {s:Tab×Tab} (hs:gj n a n=some s):invR a=(s.2,0):=by
 rw [invR,if_pos (sqP_of h h1 h2),h.len,hs]
theorem A10 {k m:Int} {l:List Int} (hc:Ly k m l=0):∃ s,GMay k m∧okH (k+m) (-1) l=true∧k≤l.length∧gj k.toNat (Dj k.toNat m.toNat l) k.toNat=some s∧Sq k.toNat (Dj k.toNat m.toNat l)∧Sq k.toNat s.2∧decR k m l=(s.2,0):=by
 unfold Ly at hc
 by_cases hM:GMay k m
 rotate_left
 ·rw [if_pos hM] at hc;cases hc
 rw [if_neg (fun h=>h hM)] at hc
 by_cases ho:okH (k+m) (-1) l=true
 rotate_left
 ·rw [if_pos (by simpa using ho)] at hc;cases hc
 rw [if_neg (by simp [ho])] at hc
 by_cases hk:(l.length:Int) < k
 ·rw [if_pos hk] at hc;cases hc
 obtain ⟨s,hs⟩:=A9y hM ω ho
 obtain ⟨h1,h2⟩:=Rb ho
 have hsq:=Yz hM (l:=l) ω (fun x hx=>by have:=h1 x hx;omega)
 refine ⟨s,hM,ho,ω,hs,hsq,gj_sq hsq hs,?_⟩
 rw [decR,if_neg (fun h=>h hM),if_neg (by simp [ho]),if_neg hk,A2v hM ω ho]
 exact A9z hsq (by have:=hM.1;omega) (by have:=hM.2.2.1;omega) hs
theorem Ad5 {k m:Int} {l:List Int} : (decR k m l).2=Ly k m l∧(Ly k m l≠0→(decR k m l).1=[]):=by
 by_cases hc:Ly k m l=0
 ·obtain ⟨s,_,_,_,_,_,_,h⟩:=A10 hc
  exact ⟨by rw [h,hc],fun h=>(h hc).elim⟩
 ·unfold Ly decR at *
  by_cases hM:GMay k m
  ·rw [if_neg (fun h=>h hM)] at hc
   by_cases ho:okH (k+m) (-1) l=true
   ·rw [if_neg (by simp [ho])] at hc
    by_cases hk:(l.length:Int) < k
    ·simp [hM,ho,hk]
    ·rw [if_neg hk] at hc;exact (hc rfl).elim
   ·simp [hM,ho]
  ·simp [hM]
end Go.Proofs.YtmbndhciflilbaaGreatDoor.X
