/-
  Texts of a proof, as one: XR, XMp, XR2, V49, V50, V51, V52, V53, V54, V55, V56, V57, V58.
-/
import Derived.Test.YtmbndhciflilbaaGreatDoorXB
import Derived.Test.YtmbndhciflilbaaGreatDoorVC
import Derived.Test.YtmbndhciflilbaaGreatDoorVD
namespace Go.Proofs.YtmbndhciflilbaaGreatDoor.X
open Go.RowKit
set_option linter.unusedSimpArgs false
set_option linter.unusedVariables false
def TR {α:Type} (g:α→List AV) (l:List α):AV:= .vec l.length (l.map g).flatten
section
variable {α:Type} {g:α→List AV} {z:Nat}
theorem flatR_len (hz:∀ x,(g x).length=z):∀ (l:List α),(l.map g).flatten.length=l.length * z
 | []=>by simp
 | x :: l=>by rw [List.map_cons,List.flatten_cons,List.length_append,hz,flatR_len hz l,List.length_cons,Nat.succ_mul];omega
theorem flatR_drop (hz:∀ x,(g x).length=z):∀ (l:List α) (i:Nat),(l.map g).flatten.drop (i * z)=((l.drop i).map g).flatten
 | l,0=>by simp
 | [],i+1=>by simp
 | x :: l,i+1=>by
  rw [List.map_cons,List.flatten_cons,List.drop_append,hz,Nat.succ_mul,List.drop_eq_nil_of_le (by rw [hz];omega),List.nil_append,show i * z+z - z=i * z by omega,flatR_drop hz l i]
  rfl
theorem flatR_at (hz:∀ x,(g x).length=z) {l:List α} {i:Nat} (hi:i < l.length):((l.map g).flatten.drop (i * z)).take z=g l[i]:=by
 rw [flatR_drop hz,List.drop_eq_getElem_cons hi,List.map_cons,List.flatten_cons,List.take_append_of_le_length (by rw [hz];omega),List.take_of_length_le (by rw [hz];omega)]
def CapR (g:α→List AV) (z:Nat) (ws:AV) (l:List α) (h:Heap) (F:Nat→Prop):Prop :=
 (ws = .nilSl∧l=[]∧∀ b,¬F b)∨∃ wb c cells,ws = .sl wb 0 l.length c z∧h.get wb=some cells∧cells.length=c * z∧l.length≤c∧cells.take (l.length * z)=(l.map g).flatten∧∀ b,F b↔b=wb
theorem CapR.keep {ws:AV} {l:List α} {h h':Heap} {F:Nat→Prop} (w:CapR g z ws l h F) (hk:∀ b,F b→h'.get b=h.get b):CapR g z ws l h' F:=by
 rcases w with w|⟨wb,c,cells,h1,h2,h3,h4,h5,h6⟩
 ·exact .inl w
 ·exact .inr ⟨wb,c,cells,h1,(hk wb ((h6 wb).2 rfl)).trans h2,h3,h4,h5,h6⟩
theorem CapR.live {ws:AV} {l:List α} {h:Heap} {F:Nat→Prop} (w:CapR g z ws l h F) {b:Nat} (hb:F b):b < h.next:=by
 rcases w with ⟨_,_,h3⟩|⟨wb,c,cells,h1,h2,h3,h4,h5,h6⟩
 ·exact (h3 b hb).elim
 ·rw [(h6 b).1 hb];exact Heap.get_lt h2
theorem CapR.atom {ws:AV} {l:List α} {h:Heap} {F:Nat→Prop} (w:CapR g z ws l h F):ws.atom=true:=by
 rcases w with ⟨rfl,_⟩|⟨wb,c,cells,rfl,_⟩<;>rfl
theorem CapR.len {P:Program} {t:TypeId} (ht:(elT P t).isSome=true) {ws:AV} {l:List α} {h:Heap} {F:Nat→Prop} (w:CapR g z ws l h F):lenX P t ws=some (.int .i64 (l.length:Int)):=by
 rcases w with ⟨rfl,rfl,_⟩|⟨wb,c,cells,rfl,_⟩
 ·simp [ht]
 ·simp [ht]
section
variable {P:Program} {t:TypeId} {h:Heap}
theorem lenX_TR (ht:(elT P t).isSome=true) (l:List α):lenX P t (TR g l)=some (.int .i64 l.length):=by
 obtain ⟨e,he,_⟩:=elT_some ht
 simp [lenX,elT_und he,TR,AV.len?]
theorem indexAddrX_TR {z:Nat} (hz:(elT P t).bind (szT P)=some z) {l:List α} {k:IntKind} {i:Int} (h0:0≤i) (h1:i < l.length):indexAddrX P t (TR g l) (.int k i)=some (.ipt ((l.map g).flatten.drop (i.toNat * z))):=by
 obtain ⟨e,he,hz⟩:=Option.bind_eq_some_iff.1 hz
 simp [indexAddrX,elT_und he,hz,TR,h0,h1]
theorem loadX_iptA {z:Nat} (ha:aggT P t=some true) (hz:szT P t=some z) {xs:List AV} : loadX P h t (.ipt xs)=(takeN xs 0 z).map .agg:=by
 simp only [loadX,ha,hz,at?]
theorem snapR {al:Bool} {k:Nat} {h:Heap} (hs:∀ x,∀ c∈g x,snap h al k c=some c):∀ (l:List α),mapL (snap h al k) (l.map g).flatten=some (l.map g).flatten:=by
 intro l
 have:∀ (cs:List AV),(∀ c∈cs,snap h al k c=some c)→mapL (snap h al k) cs=some cs:=by
  intro cs
  induction cs with
  | nil=>intro _;rfl
  | cons c cs ih =>
   intro hc
   rw [mapL_cons,hc c (by simp),ih (fun x hx=>hc x (by simp [hx]))]
   rfl
 refine this _ fun c hc=> ?_
 obtain ⟨cs,hcs,hc⟩:=List.mem_flatten.1 hc
 obtain ⟨x,_,rfl⟩:=List.mem_map.1 hcs
 exact hs x c hc
theorem snap_TR {k:Nat} {h:Heap} (hs:∀ x,∀ c∈g x,snap h true k c=some c) (hz:∀ x,(g x).length=z) (hzp:0 < z) (l:List α):snap h true (k+1) (TR g l)=some (TR g l):=by
 simp only [snap,TR]
 by_cases hl:l=[]
 ·subst hl;simp
 ·have:¬(l.length=0∧(l.map g).flatten=[]):=fun e=>hl (List.eq_nil_of_length_eq_zero e.1)
  simp [this,snapR hs l]
  intro e;exact (hl e).elim
theorem CapR.snap {al:Bool} {k:Nat} {ws:AV} {l:List α} {F:Nat→Prop} {h h':Heap} (w:CapR g z ws l h F) (hs:∀ x,∀ c∈g x,X.snap h' al k c=some c) (hz:∀ x,(g x).length=z) (hh:∀ b cs,F b→h.get b=some cs→h'.get b=some cs):X.snap h' al (k+1) ws=some (TR g l):=by
 rcases w with ⟨rfl,rfl,_⟩|⟨wb,c,cells,rfl,h2,h3,h4,h5,h6⟩
 ·rfl
 ·have hg:=hh wb cells ((h6 wb).2 rfl) h2
  have htk:takeN cells 0 (l.length * z)=some (l.map g).flatten:=by
   have:0+l.length * z≤cells.length:=by rw [h3,Nat.zero_add];exact Nat.mul_le_mul_right _ h4
   rw [takeN,if_pos this,List.drop_zero,h5]
  simp only [X.snap,TR]
  by_cases hl:l=[]
  ·subst hl;simp
  ·have h0:¬l.length=0:=fun e=>hl (List.eq_nil_of_length_eq_zero e)
   simp [h0,hg,htk,snapR hs l]
end
end
section
variable {P:Program} {dst:Option Tmp} {K:Regs→Heap→Prop} {r:Regs} {h:Heap}
end
section
variable {α:Type} {g:α→List AV} {z:Nat}
theorem takeR_at (hz:∀ x,(g x).length=z) {l:List α} {rest:List AV} {i:Nat} (hi:i < l.length):takeN (((l.map g).flatten ++ rest).drop (i * z)) 0 z=some (g l[i]):=by
 have h1:=flatR_at hz hi
 have h2:=flatR_len hz l
 have h3:(i+1) * z≤l.length * z:=Nat.mul_le_mul_right _ hi
 rw [Nat.add_mul,Nat.one_mul] at h3
 rw [takeN,if_pos,List.drop_zero]
 ·rw [List.drop_append_of_le_length (by omega),List.take_append_of_le_length (by rw [List.length_drop,h2];omega),h1]
 ·rw [List.length_drop,List.length_append,h2];omega
end
open F
set_option maxRecDepth 100000
@[simp] theorem wpI_max2 {P:Program} {x y:Operand} {ts:Array TypeId} {dst:Option Tmp} {K:Regs→Heap→Prop} {r:Regs} {h:Heap} : wpI P (.call ⟨.builtin .max, #[x,y],ts⟩) dst K r h=Has (evalX r x) fun x=>Has (evalX r y) fun y=>Has (max2X x y) fun v=>K (dputX r dst v) h:=by
 simp only [wpI,calleeX,opB,spO,ghO,or_false,Gives_eq,Has_eq,Gives0_map,Gives0_bind,evalsX]
 cases evalX r x with
 | none=>simp
 | some x=>cases evalX r y with
  | none=>simp
  | some y=>simp [Gives0_map]
def intC (i:IntD):List AV:=[.int .i64 i.sq,.int .i64 i.st,S i.tx]
abbrev NL (l:List IntD):AV:=TR intC l
theorem intC_len (i:IntD):(intC i).length=3:=rfl
theorem intC_snap {k:Nat} {h:Heap} (i:IntD):∀ c∈intC i,snap h true (k+1) c=some c:=by
 intro c hc
 simp [intC] at hc
 rcases hc with rfl|rfl|rfl<;>rfl
@[simp] theorem snap_NL {k:Nat} {h:Heap} (l:List IntD):snap h true (k+2) (NL l)=some (NL l):=snap_TR intC_snap intC_len (by decide) l
structure MxI (l:List IntD) (h0:Heap) (i:Nat) (r:Regs) (h:Heap):Prop where
 le:i≤l.length
 pos:0 < i
 r0:rg r 0=NL l
 r1:rg r 1 = .fn 72 [] []
 r4:rg r 4 = .ptr h0.next 0
 r5:rg r 5 = .ptr (h0.next+1) 0
 r6:rg r 6 = .int .i64 i
 E:Ext h0 h
 z:∃ z,h.get h0.next=some z∧z.length=3
 m:∃ m,h.get (h0.next+1)=some (intC m)∧m.sq=maxL ((l.take i).map (·.sq))
def ky (l:List IntD) (p:Nat):Int:=((l[p]?).map (·.st)).getD 0
def Srt (l:List IntD) (i:Nat):Prop:= ∀ p q,p < q→q < i→ky l p≤ky l q
structure IsJ (l:List IntD) (i j:Nat):Prop where
 a:∀ p q,p < q→q≤i→p≠j→q≠j→ky l p≤ky l q
 b:∀ q,j < q→q≤i→ky l j≤ky l q
def swp (l:List IntD) (j:Nat) (x y:IntD):List IntD:=(l.set j x).set (j - 1) y
theorem IsJ.start {l:List IntD} {i:Nat} (h:Srt l i):IsJ l i i:=⟨fun p q h1 h2 h3 h4=>h p q h1 (by omega),fun q h1 h2=>by omega⟩
theorem swp_ky {l:List IntD} {j:Nat} (h0:0 < j) (hj:j < l.length) (p:Nat):ky (swp l j l[j - 1] l[j]) p=if p=j then ky l (j - 1) else if p=j - 1 then ky l j else ky l p:=by
 have h1:j - 1 < l.length:=by omega
 unfold ky swp
 rw [List.getElem?_set]
 by_cases e1:p=j
 ·subst e1
  rw [if_neg (by omega),if_pos rfl,List.getElem?_set_self hj,List.getElem?_eq_getElem h1]
 ·rw [if_neg e1]
  by_cases e2:p=j - 1
  ·subst e2
   rw [if_pos rfl,if_pos rfl,if_pos (by simpa using h1),List.getElem?_eq_getElem hj]
  ·rw [if_neg (Ne.symm e2),if_neg e2,List.getElem?_set_ne (Ne.symm e1)]
theorem IsJ.swap {l:List IntD} {i j:Nat} (h:IsJ l i j) (h0:0 < j) (hji:j≤i) (hj:j < l.length) (hlt:ky l j < ky l (j - 1)):IsJ (swp l j l[j - 1] l[j]) i (j - 1):=by
 refine ⟨fun p q h1 h2 h3 h4=> ?_,fun q h1 h2=> ?_⟩
 ·rw [swp_ky h0 hj,swp_ky h0 hj,if_neg h3,if_neg h4]
  by_cases e1:p=j
  ·rw [if_pos e1,if_neg (by omega)]
   exact h.a (j - 1) q (by omega) h2 (by omega) (by omega)
  ·rw [if_neg e1]
   by_cases e2:q=j
   ·rw [if_pos e2];exact h.a p (j - 1) (by omega) (by omega) e1 (by omega)
   ·rw [if_neg e2];exact h.a p q h1 h2 e1 e2
 ·rw [swp_ky h0 hj,swp_ky h0 hj,if_neg (by omega),if_pos rfl]
  by_cases e:q=j
  ·rw [if_pos e];omega
  ·rw [if_neg e,if_neg (by omega)];exact h.b q (by omega) h2
theorem IsJ.done {l:List IntD} {i j:Nat} (h:IsJ l i j) (hji:j≤i) (hn:0 < j→¬ky l j < ky l (j - 1)):Srt l (i+1):=by
 intro p q h1 h2
 by_cases e1:q=j
 ·subst e1
  have:=hn (by omega)
  by_cases e2:p=q - 1
  ·subst e2;omega
  ·have:=h.a p (q - 1) (by omega) (by omega) (by omega) (by omega);omega
 ·by_cases e2:p=j
  ·subst e2;exact h.b q h1 (by omega)
  ·exact h.a p q h1 (by omega) e2 e1
structure IsO (l:List IntD) (rest:List AV) (wb c:Nat) (h0:Heap) (i:Nat) (r:Regs) (h:Heap):Prop where
 le:i≤l.length
 pos:0 < i
 r0:rg r 0 = .sl wb 0 l.length c 3
 r1:rg r 1 = .int .i64 0
 r2:rg r 2 = .int .i64 l.length
 r3:rg r 3 = .fn 100 [] []
 r8:rg r 8 = .int .i64 i
 cur:∃ cur:List IntD,cur.Perm l∧Srt cur i∧h.get wb=some ((cur.map intC).flatten ++ rest)
 oth:∀ b,b≠wb→h.get b=h0.get b
 nx:h.next=h0.next
 lp:h.lp=h0.lp
 gh:h.gh=h0.gh
structure IsI (l:List IntD) (rest:List AV) (wb c:Nat) (h0:Heap) (i:Nat) (m:Nat) (r:Regs) (h:Heap):Prop where
 r0:rg r 0 = .sl wb 0 l.length c 3
 r1:rg r 1 = .int .i64 0
 r2:rg r 2 = .int .i64 l.length
 r3:rg r 3 = .fn 100 [] []
 r8:rg r 8 = .int .i64 i
 cur:∃ (cur:List IntD) (j:Nat),m=i - j∧j≤i∧rg r 9 = .int .i64 j∧cur.Perm l∧IsJ cur i j∧h.get wb=some ((cur.map intC).flatten ++ rest)
 oth:∀ b,b≠wb→h.get b=h0.get b
 nx:h.next=h0.next
 lp:h.lp=h0.lp
 gh:h.gh=h0.gh
def mlU (ml:List IntD) (x:IntD):List IntD:=match ml.findIdx? (fun y=>decide (y.st=x.st)) with
 | some i=>if (ml[i]?.getD int0).sq < x.sq then ml.set i x else ml
 | none=>ml ++ [x]
def StN (l:List IntD):Prop:=(l.map (·.st)).Nodup
def StS (l:List IntD):Prop:=l.Pairwise fun a b=>a.st < b.st
theorem StS.nodup {l:List IntD} (h:StS l):StN l:=by
 unfold StN
 rw [List.Nodup,List.pairwise_map]
 exact h.imp fun h=>by omega
theorem StN.idx {l:List IntD} (h:StN l) {i j:Nat} (hi:i < l.length) (hj:j < l.length) (e:l[i].st=l[j].st):i=j:=by
 have hp:=List.pairwise_iff_getElem.1 h
 by_cases hij:i=j
 ·exact hij
 ·exfalso
  rcases Nat.lt_or_gt_of_ne hij with h1|h1
  ·exact hp i j (by simpa using hi) (by simpa using hj) h1 (by simpa using e)
  ·exact hp j i (by simpa using hj) (by simpa using hi) h1 (by simpa using e.symm)
theorem StN.inj {l:List IntD} (h:StN l) {x y:IntD} (hx:x∈l) (hy:y∈l) (e:x.st=y.st):x=y:=by
 obtain ⟨i,hi,rfl⟩:=List.mem_iff_getElem.1 hx
 obtain ⟨j,hj,rfl⟩:=List.mem_iff_getElem.1 hy
 have hp:=List.pairwise_iff_getElem.1 h
 by_cases hij:i=j
 ·subst hij;rfl
 ·exfalso
  rcases Nat.lt_or_gt_of_ne hij with h1|h1
  ·exact hp i j (by simpa using hi) (by simpa using hj) h1 (by simpa using e)
  ·exact hp j i (by simpa using hj) (by simpa using hi) h1 (by simpa using e.symm)
structure MlS (ml s:List IntD):Prop where
 nd:StN ml
 so:StS s
 me:∀ x,x∈ml↔x∈s
theorem newI_mem {x:IntD} : ∀ {s:List IntD},StS s→∀ y,y∈newI x s↔(y∈s∧y.st≠x.st)∨(y=x∧∀ z∈s,z.st=x.st→z.sq < x.sq)∨(y∈s∧y.st=x.st∧¬y.sq < x.sq)
 | [],_,y=>by simp [newI]
 | a :: s,h,y=>by
  obtain ⟨a1,a2⟩:=List.pairwise_cons.1 h
  have ih:=newI_mem (x:=x) a2 y
  unfold newI
  split
  ·rename_i h1
   have hall:∀ z∈a :: s,z.st≠x.st:=fun z hz=>by
    rcases List.mem_cons.1 hz with rfl|hz
    ·omega
    ·have:=a1 z hz;omega
   constructor
   ·intro hy
    rcases List.mem_cons.1 hy with rfl|hy
    ·exact .inr (.inl ⟨rfl,fun z hz e=>(hall z hz e).elim⟩)
    ·exact .inl ⟨hy,hall y hy⟩
   ·rintro (⟨h1,_⟩|⟨rfl,_⟩|⟨h1,_⟩)
    ·exact List.mem_cons_of_mem _ h1
    ·simp
    ·exact List.mem_cons_of_mem _ h1
  ·split
   ·rename_i h1 h2
    have hs:∀ z∈s,z.st≠x.st:=fun z hz=>by have:=a1 z hz;omega
    by_cases hq:a.sq < x.sq
    ·rw [if_pos hq]
     constructor
     ·intro hy
      rcases List.mem_cons.1 hy with rfl|hy
      ·refine .inr (.inl ⟨rfl,fun z hz e=> ?_⟩)
       rcases List.mem_cons.1 hz with rfl|hz
       ·exact hq
       ·exact (hs z hz e).elim
      ·exact .inl ⟨List.mem_cons_of_mem _ hy,hs y hy⟩
     ·rintro (⟨h3,h4⟩|⟨rfl,_⟩|⟨h3,h4,h5⟩)
      ·rcases List.mem_cons.1 h3 with rfl|h3
       ·exact (h4 h2.symm).elim
       ·exact List.mem_cons_of_mem _ h3
      ·simp
      ·rcases List.mem_cons.1 h3 with rfl|h3
       ·exact (h5 hq).elim
       ·exact (hs y h3 h4).elim
    ·rw [if_neg hq]
     constructor
     ·intro hy
      rcases List.mem_cons.1 hy with rfl|hy
      ·exact .inr (.inr ⟨by simp,h2.symm,hq⟩)
      ·exact .inl ⟨List.mem_cons_of_mem _ hy,hs y hy⟩
     ·rintro (⟨h3,h4⟩|⟨rfl,h3⟩|⟨h3,h4,h5⟩)
      ·exact h3
      ·exact (hq (h3 a (by simp) h2.symm)).elim
      ·exact h3
   ·rename_i h1 h2
    constructor
    ·intro hy
     rcases List.mem_cons.1 hy with rfl|hy
     ·exact .inl ⟨by simp,by omega⟩
     ·rcases ih.1 hy with ⟨h3,h4⟩|⟨rfl,h3⟩|⟨h3,h4,h5⟩
      ·exact .inl ⟨List.mem_cons_of_mem _ h3,h4⟩
      ·refine .inr (.inl ⟨rfl,fun z hz e=> ?_⟩)
       rcases List.mem_cons.1 hz with rfl|hz
       ·omega
       ·exact h3 z hz e
      ·exact .inr (.inr ⟨List.mem_cons_of_mem _ h3,h4,h5⟩)
    ·rintro (⟨h3,h4⟩|⟨rfl,h3⟩|⟨h3,h4,h5⟩)
     ·rcases List.mem_cons.1 h3 with rfl|h3
      ·simp
      ·exact List.mem_cons_of_mem _ (ih.2 (.inl ⟨h3,h4⟩))
     ·exact List.mem_cons_of_mem _ (ih.2 (.inr (.inl ⟨rfl,fun z hz=>h3 z (List.mem_cons_of_mem _ hz)⟩)))
     ·rcases List.mem_cons.1 h3 with rfl|h3
      ·simp
      ·exact List.mem_cons_of_mem _ (ih.2 (.inr (.inr ⟨h3,h4,h5⟩)))
theorem newI_sorted {x:IntD} : ∀ {s:List IntD},StS s→StS (newI x s)
 | [],_=>by simp [newI,StS]
 | a :: s,h=>by
  obtain ⟨a1,a2⟩:=List.pairwise_cons.1 h
  unfold newI
  split
  ·rename_i h1
   refine List.pairwise_cons.2 ⟨fun z hz=> ?_,h⟩
   rcases List.mem_cons.1 hz with rfl|hz
   ·exact h1
   ·have:=a1 z hz;omega
  ·split
   ·rename_i h1 h2
    split
    ·exact List.pairwise_cons.2 ⟨fun z hz=>by have:=a1 z hz;omega,a2⟩
    ·exact h
   ·rename_i h1 h2
    refine List.pairwise_cons.2 ⟨fun z hz=> ?_,newI_sorted a2⟩
    rcases (newI_mem a2 z).1 hz with ⟨h3,_⟩|⟨rfl,_⟩|⟨h3,_⟩
    ·exact a1 z h3
    ·omega
    ·exact a1 z h3
theorem mlU_mem {ml:List IntD} (h:StN ml) (x:IntD) (y:IntD):y∈mlU ml x↔(y∈ml∧y.st≠x.st)∨(y=x∧∀ z∈ml,z.st=x.st→z.sq < x.sq)∨(y∈ml∧y.st=x.st∧¬y.sq < x.sq):=by
 unfold mlU
 cases hf:ml.findIdx? (fun y=>decide (y.st=x.st)) with
 | none =>
  have hno:∀ z∈ml,z.st≠x.st:=fun z hz=>by
   have:=List.findIdx?_eq_none_iff.1 hf z hz
   simpa using this
  simp only [List.mem_append,List.mem_singleton]
  constructor
  ·rintro (h1|rfl)
   ·exact .inl ⟨h1,hno y h1⟩
   ·exact .inr (.inl ⟨rfl,fun z hz e=>(hno z hz e).elim⟩)
  ·rintro (⟨h1,_⟩|⟨rfl,_⟩|⟨h1,_⟩)
   ·exact .inl h1
   ·exact .inr rfl
   ·exact .inl h1
 | some i =>
  obtain ⟨hi,h1,_⟩:=List.findIdx?_eq_some_iff_getElem.1 hf
  have h1:ml[i].st=x.st:=by simpa using h1
  have hget:ml[i]?.getD int0=ml[i]:=by rw [List.getElem?_eq_getElem hi];rfl
  have huniq:∀ z∈ml,z.st=x.st→z=ml[i]:=fun z hz e=>h.inj hz (List.getElem_mem hi) (e.trans h1.symm)
  simp only [hget]
  by_cases hq:ml[i].sq < x.sq
  ·rw [if_pos hq]
   constructor
   ·intro hy
    obtain ⟨j,hj,hjy⟩:=List.mem_iff_getElem.1 hy
    have hj':j < ml.length:=by simpa using hj
    by_cases hji:i=j
    ·subst hji
     rw [List.getElem_set_self] at hjy
     subst hjy
     exact .inr (.inl ⟨rfl,fun z hz e=>by rw [huniq z hz e];exact hq⟩)
    ·rw [List.getElem_set_ne hji] at hjy
     subst hjy
     exact .inl ⟨List.getElem_mem hj',fun e=>hji (h.idx hi hj' (h1.trans e.symm))⟩
   ·rintro (⟨h3,h4⟩|⟨rfl,_⟩|⟨h3,h4,h5⟩)
    ·obtain ⟨j,hj,rfl⟩:=List.mem_iff_getElem.1 h3
     have hne:i≠j:=fun e=>by subst e;exact h4 h1
     exact List.mem_iff_getElem.2 ⟨j,by simpa using hj,by rw [List.getElem_set_ne hne]⟩
    ·exact List.mem_iff_getElem.2 ⟨i,by simpa using hi,by simp⟩
    ·rw [huniq y h3 h4] at h5;exact (h5 hq).elim
  ·rw [if_neg hq]
   constructor
   ·intro hy
    by_cases e:y.st=x.st
    ·exact .inr (.inr ⟨hy,e,by rw [huniq y hy e];exact hq⟩)
    ·exact .inl ⟨hy,e⟩
   ·rintro (⟨h3,h4⟩|⟨rfl,h3⟩|⟨h3,h4,h5⟩)
    ·exact h3
    ·exact (hq (h3 _ (List.getElem_mem hi) h1)).elim
    ·exact h3
theorem mlU_nodup {ml:List IntD} (h:StN ml) (x:IntD):StN (mlU ml x):=by
 unfold mlU
 cases hf:ml.findIdx? (fun y=>decide (y.st=x.st)) with
 | none =>
  have hno:∀ z∈ml,z.st≠x.st:=fun z hz=>by
   have:=List.findIdx?_eq_none_iff.1 hf z hz
   simpa using this
  show ((ml ++ [x]).map (·.st)).Nodup
  rw [List.map_append,List.nodup_append]
  refine ⟨h,by simp,fun a ha b hb=> ?_⟩
  obtain ⟨z,hz,rfl⟩:=List.mem_map.1 ha
  simp at hb
  subst hb
  exact hno z hz
 | some i =>
  obtain ⟨hi,h1,_⟩:=List.findIdx?_eq_some_iff_getElem.1 hf
  have h1:ml[i].st=x.st:=by simpa using h1
  simp only
  split
  ·have:(ml.set i x).map (·.st)=ml.map (·.st):=by
    rw [List.map_set]
    apply List.ext_getElem (by simp)
    intro j h2 h3
    rw [List.getElem_set]
    split
    ·rename_i e;subst e;simp [h1]
    ·rfl
   show ((ml.set i x).map (·.st)).Nodup
   rw [this];exact h
  ·exact h
theorem MlS.step {ml s:List IntD} (h:MlS ml s) (x:IntD):MlS (mlU ml x) (newI x s):=by
 refine ⟨mlU_nodup h.nd x,newI_sorted h.so,fun y=> ?_⟩
 rw [mlU_mem h.nd x y,newI_mem h.so y]
 have hm:=h.me
 simp only [hm]
def esO (off:Nat) (ml:List IntD):List (AV×AV×Nat):=(ml.zipIdx off).map fun p=>(AV.int .i64 p.1.st,AV.agg (intC p.1),p.2)
def mlA (ml:List IntD) (is:List Nat):List IntD:=is.map fun i=>ml[i]?.getD int0
structure AsJ (ml:List IntD) (L0:Option Lp) (mb b2 M:Nat) (is:List Nat) (h:Heap):Prop where
 lp:h.lp=L0
 k1:h.get mb=some [.gmp M]
 k2:h.gh M=some (.map (esO 0 ml) ml.length)
 ne:mb≠b2
 ex:∃ x G,h.get b2=some [x]∧CapR intC 3 x (mlA ml is) h G∧∀ b,G b→b≠mb∧b≠b2
 ln:is.length≤2 ^ 30
theorem AsJ.ext {ml:List IntD} {L0:Option Lp} {mb b2 M:Nat} {is:List Nat} {h h':Heap} (J:AsJ ml L0 mb b2 M is h) (hl:h'.lp=h.lp) (hg:h'.gh M=h.gh M) (he:∀ b,b < h.next→h'.get b=h.get b):AsJ ml L0 mb b2 M is h':=by
 obtain ⟨lp,k1,k2,ne,⟨x,G,e1,e2,e3⟩,ln⟩:=J
 exact ⟨hl.trans lp,(he mb (Heap.get_lt k1)).trans k1,hg.trans k2,ne,⟨x,G,(he b2 (Heap.get_lt e1)).trans e1,e2.keep fun b hb=>he b (e2.live hb),e3⟩,ln⟩
structure GtI (c:Cfg) (id d:Int) (secs:Tab) (k:Nat) (r:Regs) (h:Heap):Prop where
 le:k≤c.sl.toNat
 le2:k≤secs.length - 1
 r1:rg r 1 = .int .i64 id
 r2:rg r 2 = .int .i64 d
 r3:rg r 3=SL secs
 r4:rg r 4 = .ptr 0 0
 r19:rg r 19 = .int .i64 c.sl
 r20:rg r 20 = .int .i64 k
 g0:h.get 0=some [.int .i64 c.k,.int .i64 c.m,.int .i64 c.sh,.int .i64 c.st,.int .i64 c.sl]
 own:∃ G,CapR intC 3 (rg r 9) (gathL c id d secs k) h G∧¬G 0
theorem secsR_len (a:Arr) (d:Int) (n:Nat):(secsR a d n).length=n:=by simp [secsR]
structure InO (pv:Nat) (a:Arr) (id:Int) (c:Cfg) (jn:List Int) (h:Heap) (i:Nat) (r:Regs) (hp:Heap):Prop where
 le:i≤jn.length
 r0:rg r 0 = .ptr pv 0
 r15:rg r 15=IL jn
 r16:rg r 16 = .int .i64 jn.length
 r17:rg r 17 = .int .i64 i
 E:Ext h hp
 own:∃ G,CapR intC 3 (rg r 3) (intsL a id c (jn.take i)) hp G∧∀ b,G b→h.next≤b
structure InI (pv:Nat) (a:Arr) (id:Int) (c:Cfg) (jn:List Int) (h:Heap) (i:Nat) (d:Int) (n sb:Nat) (x3:AV) (G:Nat→Prop) (h1:Heap) (p:Nat) (r:Regs) (hp:Heap):Prop where
 le:p≤n
 r0:rg r 0 = .ptr pv 0
 r15:rg r 15=IL jn
 r16:rg r 16 = .int .i64 jn.length
 r17:rg r 17 = .int .i64 i
 r3:rg r 3=x3
 r5:rg r 5 = .int .i64 d
 r6:rg r 6 = .sl sb 0 n n 1
 r28:rg r 28 = .int .i64 n
 r29:rg r 29 = .int .i64 p
 g:hp.get sb=some ((mid (secsR a d n) (List.replicate n ([]:Txt)) p).map S)
 oth:∀ b,b≠sb→hp.get b=h1.get b
 nx:hp.next=h1.next
 lp:hp.lp=h1.lp
 gh:hp.gh=h1.gh
section
variable {pa q n:Nat} {cells:List AV} {ps:List Nat} {a:Arr} {R:Nat→Prop} {h:Heap} {pv:Nat} {c:Cfg} {id sq:Int} {k:Nat}
end
theorem StN.short {l:List IntD} (hn:StN l) {n:Nat} (h:∀ x∈l,0≤x.st∧x.st < n):l.length≤n:=by
 have hnd:(l.map fun x=>x.st.toNat).Nodup:=by
  rw [List.Nodup,List.pairwise_map]
  unfold StN at hn
  rw [List.Nodup,List.pairwise_map] at hn
  refine List.Pairwise.imp_of_mem ?_ hn
  intro a b ha hb hne e
  have h1:=h a ha
  have h2:=h b hb
  omega
 have hsub:(l.map fun x=>x.st.toNat) ⊆ List.range n:=by
  intro y hy
  obtain ⟨x,hx,rfl⟩:=List.mem_map.1 hy
  have:=h x hx
  exact List.mem_range.2 (by omega)
 have:=hnd.length_le_of_subset hsub
 simpa using this
theorem maxL_mem:∀ {l:List Int},l≠[]→maxL l∈l
 | [],h=>(h rfl).elim
 | [a],_=>by simp [maxL]
 | a :: b :: l,_=>by
  have ih:=maxL_mem (l:=b :: l) (by simp)
  show max a (maxL (b :: l))∈_
  by_cases h:a≤maxL (b :: l)
  ·rw [Int.max_eq_right h];exact List.mem_cons_of_mem _ ih
  ·rw [Int.max_eq_left (by omega)];exact List.mem_cons_self ..
@[simp] theorem redoL_len {id:Int} {c:Cfg} {all:List Int} : ∀ (l:List IntD) (a:Arr),(redoL id c all a l).1.disks.length=a.disks.length
 | [],a=>rfl
 | x :: l,a=>by
  rw [redoL]
  split
  ·exact redoL_len l a
  ·dsimp only
   split
   ·rw [redoL_len l];simp
   ·simp
structure OpenQ (pa q n:Nat) (cells:List AV) (ps:List Nat) (id:Int) (R:Nat→Prop) (h:Heap) (o:OpenD) (x:AV) (h':Heap):Prop where
 keep:Keep R h h'
 at_:At (ArrI pa q n cells ps o.ar) R h'
 none:o.vo=none→x = .tup [.nilPtr,.int .i64 o.er]
 some:∀ c s,o.vo=some (c,s)→∃ pv,x = .tup [.ptr pv 0,.int .i64 o.er]∧h.next≤pv∧h'.get pv=some (volC pa c id s)∧At (ArrI pa q n cells ps o.ar) (fun b=>R b∨b=pv) h'
structure OpS (pa q n:Nat) (cells:List AV) (ps:List Nat) (id:Int) (c:Cfg) (a:Arr) (all:List Int) (nw:List IntD) (s0:Int) (R:Nat→Prop) (h:Heap) (pv:Nat) (i:Nat) (r:Regs) (hp:Heap):Prop where
 le:i≤c.st.toNat
 r0:rg r 0 = .ptr pa 0
 r6:rg r 6 = .ptr pv 0
 r7:rg r 7=IL all
 r8:rg r 8=NL nw
 r46:rg r 46 = .int .i64 c.st
 r47:rg r 47 = .int .i64 i
 gv:hp.get pv=some (volC pa c id (seqR a id c i s0))
 A:At (ArrI pa q n cells ps a) (fun b=>R b∨b=pv) hp
 K:Keep R h hp
structure OpR (pa q n:Nat) (cells:List AV) (ps:List Nat) (id:Int) (c:Cfg) (a0:Arr) (all:List Int) (nw:List IntD) (s:Int) (k:Nat) (R:Nat→Prop) (h:Heap) (pv:Nat) (i:Nat) (r:Regs) (hp:Heap):Prop where
 le:i≤nw.length
 r0:rg r 0 = .ptr pa 0
 r6:rg r 6 = .ptr pv 0
 r7:rg r 7=IL all
 r64:rg r 64=NL nw
 r65:rg r 65 = .int .i64 nw.length
 r66:rg r 66 = .int .i64 i
 gv:hp.get pv=some (volC pa c id s)
 ex:∃ a,redoL id c all a0 nw=redoL id c all a (nw.drop i)∧At (ArrI pa q n cells ps a) (fun b=>R b∨b=pv) hp∧ArrQ (k+i * all.length) a∧a.disks.length=a0.disks.length
 K:Keep R h hp
section
variable {pa q n:Nat} {cells:List AV} {ps:List Nat} {a:Arr} {R:Nat→Prop} {h:Heap} {id:Int} {k:Nat}
end
theorem makeH_Q {id:Int} {c:Cfg} : ∀ (ds:List Int) {k:Nat} {a:Arr},ArrQ k a→ArrQ (k+ds.length) (makeH id c a ds).1
 | [],k,a,h=>h
 | d :: ds,k,a,h=>by
  rw [makeH]
  split
  ·exact (makeH_Q ds (vput_Q h _)).mono (by simp;omega)
  ·exact (vput_Q h _).mono (by simp)
@[simp] theorem makeH_len {id:Int} {c:Cfg} : ∀ (ds:List Int) (a:Arr),(makeH id c a ds).1.disks.length=a.disks.length
 | [],a=>rfl
 | d :: ds,a=>by
  rw [makeH]
  split
  ·rw [makeH_len ds];simp
  ·simp
structure MkH (pa q n:Nat) (cells:List AV) (ps:List Nat) (id:Int) (c:Cfg) (a0:Arr) (all:List Int) (k:Nat) (R:Nat→Prop) (h:Heap) (pv pc:Nat) (i:Nat) (r:Regs) (hp:Heap):Prop where
 le:i≤all.length
 r0:rg r 0 = .ptr pa 0
 r4:rg r 4 = .ptr pc 0
 r8:rg r 8 = .ptr pv 0
 r9:rg r 9=IL all
 r10:rg r 10=S (confW c)
 r63:rg r 63=IL all
 r64:rg r 64 = .int .i64 all.length
 r65:rg r 65 = .int .i64 i
 gv:hp.get pv=some (volC pa c id 0)
 gc:hp.get pc=some [.int .i64 c.k,.int .i64 c.m,.int .i64 c.sh,.int .i64 c.st,.int .i64 c.sl]
 ex:∃ a,makeH id c a0 all=makeH id c a (all.drop i)∧At (ArrI pa q n cells ps a) (fun b=>R b∨b=pv∨b=pc) hp∧ArrQ (k+i) a∧a.disks.length=a0.disks.length
 K:Keep R h hp
structure MkS (pa q n:Nat) (cells:List AV) (ps:List Nat) (id:Int) (c:Cfg) (a0:Arr) (all:List Int) (k:Nat) (R:Nat→Prop) (h:Heap) (pv pc:Nat) (i:Nat) (r:Regs) (hp:Heap):Prop where
 le:i≤c.st.toNat
 r0:rg r 0 = .ptr pa 0
 r8:rg r 8 = .ptr pv 0
 r9:rg r 9=IL all
 r78:rg r 78 = .int .i64 c.st
 r79:rg r 79 = .int .i64 i
 gv:hp.get pv=some (volC pa c id 0)
 ex:∃ a,makeS id c all a0 (List.range c.st.toNat)=makeS id c all a ((List.range c.st.toNat).drop i)∧At (ArrI pa q n cells ps a) (fun b=>R b∨b=pv∨b=pc) hp∧ArrQ (k+i * all.length) a∧a.disks.length=a0.disks.length
 K:Keep R h hp
theorem wpc_st {P:Program} (K:Regs→Heap→Prop) {id:Nat} {l:List Oper} {b:Code} {Q:Out→Regs→Heap→Prop} {r:Regs} {h:Heap} (hK:∀ r h,K r h→wpc P b Q r h) (hw:wpOs P l.toArray K l r h):wpc P (.seq (.region id l.toArray false) b) Q r h:=by
 rw [wpc_seq]
 refine wpc_mono (.region id l.toArray false) (fun o r h=>o = .norm∧K r h) _ ?_ r h ?_
 ·rintro o r h ⟨rfl,k⟩
  exact hK r h k
 ·rw [wpc_region]
  exact wpOs_mono (fun r h k=>⟨rfl,k⟩) _ r h hw
section
variable {pa q n:Nat} {cells:List AV} {ps:List Nat} {a:Arr} {R:Nat→Prop} {h:Heap} {id:Int} {k:Nat} {c:Cfg}
theorem vmake_sem (Q:ArrQ k a) (hk:k < 2 ^ 26) (A:At (ArrI pa q n cells ps a) R h) (hlp:h.lp=none) :
  CSem Tryz.prog 31 [.ptr pa 0,CfA c,.int .i64 id] h fun x h'=>OpenQ pa q n cells ps id R h (vmakeR a c id) x h':=by
 refine CSem.body hm Tryz.func31 rfl (by kernel_rfl) (by kernel_rfl) (by simp [Tryz.ntmps31]) ?_
 have hfew:=Q.b.few
 have hone:=Q.b.one
 have hRl:∀ b,R b→b < h.next:=fun b hb=>A.lt hb
 have haggC:aggT Tryz.prog 23=some true:=by kernel_rfl
 have hzC:szT Tryz.prog 23=some 5:=by kernel_rfl
 have hbv:buildX Tryz.prog 85 [(0,.ptr pa 0),(1,.agg [.int .i64 c.k,.int .i64 c.m,.int .i64 c.sh,.int .i64 c.st,.int .i64 c.sl]),(2,.int .i64 id)]=some (.agg (volC pa c id 0)):=by kernel_rfl
 have hcC:(CfA c).cells=[.int .i64 c.k,.int .i64 c.m,.int .i64 c.sh,.int .i64 c.st,.int .i64 c.sl]:=rfl
 refine wpc_st (fun r1 h1=>rg r1 0 = .ptr pa 0∧rg r1 2 = .int .i64 id∧rg r1 4 = .ptr h.next 0∧h1=h.alloc [.int .i64 c.k,.int .i64 c.m,.int .i64 c.sh,.int .i64 c.st,.int .i64 c.sl]) ?_ (by simp [hcC])
 rintro r1 _ ⟨r0,r2,r4,rfl⟩
 have gc0:(h.alloc [.int .i64 c.k,.int .i64 c.m,.int .i64 c.sh,.int .i64 c.st,.int .i64 c.sl]).get h.next=some [.int .i64 c.k,.int .i64 c.m,.int .i64 c.sh,.int .i64 c.st,.int .i64 c.sl]:=Heap.get_alloc_same _ _
 have E0:Ext h (h.alloc [.int .i64 c.k,.int .i64 c.m,.int .i64 c.sh,.int .i64 c.st,.int .i64 c.sl]):=(Ext.refl h).alloc _
 have A0:At (ArrI pa q n cells ps a) (fun b=>R b∨b=h.next) (h.alloc [.int .i64 c.k,.int .i64 c.m,.int .i64 c.sh,.int .i64 c.st,.int .i64 c.sl]):=A.alloc (ArrI.loc pa q n cells ps a) _
 generalize h.alloc [.int .i64 c.k,.int .i64 c.m,.int .i64 c.sh,.int .i64 c.st,.int .i64 c.sl]=H0 at gc0 E0 A0 ⊢
 have bad:∀ (H:Heap) (e:Int),Ext h H→At (ArrI pa q n cells ps a) R H→OpenQ pa q n cells ps id R h ⟨a,none,e⟩ (.tup [.nilPtr,.int .i64 e]) H:=fun H e E AH=>⟨E.keep hRl,AH,fun _=>rfl,fun c s h=>by cases h⟩
 rw [wpc_seq,wpc_seq]
 refine wpc_draw 22 (by kernel_rfl) ?_
 simp [r0,r2,r4,gc0,loadX_agg haggC,hzC,takeN]
 refine QCall.use (x:= .int .i64 (if ConfP c then 0 else 1)) (confCheck_call c H0) ?_
 by_cases hc:ConfP c
 rotate_left
 ·have ho:vmakeR a c id=⟨a,none,1⟩:=by simp [vmakeR,hc]
  simp [hc,ho]
  exact bad H0 1 E0 (A0.mono fun b hb=> .inl hb)
 simp [hc,r0]
 refine QCall.use (x:= .int .i64 a.disks.length) (adisks_sem A0) ?_
 simp [r4,gc0,loadX_agg haggC,hzC,takeN]
 refine QCall.use (x:= .int .i64 (confDisks c)) (confDisks_call c H0) ?_
 have hcd:confDisks c=c.k+c.m:=by simp [confDisks,hc]
 by_cases hd:(a.disks.length:Int)=confDisks c
 rotate_left
 ·have ho:vmakeR a c id=⟨a,none,1⟩:=by simp [vmakeR,hc,hd]
  simp [hd,ho]
  exact bad H0 1 E0 (A0.mono fun b hb=> .inl hb)
 by_cases hi0:id < 0
 ·have ho:vmakeR a c id=⟨a,none,1⟩:=by simp [vmakeR,hi0]
  simp [hd,r2,hi0,ho]
  exact bad H0 1 E0 (A0.mono fun b hb=> .inl hb)
 by_cases hi1:4294967295 < id
 ·have ho:vmakeR a c id=⟨a,none,1⟩:=by simp [vmakeR,hi1]
  simp [hd,r2,hi0,hi1,ho]
  exact bad H0 1 E0 (A0.mono fun b hb=> .inl hb)
 simp [hd,r0,r2,r4,hi0,hi1,gc0,loadX_agg haggC,hzC,takeN,hbv]
 refine ⟨fun x hx=>List.all_eq_true.1 (show (volC pa c id 0).all AV.atom=true from rfl) x hx,?_⟩
 have hcl:(AV.agg (volC pa c id 0)).cells=volC pa c id 0:=rfl
 rw [hcl]
 have gv1:(H0.alloc (volC pa c id 0)).get H0.next=some (volC pa c id 0):=Heap.get_alloc_same _ _
 have E1:Ext H0 (H0.alloc (volC pa c id 0)):=(Ext.refl H0).alloc _
 have A1:At (ArrI pa q n cells ps a) (fun b=>R b∨b=H0.next∨b=h.next) (H0.alloc (volC pa c id 0)):=(A0.alloc (ArrI.loc pa q n cells ps a) _).mono fun b hb=>by
  rcases hb with hb|hb|hb
  ·exact .inl (.inl hb)
  ·exact .inr hb
  ·exact .inl (.inr hb)
 have gc1:=E1.got gc0
 have E01:=E0.trans E1
 generalize H0.alloc (volC pa c id 0)=H1 at gv1 E1 A1 gc1 E01 ⊢
 refine (adisks_sem A1).use ?_
 simp
 refine (valive_tree gv1 A1 a.disks.length (by omega)).use ?_
 simp [r0]
 refine (adown_sem A1).use ?_
 by_cases hdn:a.down=true
 ·have ho:vmakeR a c id=⟨a,none,9⟩:=by simp [vmakeR,hc,hd,hi0,hi1,hdn]
  simp [hdn,ho]
  exact bad H1 9 E01 (A1.mono fun b hb=> .inl hb)
 simp [hdn,r0]
 refine (adisks_sem A1).use ?_
 have hall:=aliveL_len a a.disks.length
 have hmem:∀ d∈aliveL a a.disks.length,0≤d∧d < c.k+c.m:=fun d hd'=>by have:=aliveL_mem d hd';omega
 have ho:vmakeR a c id=if (aliveL a a.disks.length).length < a.disks.length then ⟨a,none,8⟩ else
   if (tryR (tryR (makeH id c a (aliveL a a.disks.length)) fun a'=>makeS id c (aliveL a a.disks.length) a' (List.range c.st.toNat)) flushR).2=0 then ⟨(tryR (tryR (makeH id c a (aliveL a a.disks.length)) fun a'=>makeS id c (aliveL a a.disks.length) a' (List.range c.st.toNat)) flushR).1,some (c,0),0⟩
   else ⟨(tryR (tryR (makeH id c a (aliveL a a.disks.length)) fun a'=>makeS id c (aliveL a a.disks.length) a' (List.range c.st.toNat)) flushR).1,none,(tryR (tryR (makeH id c a (aliveL a a.disks.length)) fun a'=>makeS id c (aliveL a a.disks.length) a' (List.range c.st.toNat)) flushR).2⟩:=by
  rw [vmakeR,if_neg (by intro h;rcases h with h|h|h|h;exact h hc;exact h hd;omega;omega),if_neg hdn]
 rw [ho]
 clear ho
 generalize aliveL a a.disks.length=all at hall hmem ⊢
 by_cases h8:all.length < a.disks.length
 ·simp [h8]
  exact bad H1 8 E01 (A1.mono fun b hb=> .inl hb)
 have hcnf:=confW_len c
 simp [h8,r4,gc1,loadX_agg haggC,hzC,takeN]
 refine (confWrite_call hc H1).use ?_
 simp
 have hst1:=hc.2.2.2.1
 have K1:Keep R h H1:=E01.keep hRl
 have hpvl:=Heap.get_lt gv1
 have hne1:H0.next≠h.next:=by have:=Heap.get_lt gc0;omega
 refine wpc_loop (MkH pa q n cells ps id c a all k R h H0.next h.next) (all.length - ·) ?_ 0 ?_
 rotate_left
 ·exact ⟨by omega,by simpa using r0,by simpa using r4,by simp,by simp,by simp,by simp,by simp,by simp,gv1,gc1,⟨a,rfl,A1,Q,rfl⟩,K1⟩
 clear r0 r2 r4
 rintro i r hp ⟨le,r0,r4,r8,r9,r10,r63,r64,r65,gv,gc,⟨a1,e1,A2,Q2,hl2⟩,Kp⟩
 rcases Nat.lt_or_eq_of_le le with hlt|heq
 ·have hlt':(i:Int) < all.length:=by omega
  have hw1:IntKind.i64.wrap ((i:Int)+1)=(i:Int)+1:=wrap64 (by omega) (by omega)
  have hdr:all.drop i=all[i] :: all.drop (i+1):=List.drop_eq_getElem_cons hlt
  have hdm:=hmem all[i] (List.getElem_mem hlt)
  simp [r8,r10,r63,r64,r65,hlt',hlt,List.getElem?_eq_getElem hlt,show I64 all[i]=AV.int .i64 all[i] from rfl]
  generalize all[i]=d at hdr hdm
  rw [hdr,makeH] at e1
  have hkm:=hc.1.2.2
  refine (vput_sem (b:=hdB id d c) gv A2 (.inr (.inl rfl)) Q2.b (by omega) ⟨by show id < 2 ^ 62;omega,by show d < 2 ^ 62;omega,by show (0:Int) < 2 ^ 62;decide,by show (0:Int) < 2 ^ 62;decide,hcnf⟩ rfl).then ?_
  rintro _ h5 ⟨rfl,A5,K5⟩
  have Kp5:Keep R h h5:=Kp.trans (K5.mono fun b hb=> .inl hb)
  by_cases hv0:vputE a1 (hdB id d c)=0
  ·rw [if_pos hv0] at e1
   simp [hv0,r65,hw1]
   exact ⟨i+1,by omega,by omega,by simpa using r0,by simpa using r4,by simpa using r8,by simpa using r9,by simpa using r10,by simpa using r63,by simpa using r64,by simp,K5.got (.inr (.inl rfl)) gv,K5.got (.inr (.inr rfl)) gc,⟨_,e1,A5,(vput_Q Q2 _).mono (by omega),by simpa using hl2⟩,Kp5⟩
  ·rw [if_neg hv0] at e1
   simp [hv0,e1,tryR]
   exact ⟨Kp5,A5.mono fun b hb=> .inl hb,fun _=>rfl,fun c s h=>by cases h⟩
 ·subst heq
  rw [List.drop_length,makeH] at e1
  rw [e1]
  clear e1
  simp [r4,r64,r65,fieldAddrX,gc]
  refine wpc_loop (MkS pa q n cells ps id c a1 all (k+all.length) R h H0.next h.next) (c.st.toNat - ·) ?_ 0 ?_
  rotate_left
  ·exact ⟨by omega,by simpa using r0,by simpa using r8,by simpa using r9,by simp,by simp,gv,⟨a1,rfl,A2,by simpa using Q2,rfl⟩,Kp⟩
  clear r0 r4 r8 r9 r10 r63 r64 r65 gv gc A2 Kp le
  rintro i r hp ⟨le,r0,r8,r9,r78,r79,gv,⟨a2,e2,A3,Q3,hl3⟩,Kp⟩
  have hkk:k+all.length+i * all.length < 2 ^ 27:=by
   have:i * all.length≤1000 * 255:=Nat.mul_le_mul (by omega) (by omega)
   omega
  rcases Nat.lt_or_eq_of_le le with hlt|heq
  ·have hlt':(i:Int) < c.st:=by omega
   have hw1:IntKind.i64.wrap ((i:Int)+1)=(i:Int)+1:=wrap64 (by omega) (by omega)
   have hdr:(List.range c.st.toNat).drop i=i :: (List.range c.st.toNat).drop (i+1):=by
    rw [List.drop_eq_getElem_cons (by simpa using hlt)];simp
   simp [r8,r9,r78,r79,hlt']
   rw [hdr,makeS] at e2
   refine (vshards_tree hc gv A3 (.inr (.inl rfl)) Q3.b i 0 [] (by omega) (by omega) (by decide) (by decide) hmem).then ?_
   rintro _ h5 ⟨rfl,A5,K5⟩
   have Kp5:Keep R h h5:=Kp.trans (K5.mono fun b hb=> .inl hb)
   have Q5:=vshR_Q Q3 id c i 0 [] all
   have hl5:=vshR_len a2 id c i 0 [] all
   generalize vshR a2 id c i 0 [] all=p5 at e2 A5 Q5 hl5 ⊢
   obtain ⟨a5,e5⟩:=p5
   simp only at e2 A5 Q5 hl5
   by_cases hv0:e5=0
   ·rw [if_pos hv0] at e2
    simp [hv0,r79,hw1]
    exact ⟨i+1,by omega,by omega,by simpa using r0,by simpa using r8,by simpa using r9,by simpa using r78,by simp,K5.got (.inr (.inl rfl)) gv,⟨_,e2,A5,Q5.mono (by rw [Nat.add_mul,Nat.one_mul];omega),hl5.trans hl3⟩,Kp5⟩
   ·rw [if_neg hv0] at e2
    simp [hv0,e2,tryR]
    exact ⟨Kp5,A5.mono fun b hb=> .inl hb,fun _=>rfl,fun c s h=>by cases h⟩
  ·subst heq
   have hcst:((c.st.toNat:Nat):Int)=c.st:=by omega
   rw [hcst] at r79
   have hdr:(List.range c.st.toNat).drop c.st.toNat=[]:=by simp
   rw [hdr,makeS] at e2
   simp [r0,r8,r78,r79,tryR,e2,flushR]
   refine (aflush_sem A3 Q3.b (by omega)).then ?_
   rintro _ H6 ⟨rfl,A6,K6⟩
   have gv6:=K6.got (.inr (.inl rfl)) gv
   have K06:Keep R h H6:=Kp.trans (K6.mono fun b hb=> .inl hb)
   by_cases hd1:a2.down=true
   ·simp [hd1,Arr.power]
    exact ⟨K06,A6.mono fun b hb=> .inl hb,fun _=>rfl,fun c s h=>by cases h⟩
   ·simp [hd1,Arr.power,r8]
    exact ⟨K06,A6.mono fun b hb=> .inl hb,fun h=>(by cases h),fun c' s' hs=>by cases hs;exact ⟨H0.next,rfl,E0.next,gv6,A6.mono fun b hb=>hb.imp (fun h=>h) .inl⟩⟩
end
end Go.Proofs.YtmbndhciflilbaaGreatDoor.X
