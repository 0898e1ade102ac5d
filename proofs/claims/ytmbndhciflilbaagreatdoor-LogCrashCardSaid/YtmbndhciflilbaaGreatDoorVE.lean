/-
  Texts of a proof, as one: XR, XMp, XR2, V49, V50, V51, V52, V53, V54, V55, V56, V57, V58.
-/
import Derived.Test.YtmbndhciflilbaaGreatDoorXB
import Derived.Test.YtmbndhciflilbaaGreatDoorVC
import Derived.Test.YtmbndhciflilbaaGreatDoorVD
namespace Go.Proofs.YtmbndhciflilbaaGreatDoor.X
open Go.RowKit
set_option linter.unusedSimpArgs false
set_option linter.unusedVariables false
def TR {α:Type} (g:α→List AV) (l:List α):AV:= .vec l.length (l.map g).flatten
section
variable {α:Type} {g:α→List AV} {z:Nat}
theorem Es (hz:∀ x,(g x).length=z):∀ (l:List α),(l.map g).flatten.length=l.length * z
 | []=>by simp
 | x :: l=>by rw [List.map_cons,List.flatten_cons,List.length_append,hz,Es hz l,List.length_cons,Nat.succ_mul];omega
theorem Qq (hz:∀ x,(g x).length=z):∀ (l:List α) (i:Nat),(l.map g).flatten.drop (i * z)=((l.drop i).map g).flatten
 | l,0=>by simp
 | [],i+1=>by simp
 | x :: l,i+1=>by
  rw [List.map_cons,List.flatten_cons,List.drop_append,hz,Nat.succ_mul,List.drop_eq_nil_of_le (by rw [hz];omega),List.nil_append,show i * z+z - z=i * z by omega,Qq hz l i]
  rfl
theorem A4k (hz:∀ x,(g x).length=z) {l:List α} {i:Nat} (hi:i < l.length):((l.map g).flatten.drop (i * z)).take z=g l[i]:=by
 rw [Qq hz,List.drop_eq_getElem_cons hi,List.map_cons,List.flatten_cons,List.take_append_of_le_length (by rw [hz];omega),List.take_of_length_le (by rw [hz];omega)]
theorem A7j (hz:∀ x,(g x).length=z) (l:List α) (i:Nat) (hi:i≤l.length):(l.map g).flatten.take (i * z)=((l.take i).map g).flatten:=by
 have h1:l=l.take i ++ l.drop i:=(List.take_append_drop i l).symm
 have h2:((l.take i).map g).flatten.length=i * z:=by rw [Es hz,List.length_take,Nat.min_eq_left hi]
 conv=>lhs;rw [h1]
 rw [List.map_append,List.flatten_append,←h2,List.take_left]
def CapR (g:α→List AV) (z:Nat) (ws:AV) (l:List α) (h:Heap) (F:Nat→Prop):Prop :=
 (ws = .nilSl∧l=[]∧∀ b,¬F b)∨∃ wb c cells,ws = .sl wb 0 l.length c z∧h.get wb=some cells∧cells.length=c * z∧l.length≤c∧cells.take (l.length * z)=(l.map g).flatten∧∀ b,F b↔b=wb
theorem CapR.keep {ws:AV} {l:List α} {h h':Heap} {F:Nat→Prop} (w:CapR g z ws l h F) (hk:∀ b,F b→h'.get b=h.get b):CapR g z ws l h' F:=by
 rcases w with w|⟨wb,c,cells,h1,h2,h3,h4,h5,h6⟩
 ·exact .inl w
 ·exact .inr ⟨wb,c,cells,h1,(hk wb ((h6 wb).2 rfl)).trans h2,h3,h4,h5,h6⟩
theorem CapR.live {ws:AV} {l:List α} {h:Heap} {F:Nat→Prop} (w:CapR g z ws l h F) {b:Nat} (hb:F b):b < h.next:=by
 rcases w with ⟨_,_,h3⟩|⟨wb,c,cells,h1,h2,h3,h4,h5,h6⟩
 ·exact (h3 b hb).elim
 ·rw [(h6 b).1 hb];exact Heap.Ah h2
theorem CapR.atom {ws:AV} {l:List α} {h:Heap} {F:Nat→Prop} (w:CapR g z ws l h F):ws.atom=true:=by
 rcases w with ⟨rfl,_⟩|⟨wb,c,cells,rfl,_⟩<;>rfl
theorem CapR.len {P:Program} {t:TypeId} (ht:(elT P t).isSome=true) {ws:AV} {l:List α} {h:Heap} {F:Nat→Prop} (w:CapR g z ws l h F):lenX P t ws=some (.int .i64 (l.length:Int)):=by
 rcases w with ⟨rfl,rfl,_⟩|⟨wb,c,cells,rfl,_⟩
 ·simp [ht]
 ·simp [ht]
def apTZ (P:Program) (t xt:TypeId) (z:Nat):Bool:=match elT P t with
 | some e=>(match szT P e with|some y=>y == z|none=>false) && appT P e xt z && (match byT P e with|some b=>decide (b≤64)|none=>false) && decide (0 < z)
 | none=>false
theorem Aj0 {P:Program} {t xt:TypeId} {z:Nat} (ha:apTZ P t xt z=true):∃ e bytes,elT P t=some e∧szT P e=some z∧appT P e xt z=true∧byT P e=some bytes∧bytes≤64∧0 < z:=by
 unfold apTZ at ha
 split at ha
 ·rename_i e he
  simp only [Bool.and_eq_true] at ha
  obtain ⟨⟨⟨h1,h2⟩,h3⟩,h4⟩:=ha
  split at h1
  ·split at h3
   ·rename_i y hy _ b hb
    exact ⟨e,b,he,by rw [hy];congr 1;simpa using h1,h2,hb,by simpa using h3,by simpa using h4⟩
   ·cases h3
  ·cases h1
 ·cases ha
theorem allR {l:List α} (hat:∀ x,(g x).all AV.atom=true):(l.map g).flatten.all AV.atom=true:=by
 rw [List.all_eq_true]
 intro y hy
 obtain ⟨c,hc,hy⟩:=List.mem_flatten.1 hy
 obtain ⟨x,_,rfl⟩:=List.mem_map.1 hc
 exact List.all_eq_true.1 (hat x) y hy
theorem Np {P:Program} {t xt:TypeId} (hz:∀ x,(g x).length=z) (hat:∀ x,(g x).all AV.atom=true) (ha:apTZ P t xt z=true) {ws x:AV} {l l2:List α} {h:Heap} {G:Nat→Prop} (hx:CapR g z ws l h G) (hn:l.length+l2.length < 2 ^ 40)
  (hlen:x.len? = some l2.length) (hf:Ca h z l2.length x=some (l2.map g).flatten) :
  ∃ x' h' G',Bm P h t xt ws x=some (x',h')∧CapR g z x' (l ++ l2) h' G'∧(∀ b,G' b→G b∨b=h.next)∧(∀ b,b < h.next→¬G b→h'.get b=h.get b)∧h.next≤h'.next∧h'.lp=h.lp∧h'.gh=h.gh:=by
 obtain ⟨e,bytes,he,hsz,hap,hb,hb2,hzp⟩:=Aj0 ha
 have hall:(l2.map g).flatten.all AV.atom=true:=allR hat
 have hfl:=Es hz l2
 have hfl1:=Es hz l
 have hbn:∀ n,n < 2 ^ 40→n * bytes≤2 ^ 47:=fun n hn=>by
  have:n * bytes≤(2 ^ 40) * 64:=Nat.mul_le_mul ω hb2
  omega
 rcases hx with ⟨rfl,rfl,h0⟩|⟨wb,c,cells,rfl,hg,hcl,hle,htk,hG⟩
 ·by_cases h2:l2.length=0
  ·have:l2=[]:=List.eq_nil_of_length_eq_zero h2
   subst this
   refine ⟨.nilSl,h,fun _=>False,?_,.inl ⟨rfl,rfl,fun _ h=>h⟩,fun b hb=>hb.elim,fun b _ _=>rfl,Nat.le_refl _,rfl,rfl⟩
   simp only [Bm,Bu he,hsz,hb,hlen,hap,if_true,hf]
   simp
  ·refine ⟨.sl h.next 0 l2.length l2.length z,h.alloc (l2.map g).flatten,fun b=>b=h.next,?_,.inr ⟨h.next,l2.length,_,μ,Heap.A9 _ _,hfl,μ,?_,μ⟩,fun b hb=> .inr hb,fun b hb _=> ?_,μ,rfl,rfl⟩
   ·have h47:=hbn l2.length (by simp at hn;omega)
    have h48:l2.length≤2 ^ 47:=by simp at hn;omega
    simp only [Bm,Bu he,hsz,hb,hlen,hap,if_true,hf]
    rw [if_pos ⟨hall,hfl⟩]
    simp [h2,h47,h48]
   ·rw [List.nil_append,List.take_of_length_le (by rw [hfl];exact Nat.le_refl _)]
   ·rw [Heap.Aa,if_neg ω]
 ·have hwl:=Heap.Ah hg
  by_cases hc:l.length+l2.length≤c
  ·have hcz:l.length * z+l2.length * z≤cells.length:=by rw [hcl,←Nat.add_mul];exact Nat.mul_le_mul_right _ hc
   have hput:putN cells (0+l.length * z) (l2.map g).flatten=some (cells.take (l.length * z) ++ (l2.map g).flatten ++ cells.drop (l.length * z+l2.length * z)):=by
    rw [putN,Nat.zero_add,hfl,if_pos hcz]
   refine ⟨.sl wb 0 (l.length+l2.length) c z,h.put wb (cells.take (l.length * z) ++ (l2.map g).flatten ++ cells.drop (l.length * z+l2.length * z)),fun b=>b=wb,?_,.inr ⟨wb,c,cells.take (l.length * z) ++ (l2.map g).flatten ++ cells.drop (l.length * z+l2.length * z),μ,by rw [Heap.Ad _ _ _ _ hwl,if_pos rfl],?_,by simpa using hc,?_,μ⟩,fun b hb=> .inl ((hG b).2 hb),fun b hb hnG=> ?_,μ,rfl,rfl⟩
   ·simp only [Bm,Bu he,hsz,hb,hlen,hap,if_true,hf]
    rw [if_pos ⟨hall,hfl⟩]
    simp only [if_true,hg,if_pos hc,hput,Option.map_some]
   ·simp only [List.length_append,List.length_take,List.length_drop,hfl];omega
   ·rw [htk,List.map_append,List.flatten_append,List.length_append,Nat.add_mul,←hfl1,←hfl,←List.length_append,List.take_left]
   ·have hne:b≠wb:=fun e=>hnG ((hG b).2 e)
    rw [Heap.Ad _ _ _ _ hwl,if_neg hne]
  ·refine ⟨.sl h.next 0 (l.length+l2.length) (l.length+l2.length) z,(h.kill wb).alloc ((l.map g).flatten ++ (l2.map g).flatten),fun b=>b=h.next,?_,.inr ⟨h.next,l.length+l2.length,_,μ,Heap.A9 (h.kill wb) _,?_,μ,?_,μ⟩,fun b hb=> .inr hb,fun b hb hnG=> ?_,μ,rfl,rfl⟩
   ·have h47:=hbn (l.length+l2.length) hn
    have h48:l.length+l2.length≤2 ^ 47:=by omega
    have htk2:takeN cells 0 (l.length * z)=some (l.map g).flatten:=by
     have:0+l.length * z≤cells.length:=by rw [hcl,Nat.zero_add];exact Nat.mul_le_mul_right _ hle
     rw [takeN,if_pos this,List.drop_zero,htk]
    simp only [Bm,Bu he,hsz,hb,hlen,hap,if_true,hf]
    rw [if_pos ⟨hall,hfl⟩]
    simp only [if_true,hg,if_neg hc,htk2]
    rw [if_pos ⟨h47,h48⟩]
   ·rw [List.length_append,hfl,hfl1,Nat.add_mul]
   ·rw [List.map_append,List.flatten_append,List.take_of_length_le]
    rw [List.length_append,hfl,hfl1,List.length_append,Nat.add_mul]
    exact Nat.le_refl _
   ·have hne:b≠wb:=fun e=>hnG ((hG b).2 e)
    rw [Heap.Aa,if_neg (by show b≠h.next;omega),Heap.Ek,if_neg hne]
section
variable {P:Program} {t:TypeId} {h:Heap}
theorem Ed (ht:(elT P t).isSome=true) (l:List α):lenX P t (TR g l)=some (.int .i64 l.length):=by
 obtain ⟨e,he,_⟩:=S8 ht
 simp [lenX,Bu he,TR,AV.len?]
theorem Et {z:Nat} (hz:(elT P t).bind (szT P)=some z) {l:List α} {k:IntKind} {i:Int} (h0:0≤i) (h1:i < l.length):Bx P t (TR g l) (.int k i)=some (.ipt ((l.map g).flatten.drop (i.toNat * z))):=by
 obtain ⟨e,he,hz⟩:=Option.bind_eq_some_iff.1 hz
 simp [Bx,Bu he,hz,TR,h0,h1]
theorem Hk {z:Nat} (ha:aggT P t=some true) (hz:szT P t=some z) {xs:List AV} : Fc P h t (.ipt xs)=(takeN xs 0 z).map .agg:=by
 simp only [Fc,ha,hz,at?]
theorem snapR {al:Bool} {k:Nat} {h:Heap} (hs:∀ x,∀ c∈g x,snap h al k c=some c):∀ (l:List α),mapL (snap h al k) (l.map g).flatten=some (l.map g).flatten:=by
 intro l
 have:∀ (cs:List AV),(∀ c∈cs,snap h al k c=some c)→mapL (snap h al k) cs=some cs:=by
  intro cs
  induction cs with
  | nil=>intro _;rfl
  | cons c cs ih =>
   intro hc
   rw [Abk,hc c μ,ih (fun x hx=>hc x (by simp [hx]))]
   rfl
 refine this _ fun c hc=> ?_
 obtain ⟨cs,hcs,hc⟩:=List.mem_flatten.1 hc
 obtain ⟨x,_,rfl⟩:=List.mem_map.1 hcs
 exact hs x c hc
theorem Aj1 {k:Nat} {h:Heap} (hs:∀ x,∀ c∈g x,snap h true k c=some c) (hz:∀ x,(g x).length=z) (hzp:0 < z) (l:List α):snap h true (k+1) (TR g l)=some (TR g l):=by
 simp only [snap,TR]
 by_cases hl:l=[]
 ·subst hl;simp
 ·have:¬(l.length=0∧(l.map g).flatten=[]):=fun e=>hl (List.eq_nil_of_length_eq_zero e.1)
  simp [this,snapR hs l]
  intro e;exact (hl e).elim
theorem CapR.snap {al:Bool} {k:Nat} {ws:AV} {l:List α} {F:Nat→Prop} {h h':Heap} (w:CapR g z ws l h F) (hs:∀ x,∀ c∈g x,X.snap h' al k c=some c) (hz:∀ x,(g x).length=z) (hh:∀ b cs,F b→h.get b=some cs→h'.get b=some cs):X.snap h' al (k+1) ws=some (TR g l):=by
 rcases w with ⟨rfl,rfl,_⟩|⟨wb,c,cells,rfl,h2,h3,h4,h5,h6⟩
 ·rfl
 ·have hg:=hh wb cells ((h6 wb).2 rfl) h2
  have htk:takeN cells 0 (l.length * z)=some (l.map g).flatten:=by
   have:0+l.length * z≤cells.length:=by rw [h3,Nat.zero_add];exact Nat.mul_le_mul_right _ h4
   rw [takeN,if_pos this,List.drop_zero,h5]
  simp only [X.snap,TR]
  by_cases hl:l=[]
  ·subst hl;simp
  ·have h0:¬l.length=0:=fun e=>hl (List.eq_nil_of_length_eq_zero e)
   simp [h0,hg,htk,snapR hs l]
end
end
section
variable {P:Program} {dst:Option Tmp} {K:Regs→Heap→Prop} {r:Regs} {h:Heap}
theorem A4m {t:TypeId} {x:Option Operand} : wpI P (.makeMap t x) dst K r h=(Xm r x=true∧(mapT P t).isSome=true∧∀ B,h.gh B=none→K (Av r dst (.gmp B)) (h.setG B (.map [] 0))):=by
 simp [wpI,Ay,opB,opX,spO,ghO]
theorem Yh {t:TypeId} {m k x:Operand} : wpI P (.mapUpdate t m k x) dst K r h = ∃ B key v es clock kd e q,Ae r m=some (.gmp B)∧Ae r k=some key∧Ae r x=some v∧h.gh B=some (.map es clock)∧mapT P t=some (kd,e) ∧
   Nq kd key es 0=some q∧K (Av r dst (.tup [])) (h.setG B (Nr es clock key v q)):=by
 simp [wpI,Ay,opB,opX,spO,ghO]
theorem Xn {t:TypeId} {m k:Operand} {ok:Bool} {B:Nat} {key:AV} {es:List (AV×AV×Nat)} {clock kd:Nat} {e:TypeId} {q:Option (Nat×AV)} (h1:Ae r m=some (.gmp B)) (h2:Ae r k=some key) (h3:h.gh B=some (.map es clock)) (h4:mapT P t=some (kd,e)) (h5:Nq kd key es 0=some q)
  (hs:∀ i v,q=some (i,v)→K (Av r dst (if ok then .tup [v,.bool true] else v)) h) (hn:q=none→∃ z,B7 P e=some z∧K (Av r dst (if ok then .tup [z,.bool false] else z)) h):wpI P (.lookup t m k ok) dst K r h:=by
 simp only [wpI,Ay,opB,spO]
 refine .inr ⟨B,key,es,clock,kd,e,q,h1,h2,h3,h4,h5,?_⟩
 cases q with
 | none=>exact hn rfl
 | some q=>exact hs _ _ rfl
theorem A7k {t:TypeId} {x:Operand} (hw:∃ M es clock,Ae r x=some (.gmp M)∧(mapT P t).isSome=true∧h.gh M=some (.map es clock)∧∀ B,h.gh B=none→K (Av r dst (.gpt B)) (h.setG B (.iter M clock [] clock))):wpI P (.range t x) dst K r h:=by
 simp only [wpI,Ay,opB,spO]
 exact .inr (.inr hw)
theorem Abm {it:Operand} (hw:∃ B M since seen last es clock,Ae r it=some (.gpt B)∧h.gh B=some (.iter M since seen last)∧h.gh M=some (.map es clock)∧(∀ e∈es,e.2.2 < last)∧since=last ∧
    ((∀ e∈es,e.2.2∈seen)→K (Av r dst (.tup [.bool false])) h)∧∀ e∈es,e.2.2 ∉ seen→K (Av r dst (.tup [.bool true,e.1,e.2.1])) (h.setG B (.iter M since (seen ++ [e.2.2]) clock))):wpI P (.next it false) dst K r h:=by
 obtain ⟨B,M,since,seen,last,es,clock,h1,h2,h3⟩:=hw
 simp only [wpI,Ay,opB,spO]
 refine .inr ⟨B,h1,?_⟩
 rw [h2]
 exact ⟨es,clock,h3⟩
theorem Abn {it:Operand} : wpI P (.entry it) dst K r h = ∃ B M since seen last es st e,Ae r it=some (.gpt B)∧h.gh B=some (.iter M since seen last)∧h.gh M=some (.map es last)∧seen.getLast? = some st∧es.find? (fun e=>e.2.2 == st)=some e∧K (Av r dst (.tup [e.1,e.2.1])) h:=by
 simp [wpI,Ay,opB,opX,spO,ghO]
end
section
variable {α:Type} {g:α→List AV} {z:Nat}
theorem Hz (hz:∀ x,(g x).length=z) {l:List α} {rest:List AV} {i:Nat} (hi:i < l.length):takeN (((l.map g).flatten ++ rest).drop (i * z)) 0 z=some (g l[i]):=by
 have h1:=A4k hz hi
 have h2:=Es hz l
 have h3:(i+1) * z≤l.length * z:=Nat.mul_le_mul_right _ hi
 rw [Nat.add_mul,Nat.one_mul] at h3
 rw [takeN,if_pos,List.drop_zero]
 ·rw [List.drop_append_of_le_length ω,List.take_append_of_le_length (by rw [List.length_drop,h2];omega),h1]
 ·rw [List.length_drop,List.length_append,h2];omega
theorem A93 (hz:∀ x,(g x).length=z) {l:List α} {rest:List AV} {i:Nat} (hi:i < l.length) (x:α):putN ((l.map g).flatten ++ rest) (i * z) (g x)=some (((l.set i x).map g).flatten ++ rest):=by
 have h2:=Es hz l
 have h3:(i+1) * z≤l.length * z:=Nat.mul_le_mul_right _ hi
 have h4:(i+1) * z=i * z+z:=by rw [Nat.add_mul,Nat.one_mul]
 rw [putN,hz,if_pos (by rw [List.length_append,h2];omega)]
 have e1:((l.map g).flatten ++ rest).take (i * z)=((l.take i).map g).flatten:=by
  rw [List.take_append_of_le_length ω,A7j hz l i ω]
 have e2:((l.map g).flatten ++ rest).drop (i * z+z)=((l.drop (i+1)).map g).flatten ++ rest:=by
  rw [←h4,List.drop_append_of_le_length ω,Qq hz]
 rw [e1,e2,List.set_eq_take_append_cons_drop,if_pos hi]
 simp
end
open F
set_option maxRecDepth 100000
@[simp] theorem wpI_max2 {P:Program} {x y:Operand} {ts:Array TypeId} {dst:Option Tmp} {K:Regs→Heap→Prop} {r:Regs} {h:Heap} : wpI P (.call ⟨.builtin .max, #[x,y],ts⟩) dst K r h=Has (Ae r x) fun x=>Has (Ae r y) fun y=>Has (L7 x y) fun v=>K (Av r dst v) h:=by
 simp only [wpI,Ay,opB,spO,ghO,or_false,By,Cs,Bb,Bg,Bh]
 cases Ae r x with
 | none=>simp
 | some x=>cases Ae r y with
  | none=>simp
  | some y=>simp [Bb]
def intC (i:IntD):List AV:=[.int .i64 i.sq,.int .i64 i.st,S i.tx]
abbrev NL (l:List IntD):AV:=TR intC l
theorem C0 (i:IntD):(intC i).length=3:=rfl
theorem Fk (i:IntD):(intC i).all AV.atom=true:=rfl
theorem A04 {k:Nat} {h:Heap} (i:IntD):∀ c∈intC i,snap h true (k+1) c=some c:=by
 intro c hc
 simp [intC] at hc
 rcases hc with rfl|rfl|rfl<;>rfl
@[simp] theorem snap_NL {k:Nat} {h:Heap} (l:List IntD):snap h true (k+2) (NL l)=some (NL l):=Aj1 A04 C0 ν l
def cmpR (a b:Int):Int:=if a < b then -1 else if b < a then 1 else 0
theorem A05 (a:Int) (h:Heap):CSem Tryz.prog 101 [.int .i64 a] h fun x h'=>x = .bool false∧h'=h:=by
 refine CSem.body hm Tryz.func101 rfl κ κ (by simp [Tryz.ntmps101]) ?_
 simp [Tryz.f101]
theorem A94 (a b:Int) (h:Heap):CSem Tryz.prog 73 [.int .i64 a,.int .i64 b] h fun x h'=>x = .int .i64 (cmpR a b)∧h'=h:=by
 refine CSem.body hm Tryz.func73 rfl κ κ (by simp [Tryz.ntmps73]) ?_
 simp [Tryz.f73]
 refine (A05 a h).use ?_
 simp
 refine (A05 b h).use ?_
 by_cases h1:a < b
 ·simp [h1,cmpR]
 ·by_cases h2:b < a
  ·simp [h1,h2,cmpR]
  ·simp [h1,h2,cmpR]
theorem Abp (a b:IntD) (h:Heap):CSem Tryz.prog 72 [.agg (intC a),.agg (intC b)] h fun x h'=>x = .int .i64 (cmpR a.sq b.sq)∧h'=h:=by
 refine CSem.Me (Q:=fun x=>x = .int .i64 (cmpR a.sq b.sq)) (fun x hx=>by subst hx;exact ⟨1,_,rfl⟩) ?_
 refine CSem.body hm Tryz.func72 rfl κ κ (by simp [Tryz.ntmps72]) ?_
 simp [Tryz.f72,AV.cells,intC,A8]
 generalize hH:(h.alloc _).alloc _=H
 have E:Ext h H:=by rw [←hH];exact ((Ext.refl h).alloc _).alloc _
 have g0:H.get h.next=some (intC a):=by rw [←hH];exact Heap.Ag (Heap.A9 _ _)
 have g1:H.get (h.next+1)=some (intC b):=by rw [←hH];exact Heap.A9 (h.alloc _) _
 clear hH
 simp [g0,g1,intC,A8]
 refine (A94 a.sq b.sq H).use ?_
 simp
 exact E
theorem A4n (a b:IntD) (h:Heap):CSem Tryz.prog 100 [.agg (intC a),.agg (intC b)] h fun x h'=>x = .int .i64 (cmpR a.st b.st)∧h'=h:=by
 refine CSem.Me (Q:=fun x=>x = .int .i64 (cmpR a.st b.st)) (fun x hx=>by subst hx;exact ⟨1,_,rfl⟩) ?_
 refine CSem.body hm Tryz.func100 rfl κ κ (by simp [Tryz.ntmps100]) ?_
 simp [Tryz.f100,AV.cells,intC,A8]
 generalize hH:(h.alloc _).alloc _=H
 have E:Ext h H:=by rw [←hH];exact ((Ext.refl h).alloc _).alloc _
 have g0:H.get h.next=some (intC a):=by rw [←hH];exact Heap.Ag (Heap.A9 _ _)
 have g1:H.get (h.next+1)=some (intC b):=by rw [←hH];exact Heap.A9 (h.alloc _) _
 clear hH
 simp [g0,g1,intC,A8]
 refine (A94 a.st b.st H).use ?_
 simp
 exact E
theorem Tn:∀ (l:List Int) (x:Int),l≠[]→maxL (l ++ [x])=max (maxL l) x
 | [a],x,_=>by simp [maxL]
 | a :: b :: l,x,_=>by
  have:=Tn (b :: l) x μ
  show max a (maxL (b :: l ++ [x]))=max (max a (maxL (b :: l))) x
  rw [this]
  omega
structure MxI (l:List IntD) (h0:Heap) (i:Nat) (r:Regs) (h:Heap):Prop where
 le:i≤l.length
 pos:0 < i
 r0:rg r 0=NL l
 r1:rg r 1 = .fn 72 [] []
 r4:rg r 4 = .ptr h0.next 0
 r5:rg r 5 = .ptr (h0.next+1) 0
 r6:rg r 6 = .int .i64 i
 E:Ext h0 h
 z:∃ z,h.get h0.next=some z∧z.length=3
 m:∃ m,h.get (h0.next+1)=some (intC m)∧m.sq=maxL ((l.take i).map (·.sq))
theorem Af3 (l:List IntD) (hl:0 < l.length) (hl2:l.length < 2 ^ 40) (h:Heap):CSem Tryz.prog 71 [NL l,.fn 72 [] []] h fun x h'=>(∃ m,x = .agg (intC m)∧m.sq=maxL (l.map (·.sq)))∧h'=h:=by
 refine CSem.Me (Q:=fun x=> ∃ m,x = .agg (intC m)∧m.sq=maxL (l.map (·.sq))) (fun x hx=>by obtain ⟨m,rfl,_⟩:=hx;exact ⟨2,_,rfl⟩) ?_
 refine CSem.body hm Tryz.func71 rfl κ κ (by simp [Tryz.ntmps71]) ?_
 have hzI:B7 Tryz.prog 93=some (.agg [.int .i64 0,.int .i64 0,S []]):=by kernel_rfl
 have hz3:szT Tryz.prog 93=some 3:=by kernel_rfl
 have hagg:aggT Tryz.prog 93=some true:=by kernel_rfl
 have hel:(elT Tryz.prog 87).isSome=true:=by kernel_rfl
 have hez:(elT Tryz.prog 87).bind (szT Tryz.prog)=some 3:=by kernel_rfl
 have hn1:¬(l.length:Int) < 1:=by omega
 have hl0:(0:Int) < l.length:=by omega
 have atx:∀ i (hi:i < l.length),takeN ((l.map intC).flatten.drop (i * 3)) 0 3=some (intC l[i]):=fun i hi=>by
  have:=Hz (g:=intC) (z:=3) C0 (rest:=[]) hi
  rwa [List.append_nil] at this
 have at0:=atx 0 hl
 rw [Nat.zero_mul,List.drop_zero] at at0
 simp [Tryz.f71,hzI,AV.cells,Ed hel,hn1,Et hez,hl0,hl,Hk hagg hz3,at0,Aj,hz3,intC,show ∀ s:Txt,(S s).atom=true from fun _=>rfl]
 have e1:((h.alloc [AV.int IntKind.i64 0,AV.int IntKind.i64 0,S []]).alloc [AV.int IntKind.i64 0,AV.int IntKind.i64 0,S []]).get (h.next+1)=some [AV.int IntKind.i64 0,AV.int IntKind.i64 0,S []]:=Heap.A9 (h.alloc _) _
 have e0:((h.alloc [AV.int IntKind.i64 0,AV.int IntKind.i64 0,S []]).alloc [AV.int IntKind.i64 0,AV.int IntKind.i64 0,S []]).get h.next=some [AV.int IntKind.i64 0,AV.int IntKind.i64 0,S []]:=Heap.Ag (Heap.A9 _ _)
 simp [e1,putN]
 generalize hH:Heap.put (Heap.alloc (Heap.alloc h _) _) _ _=H
 have E:Ext h H:=by rw [←hH];exact (((Ext.refl h).alloc _).alloc _).put ω _
 have g0:H.get h.next=some [AV.int IntKind.i64 0,AV.int IntKind.i64 0,S []]:=by rw [←hH,Heap.Aq e1 ω];exact e0
 have g1:H.get (h.next+1)=some (intC l[0]):=by rw [←hH];exact Heap.Ak e1
 clear hH e1 e0
 refine Ar (MxI l h) (l.length - ·) ?_ 1 ?_
 ·rintro i r hp ⟨le,pos,r0,r1,r4,r5,r6,E1,⟨z,hz,hzl⟩,m,hm,hms⟩
  rcases Nat.lt_or_eq_of_le le with hlt|heq
  ·have hlt':(i:Int) < l.length:=by omega
   have hw1:IntKind.i64.wrap ((i:Int)+1)=(i:Int)+1:=wrap64 ω ω
   have hat:=atx i hlt
   have hs:=Tn ((l.take i).map (·.sq)) l[i].sq (by intro e;have:=congrArg List.length e;rw [List.length_map,List.length_take,List.length_nil] at this;omega)
   have hs2:(l.take i).map (·.sq) ++ [l[i].sq]=(l.take (i+1)).map (·.sq):=by rw [List.take_succ_eq_append_getElem hlt,List.map_append];rfl
   rw [hs2,←hms] at hs
   have hml:=Heap.Ah hm
   simp [r0,r6,hlt',hlt,Ed hel]
   refine Br 8 κ ?_
   simp [r0,r1,r4,r5,r6,hlt',hlt,Et hez,Hk hagg hz3,hat,Ac hagg,hz3,hm,show takeN (intC m) 0 3=some (intC m) from rfl]
   refine D7.use (x:= .int .i64 (cmpR l[i].sq m.sq)) (Abp l[i] m hp) ?_
   by_cases hc:m.sq < l[i].sq
   ·have hcr:cmpR l[i].sq m.sq=1:=by unfold cmpR;rw [if_neg ω,if_pos hc]
    simp [hcr,r0,r5,r6,hlt',hlt,Et hez,Hk hagg hz3,hat,Aj,hz3,hm,hml,C0,hw1,show putN (intC m) 0 (intC l[i])=some (intC l[i]) from rfl]
    refine ⟨List.all_eq_true.1 (Fk l[i]),i+1,ω,ω,ω,by simpa using r0,by simpa using r1,by simpa using r4,by simpa using r5,μ,E1.put ω _,⟨z,by rw [Heap.Aq hm ω];exact hz,hzl⟩,l[i],Heap.Ak hm,?_⟩
    omega
   ·have hcr:¬ 0 < cmpR l[i].sq m.sq:=by unfold cmpR;split<;>(try split)<;>omega
    simp [hcr,r6,hw1]
    refine ⟨i+1,ω,ω,ω,by simpa using r0,by simpa using r1,by simpa using r4,by simpa using r5,μ,E1,⟨z,hz,hzl⟩,m,hm,?_⟩
    omega
  ·subst heq
   rw [List.take_length] at hms
   obtain ⟨z1,z2,z3,rfl⟩:∃ z1 z2 z3,z=[z1,z2,z3]:=by
    match z,hzl with
    | [z1,z2,z3],_=>exact ⟨_,_,_,rfl⟩
   have hzl0:=Heap.Ah hz
   have hgp:(hp.put h.next (intC m)).get h.next=some (intC m):=Heap.Ak hz
   simp [r0,r6,r5,r4,Ed hel,Ac hagg,hz3,hm,show takeN (intC m) 0 3=some (intC m) from rfl,Aj,hz,C0,show putN [z1,z2,z3] 0 (intC m)=some (intC m) from rfl,hgp]
   refine ⟨List.all_eq_true.1 (Fk m),⟨m,rfl,hms⟩,E1.put (Nat.le_refl _) _⟩
 ·exact ⟨ω,ω,μ,μ,μ,μ,μ,E,⟨_,g0,rfl⟩,l[0],g1,by obtain ⟨a,t,rfl⟩:=List.exists_cons_of_length_pos hl;simp [maxL]⟩
theorem Af4 (l:List Int) (hl:0 < l.length) (hl2:l.length < 2 ^ 40):As Tryz.prog 46 [IL l] (.int .i64 (maxL l)):=by
 refine As.Ba (k:=1) ?_
 refine CSem.body hm Tryz.func46 rfl κ κ (by simp [Tryz.ntmps46]) ?_
 have hn1:¬(l.length:Int) < 1:=by omega
 have hl0:(0:Int) < l.length:=by omega
 simp [Tryz.f46,hn1,hl0,hl]
 refine Ar (fun (i:Nat) r hp=>0 < i∧i≤l.length∧rg r 0=IL l∧rg r 4 = .int .i64 i∧rg r 3 = .int .i64 (maxL (l.take i))) (l.length - ·) ?_ 1 ?_
 ·rintro i r hp ⟨pos,le,r0,r4,r3⟩
  rcases Nat.lt_or_eq_of_le le with hlt|heq
  ·have hlt':(i:Int) < l.length:=by omega
   have hw1:IntKind.i64.wrap ((i:Int)+1)=(i:Int)+1:=wrap64 ω ω
   have hs:=Tn (l.take i) l[i] (by intro e;have:=congrArg List.length e;rw [List.length_take,List.length_nil] at this;omega)
   rw [←List.take_succ_eq_append_getElem hlt] at hs
   simp [r0,r3,r4,hlt',hlt,hw1,I64,List.getElem?_eq_getElem hlt,L7]
   refine ⟨i+1,ω,ω,ω,by push_cast;rfl,?_⟩
   rw [hs];split<;>omega
  ·subst heq
   rw [List.take_length] at r3
   simp [r0,r3,r4]
 ·refine ⟨ω,ω,μ,μ,?_⟩
  obtain ⟨a,t,rfl⟩:=List.exists_cons_of_length_pos hl
  simp [maxL,I64]
theorem Af5 (l:List IntD) (hl2:l.length < 2 ^ 40) (hs:∀ x∈l,-2 ^ 62 < x.sq∧x.sq < 2 ^ 62) (h:Heap):CSem Tryz.prog 45 [NL l] h fun x h'=>x = .int .i64 (Cj l)∧h'=h:=by
 refine CSem.Me (Q:=fun x=>x = .int .i64 (Cj l)) (fun x hx=>by subst hx;exact ⟨1,_,rfl⟩) ?_
 refine CSem.body hm Tryz.func45 rfl κ κ (by simp [Tryz.ntmps45]) ?_
 have hel:(elT Tryz.prog 87).isSome=true:=by kernel_rfl
 have hzI:B7 Tryz.prog 93=some (.agg [.int .i64 0,.int .i64 0,S []]):=by kernel_rfl
 have hz3:szT Tryz.prog 93=some 3:=by kernel_rfl
 by_cases h0:l=[]
 ·subst h0
  simp [Tryz.f45,Ed hel,Cj]
  exact Ext.refl h
 ·have hlp:=List.length_pos_iff.2 h0
  have hne:¬(l.length:Int)=0:=by omega
  simp [Tryz.f45,Ed hel,h0]
  refine (Af3 l hlp hl2 h).then ?_
  rintro _ h' ⟨⟨m,rfl,hms⟩,hh⟩
  rw [hh]
  have hb : -2 ^ 62 < m.sq∧m.sq < 2 ^ 62:=by
   rw [hms]
   have:∀ l:List IntD,l≠[]→(∀ x∈l,-2 ^ 62 < x.sq∧x.sq < 2 ^ 62)→-2 ^ 62 < maxL (l.map (·.sq))∧maxL (l.map (·.sq)) < 2 ^ 62:=by
    intro l
    induction l with
    | nil=>intro h;exact (h rfl).elim
    | cons a t ih =>
     intro _ hx
     have ha:=hx a μ
     cases t with
     | nil=>simpa [maxL] using ha
     | cons b t =>
      have:=ih μ (fun x hx'=>hx x (by simp [hx']))
      simp only [List.map_cons,maxL] at this ⊢
      omega
   exact this l h0 hs
  have hw:IntKind.i64.wrap (m.sq+1)=m.sq+1:=wrap64 ω ω
  simp [hzI,AV.cells,Aj,hz3,Heap.A9,intC,putN,A8]
  generalize hH:Heap.put (Heap.alloc h _) _ _=H
  have E:Ext h H:=by rw [←hH];exact ((Ext.refl h).alloc _).put (Nat.le_refl _) _
  have g0:H.get h.next=some (intC m):=by rw [←hH];exact Heap.Ak (Heap.A9 _ _)
  clear hH
  simp [show ∀ s:Txt,(S s).atom=true from fun _=>rfl,g0,intC,hw,A8,Cj,h0,←hms]
  exact E
def ky (l:List IntD) (p:Nat):Int:=((l[p]?).map (·.st)).getD 0
def Srt (l:List IntD) (i:Nat):Prop:= ∀ p q,p < q→q < i→ky l p≤ky l q
structure IsJ (l:List IntD) (i j:Nat):Prop where
 a:∀ p q,p < q→q≤i→p≠j→q≠j→ky l p≤ky l q
 b:∀ q,j < q→q≤i→ky l j≤ky l q
def swp (l:List IntD) (j:Nat) (x y:IntD):List IntD:=(l.set j x).set (j - 1) y
theorem IsJ.start {l:List IntD} {i:Nat} (h:Srt l i):IsJ l i i:=⟨fun p q h1 h2 h3 h4=>h p q h1 ω,fun q h1 h2=>by omega⟩
theorem A21 {l:List IntD} {j:Nat} (h0:0 < j) (hj:j < l.length) (p:Nat):ky (swp l j l[j - 1] l[j]) p=if p=j then ky l (j - 1) else if p=j - 1 then ky l j else ky l p:=by
 have h1:j - 1 < l.length:=by omega
 unfold ky swp
 rw [List.getElem?_set]
 by_cases e1:p=j
 ·subst e1
  rw [if_neg ω,if_pos rfl,List.getElem?_set_self hj,List.getElem?_eq_getElem h1]
 ·rw [if_neg e1]
  by_cases e2:p=j - 1
  ·subst e2
   rw [if_pos rfl,if_pos rfl,if_pos (by simpa using h1),List.getElem?_eq_getElem hj]
  ·rw [if_neg (Ne.symm e2),if_neg e2,List.getElem?_set_ne (Ne.symm e1)]
theorem IsJ.swap {l:List IntD} {i j:Nat} (h:IsJ l i j) (h0:0 < j) (hji:j≤i) (hj:j < l.length) (hlt:ky l j < ky l (j - 1)):IsJ (swp l j l[j - 1] l[j]) i (j - 1):=by
 refine ⟨fun p q h1 h2 h3 h4=> ?_,fun q h1 h2=> ?_⟩
 ·rw [A21 h0 hj,A21 h0 hj,if_neg h3,if_neg h4]
  by_cases e1:p=j
  ·rw [if_pos e1,if_neg ω]
   exact h.a (j - 1) q ω h2 ω ω
  ·rw [if_neg e1]
   by_cases e2:q=j
   ·rw [if_pos e2];exact h.a p (j - 1) ω ω e1 ω
   ·rw [if_neg e2];exact h.a p q h1 h2 e1 e2
 ·rw [A21 h0 hj,A21 h0 hj,if_neg ω,if_pos rfl]
  by_cases e:q=j
  ·rw [if_pos e];omega
  ·rw [if_neg e,if_neg ω];exact h.b q ω h2
theorem IsJ.done {l:List IntD} {i j:Nat} (h:IsJ l i j) (hji:j≤i) (hn:0 < j→¬ky l j < ky l (j - 1)):Srt l (i+1):=by
 intro p q h1 h2
 by_cases e1:q=j
 ·subst e1
  have:=hn ω
  by_cases e2:p=q - 1
  ·subst e2;omega
  ·have:=h.a p (q - 1) ω ω ω ω;omega
 ·by_cases e2:p=j
  ·subst e2;exact h.b q h1 ω
  ·exact h.a p q h1 ω e2 e1
theorem Af6 {l:List IntD} {j:Nat} (h0:0 < j) (hj:j < l.length):(swp l j l[j - 1] l[j]).Perm l:=List.set_set_perm hj ω
theorem A22 {l:List IntD} {p:Nat} (hp:p < l.length):ky l p=l[p].st:=by simp [ky,hp]
structure IsO (l:List IntD) (rest:List AV) (wb c:Nat) (h0:Heap) (i:Nat) (r:Regs) (h:Heap):Prop where
 le:i≤l.length
 pos:0 < i
 r0:rg r 0 = .sl wb 0 l.length c 3
 r1:rg r 1 = .int .i64 0
 r2:rg r 2 = .int .i64 l.length
 r3:rg r 3 = .fn 100 [] []
 r8:rg r 8 = .int .i64 i
 cur:∃ cur:List IntD,cur.Perm l∧Srt cur i∧h.get wb=some ((cur.map intC).flatten ++ rest)
 oth:∀ b,b≠wb→h.get b=h0.get b
 nx:h.next=h0.next
 lp:h.lp=h0.lp
 gh:h.gh=h0.gh
structure IsI (l:List IntD) (rest:List AV) (wb c:Nat) (h0:Heap) (i:Nat) (m:Nat) (r:Regs) (h:Heap):Prop where
 r0:rg r 0 = .sl wb 0 l.length c 3
 r1:rg r 1 = .int .i64 0
 r2:rg r 2 = .int .i64 l.length
 r3:rg r 3 = .fn 100 [] []
 r8:rg r 8 = .int .i64 i
 cur:∃ (cur:List IntD) (j:Nat),m=i - j∧j≤i∧rg r 9 = .int .i64 j∧cur.Perm l∧IsJ cur i j∧h.get wb=some ((cur.map intC).flatten ++ rest)
 oth:∀ b,b≠wb→h.get b=h0.get b
 nx:h.next=h0.next
 lp:h.lp=h0.lp
 gh:h.gh=h0.gh
def Sw6V (wb n c:Nat) (j:Nat) (x y:IntD):Nat→AV→Prop
 | 0,v=>v = .sl wb 0 n c 3
 | 2,v=>v = .sl wb 0 n c 3
 | 5,v=>v = .sl wb 0 n c 3
 | 10,v=>v = .sl wb 0 n c 3
 | 1,v=>v = .int .i64 j
 | 3,v=>v = .int .i64 j
 | 4,v=>v = .int .i64 (j - 1:Int)
 | 6,v=>v = .int .i64 j
 | 7,v=>v = .int .i64 (j - 1:Int)
 | 8,v=>v = .ptr wb ((j - 1) * 3)
 | 9,v=>v = .agg (intC x)
 | 11,v=>v = .int .i64 j
 | 12,v=>v = .ptr wb (j * 3)
 | 13,v=>v = .agg (intC y)
 | 14,v=>v = .ptr wb (j * 3)
 | 16,v=>v = .ptr wb ((j - 1) * 3)
 | _,v=>True
theorem sw6 {cd:Code} (hc:(Tryz.f178.body).bind (Fy 6)=some cd) {r:Regs} {H:Heap} {Q:Out→Regs→Heap→Prop} {wb c j n:Nat} {cur:List IntD} {rest:List AV} (r0:rg r 0 = .sl wb 0 n c 3) (r9:rg r 9 = .int .i64 j) (h0:0 < j) (hj:j < cur.length) (hn:cur.length=n) (hn2:n < 2 ^ 40)
  (g:H.get wb=some ((cur.map intC).flatten ++ rest))
  (hQ:∀ (r':Regs) (H':Heap),(∀ d,d < 37→rg r' d=rg r d)→H'.get wb=some (((swp cur j cur[j - 1] cur[j]).map intC).flatten ++ rest)→(∀ b,b≠wb→H'.get b=H.get b)→H'.next=H.next→H'.lp=H.lp→H'.gh=H.gh→Q .norm r' H'):wpc Tryz.prog cd Q r H:=by
 simp [Tryz.f178,Fy] at hc
 subst hc
 have hz3:szT Tryz.prog 93=some 3:=by kernel_rfl
 have hagg:aggT Tryz.prog 93=some true:=by kernel_rfl
 have hez:(elT Tryz.prog 87).bind (szT Tryz.prog)=some 3:=by kernel_rfl
 have hj1:j - 1 < cur.length:=by omega
 have hw:IntKind.i64.wrap ((j:Int) - 1)=(j:Int) - 1:=wrap64 ω ω
 have hi0:(0:Int)≤(j:Int) - 1:=by omega
 have hi1:(j:Int) - 1 < n:=by omega
 have hi2:(j:Int) < n:=by omega
 have htn:((j:Int) - 1).toNat=j - 1:=by omega
 have hwl:=Heap.Ah g
 have hix:Bx Tryz.prog 87 (.sl wb 0 n c 3) (.int .i64 ((j:Int) - 1))=some (.ptr wb ((j - 1) * 3)):=by rw [Fz hez hi0 hi1,htn,Nat.zero_add]
 have a1:=Hz (g:=intC) (z:=3) C0 (rest:=rest) hj1
 have a2:=Hz (g:=intC) (z:=3) C0 (rest:=rest) hj
 have p1:=A93 (g:=intC) (z:=3) C0 (rest:=rest) hj cur[j - 1]
 have p2:=A93 (g:=intC) (z:=3) C0 (l:=cur.set j cur[j - 1]) (rest:=rest) (i:=j - 1) (by simpa using hj1) cur[j]
 generalize hxe:cur[j - 1]=x at a1 p1 p2 hQ
 generalize hye:cur[j]=y at a2 p2 hQ
 have hsw:(cur.set j x).set (j - 1) y=swp cur j x y:=rfl
 rw [hsw] at p2
 generalize ((swp cur j x y).map intC).flatten ++ rest=cA at p2 hQ
 generalize ((cur.set j x).map intC).flatten ++ rest=cB at p1 p2
 have gB:(H.put wb cB).get wb=some cB:=Heap.Ak g
 refine Hx (fun L _ h=>h=if L 17=true then (H.put wb cB).put wb cA else if L 15=true then H.put wb cB else H) (Sw6V wb n c j x y) κ rfl ?_ ?_
 ·intro L r1 H1 hH cl hr
  have q0:rg r1 0 = .sl wb 0 n c 3:=(Dr hr κ).trans r0
  have q9:rg r1 9 = .int .i64 j:=(Dr hr κ).trans r9
  refine ⟨?_,?_,?_,?_,?_,?_,?_,?_,?_,?_,?_,?_,?_,?_,?_,?_,?_,?_,trivial⟩
  all_goals (intro hL hd;simp [DepL,VL,Sw6V,Region.binds] at hd)
  ·simp [q0,Sw6V];exact ⟨_,rfl,rfl,hH⟩
  ·simp [q9,Sw6V];exact ⟨_,rfl,rfl,hH⟩
  ·simp [q0,Sw6V];exact ⟨_,rfl,rfl,hH⟩
  ·simp [q9,Sw6V];exact ⟨_,rfl,rfl,hH⟩
  ·simp [hd,hw,Sw6V];exact ⟨_,rfl,rfl,hH⟩
  ·simp [q0,Sw6V];exact ⟨_,rfl,rfl,hH⟩
  ·simp [q9,Sw6V];exact ⟨_,rfl,rfl,hH⟩
  ·simp [hd,hw,Sw6V];exact ⟨_,rfl,rfl,hH⟩
  ·simp [hd,hix,Sw6V];exact ⟨_,rfl,rfl,hH⟩
  ·have h15:=cl 15 9 κ hL
   have h17:=cl 17 15 κ h15
   have e:H1=H:=by rw [hH,if_neg (by simp [h17]),if_neg (by simp [h15])]
   subst e
   simp [hd,Ac hagg,hz3,g,a1,Sw6V,h15,h17]
  ·simp [q0,Sw6V];exact ⟨_,rfl,rfl,hH⟩
  ·simp [q9,Sw6V];exact ⟨_,rfl,rfl,hH⟩
  ·simp [hd,Fz hez,hi2,Sw6V];exact ⟨_,rfl,rfl,hH⟩
  ·have h15:=cl 15 13 κ hL
   have h17:=cl 17 15 κ h15
   have e:H1=H:=by rw [hH,if_neg (by simp [h17]),if_neg (by simp [h15])]
   subst e
   simp [hd,Ac hagg,hz3,g,a2,Sw6V,h15,h17]
  ·simp [hd,Fz hez,hi2,Sw6V];exact ⟨_,rfl,rfl,hH⟩
  ·have l15:L 15=false:=hL
   have h17:=cl 17 15 κ hL
   have e:H1=H:=by rw [hH,if_neg (by simp [h17]),if_neg (by simp [l15])]
   subst e
   simp [hd,Aj,hz3,g,p1,h17,C0]
   exact List.all_eq_true.1 (Fk x)
  ·rw [show L 15=true from by simp [hd]] at hH
   simp [hd,hix,Sw6V];exact ⟨_,rfl,rfl,hH⟩
  ·have l17:L 17=false:=hL
   have l15:L 15=true:=by simp [hd]
   have e:H1=H.put wb cB:=by rw [hH,if_neg (by simp [l17]),if_pos l15]
   subst e
   simp [hd,Aj,hz3,gB,p2,C0]
   exact List.all_eq_true.1 (Fk y)
 ·intro L r1 H1 hall hH hr hA
  rw [if_pos (hall 17 ν)] at hH
  subst hH
  exact hQ r1 _ (fun d hd=>hr d (by simp;omega)) (Heap.Ak gB) (fun b hb=>by rw [Heap.Aq gB hb,Heap.Aq g hb]) rfl rfl rfl
theorem Abq {l:List IntD} {rest:List AV} {wb c:Nat} {h:Heap} (hl:l.length < 2 ^ 40) (g:h.get wb=some ((l.map intC).flatten ++ rest)) :
  CSem Tryz.prog 178 [.sl wb 0 l.length c 3,.int .i64 0,.int .i64 l.length,.fn 100 [] []] h fun x h'=>x = .tup []∧(∃ l':List IntD,l'.Perm l∧Srt l' l.length∧h'.get wb=some ((l'.map intC).flatten ++ rest))∧(∀ b,b≠wb→h'.get b=h.get b)∧h'.next=h.next∧h'.lp=h.lp∧h'.gh=h.gh:=by
 refine CSem.body hm Tryz.func178 rfl κ κ (by simp [Tryz.ntmps178]) ?_
 have hz3:szT Tryz.prog 93=some 3:=by kernel_rfl
 have hagg:aggT Tryz.prog 93=some true:=by kernel_rfl
 have hez:(elT Tryz.prog 87).bind (szT Tryz.prog)=some 3:=by kernel_rfl
 have hi01:IntKind.i64.wrap ((0:Int)+1)=1:=by decide
 by_cases hl0:l=[]
 ·subst hl0
  simp [Tryz.f178,hi01]
  refine Ar (fun (i:Nat) r hp=>i=1∧rg r 8 = .int .i64 1∧rg r 2 = .int .i64 0∧hp=h) (fun _=>0) ?_ 1 ?_
  ·rintro i r hp ⟨_,r8,r2,rfl⟩
   simp [r8,r2]
   exact ⟨fun p q h1 h2=>by simp at h2,by simpa using g⟩
  ·exact ⟨rfl,by simp [show IntKind.i64.wrap 1=1 from by decide],μ,rfl⟩
 have hlp:=List.length_pos_iff.2 hl0
 simp [Tryz.f178,hi01]
 refine Ar (IsO l rest wb c h) (l.length - ·) ?_ 1 ?_
 ·rintro i r hp ⟨le,pos,r0,r1,r2,r3,r8,⟨cur,pm,so,hg⟩,oth,nx,lp,gh⟩
  have hcl:cur.length=l.length:=pm.length_eq
  rcases Nat.lt_or_eq_of_le le with hlt|heq
  ·have hlt':(i:Int) < l.length:=by omega
   have hw1:IntKind.i64.wrap ((i:Int)+1)=(i:Int)+1:=wrap64 ω ω
   simp [r2,r8,hlt']
   refine Ar (IsI l rest wb c h i) (fun m=>i - m) ?_ 0 ?_
   ·rintro m r2' h2 ⟨r0,r1,r2,r3,r8,⟨cu,j,hm,hji,r9,pm,isj,hg⟩,oth,nx,lp,gh⟩
    have hcu:cu.length=l.length:=pm.length_eq
    have hjl:j < cu.length:=by omega
    simp
    refine Br 17 κ ?_
    have fin:Srt cu (i+1)→True:=fun _=>trivial
    by_cases hj0:0 < j
    ·have hj1:j - 1 < cu.length:=by omega
     have a1:=Hz (g:=intC) (z:=3) C0 (rest:=rest) hj1
     have a2:=Hz (g:=intC) (z:=3) C0 (rest:=rest) hjl
     have hw:IntKind.i64.wrap ((j:Int) - 1)=(j:Int) - 1:=wrap64 ω ω
     have hix:Bx Tryz.prog 87 (.sl wb 0 l.length c 3) (.int .i64 ((j:Int) - 1))=some (.ptr wb ((j - 1) * 3)):=by rw [Fz hez ω ω,Nat.zero_add];congr 3;omega
     have hix2:Bx Tryz.prog 87 (.sl wb 0 l.length c 3) (.int .i64 (j:Int))=some (.ptr wb (j * 3)):=by rw [Fz hez ω ω,Nat.zero_add];rfl
     have hk1:=A22 hj1
     have hk2:=A22 hjl
     simp [r0,r1,r3,r9,hj0,hw,hix,hix2,Ac hagg,hz3,hg,a1,a2]
     refine D7.use (x:= .int .i64 (cmpR cu[j].st cu[j - 1].st)) (A4n cu[j] cu[j - 1] h2) ?_
     by_cases hc:cu[j].st < cu[j - 1].st
     ·have hcr:cmpR cu[j].st cu[j - 1].st < 0:=by unfold cmpR;rw [if_pos hc];decide
      simp [hcr]
      refine sw6 (wb:=wb) (c:=c) (j:=j) (n:=l.length) (cur:=cu) (rest:=rest) κ (by simpa using r0) (by simpa using r9) hj0 hjl hcu hl hg ?_
      intro r3' H3 rr hg3 oth3 nx3 lp3 gh3
      have s9:rg r3' 9 = .int .i64 j:=(rr 9 ω).trans (by simpa using r9)
      simp [s9,hw]
      refine ⟨i - (j - 1),ω,by simpa using (rr 0 ω).trans (by simpa using r0),by simpa using (rr 1 ω).trans (by simpa using r1),by simpa using (rr 2 ω).trans (by simpa using r2),by simpa using (rr 3 ω).trans (by simpa using r3),by simpa using (rr 8 ω).trans (by simpa using r8),
       ⟨swp cu j cu[j - 1] cu[j],j - 1,rfl,ω,by simp;omega,(Af6 hj0 hjl).trans pm,isj.swap hj0 hji hjl (by rw [hk1,hk2];exact hc),hg3⟩,fun b hb=>(oth3 b hb).trans (oth b hb),nx3.trans nx,lp3.trans lp,gh3.trans gh⟩
     ·have hcr:¬cmpR cu[j].st cu[j - 1].st < 0:=by unfold cmpR;rw [if_neg hc];split<;>decide
      simp [hcr,r8,hw1]
      exact ⟨i+1,ω,ω,ω,by simpa using r0,by simpa using r1,by simpa using r2,by simpa using r3,μ,⟨cu,pm,isj.done hji (fun _=>by rw [hk1,hk2];exact hc),hg⟩,oth,nx,lp,gh⟩
    ·have hj00:j=0:=by omega
     simp [r0,r1,r9,hj00,r8,hw1]
     exact ⟨i+1,ω,ω,ω,by simpa using r0,by simpa using r1,by simpa using r2,by simpa using r3,μ,⟨cu,pm,isj.done hji (fun h=>(hj0 h).elim),hg⟩,oth,nx,lp,gh⟩
   ·exact ⟨by simpa using r0,by simpa using r1,by simpa using r2,by simpa using r3,by simpa using r8,⟨cur,i,ω,ω,by simp [r8],pm,IsJ.start so,hg⟩,oth,nx,lp,gh⟩
  ·subst heq
   simp [r2,r8]
   exact ⟨⟨cur,pm,so,hg⟩,oth,nx,lp,gh⟩
 ·exact ⟨ω,ω,μ,μ,μ,μ,by simp [show IntKind.i64.wrap 1=1 from by decide],⟨l,List.Perm.refl _,fun p q h1 h2=>by omega,g⟩,fun _ _=>rfl,rfl,rfl,rfl⟩
def mlU (ml:List IntD) (x:IntD):List IntD:=match ml.findIdx? (fun y=>decide (y.st=x.st)) with
 | some i=>if (ml[i]?.getD int0).sq < x.sq then ml.set i x else ml
 | none=>ml ++ [x]
def mlR (l:List IntD):List IntD:=l.foldl mlU []
def StN (l:List IntD):Prop:=(l.map (·.st)).Nodup
def StS (l:List IntD):Prop:=l.Pairwise fun a b=>a.st < b.st
theorem StS.nodup {l:List IntD} (h:StS l):StN l:=by
 unfold StN
 rw [List.Nodup,List.pairwise_map]
 exact h.imp fun h=>by omega
theorem StN.idx {l:List IntD} (h:StN l) {i j:Nat} (hi:i < l.length) (hj:j < l.length) (e:l[i].st=l[j].st):i=j:=by
 have hp:=List.pairwise_iff_getElem.1 h
 by_cases hij:i=j
 ·exact hij
 ·exfalso
  rcases Nat.lt_or_gt_of_ne hij with h1|h1
  ·exact hp i j (by simpa using hi) (by simpa using hj) h1 (by simpa using e)
  ·exact hp j i (by simpa using hj) (by simpa using hi) h1 (by simpa using e.symm)
theorem StN.inj {l:List IntD} (h:StN l) {x y:IntD} (hx:x∈l) (hy:y∈l) (e:x.st=y.st):x=y:=by
 obtain ⟨i,hi,rfl⟩:=List.mem_iff_getElem.1 hx
 obtain ⟨j,hj,rfl⟩:=List.mem_iff_getElem.1 hy
 have hp:=List.pairwise_iff_getElem.1 h
 by_cases hij:i=j
 ·subst hij;rfl
 ·exfalso
  rcases Nat.lt_or_gt_of_ne hij with h1|h1
  ·exact hp i j (by simpa using hi) (by simpa using hj) h1 (by simpa using e)
  ·exact hp j i (by simpa using hj) (by simpa using hi) h1 (by simpa using e.symm)
theorem Q9:∀ {l1 l2:List IntD},StS l1→StS l2→(∀ x,x∈l1↔x∈l2)→l1=l2
 | [],[],_,_,_=>rfl
 | [],b :: l2,_,_,h=>by have:=(h b).2 μ;simp at this
 | a :: l1,[],_,_,h=>by have:=(h a).1 μ;simp at this
 | a :: l1,b :: l2,h1,h2,h=>by
  obtain ⟨a1,a2⟩:=List.pairwise_cons.1 h1
  obtain ⟨b1,b2⟩:=List.pairwise_cons.1 h2
  have hab:a=b:=by
   rcases List.mem_cons.1 ((h a).1 μ) with e|e
   ·exact e
   ·rcases List.mem_cons.1 ((h b).2 μ) with e2|e2
    ·exact e2.symm
    ·have:=b1 a e;have:=a1 b e2;omega
  subst hab
  have:=Q9 a2 b2 fun x=>by
   constructor
   ·intro hx
    rcases List.mem_cons.1 ((h x).1 (List.mem_cons_of_mem _ hx)) with e|e
    ·subst e;have:=a1 x hx;omega
    ·exact e
   ·intro hx
    rcases List.mem_cons.1 ((h x).2 (List.mem_cons_of_mem _ hx)) with e|e
    ·subst e;have:=b1 x hx;omega
    ·exact e
  rw [this]
structure MlS (ml s:List IntD):Prop where
 nd:StN ml
 so:StS s
 me:∀ x,x∈ml↔x∈s
theorem Jy {x:IntD} : ∀ {s:List IntD},StS s→∀ y,y∈newI x s↔(y∈s∧y.st≠x.st)∨(y=x∧∀ z∈s,z.st=x.st→z.sq < x.sq)∨(y∈s∧y.st=x.st∧¬y.sq < x.sq)
 | [],_,y=>by simp [newI]
 | a :: s,h,y=>by
  obtain ⟨a1,a2⟩:=List.pairwise_cons.1 h
  have ih:=Jy (x:=x) a2 y
  unfold newI
  split
  ·rename_i h1
   have hall:∀ z∈a :: s,z.st≠x.st:=fun z hz=>by
    rcases List.mem_cons.1 hz with rfl|hz
    ·omega
    ·have:=a1 z hz;omega
   constructor
   ·intro hy
    rcases List.mem_cons.1 hy with rfl|hy
    ·exact .inr (.inl ⟨rfl,fun z hz e=>(hall z hz e).elim⟩)
    ·exact .inl ⟨hy,hall y hy⟩
   ·rintro (⟨h1,_⟩|⟨rfl,_⟩|⟨h1,_⟩)
    ·exact List.mem_cons_of_mem _ h1
    ·simp
    ·exact List.mem_cons_of_mem _ h1
  ·split
   ·rename_i h1 h2
    have hs:∀ z∈s,z.st≠x.st:=fun z hz=>by have:=a1 z hz;omega
    by_cases hq:a.sq < x.sq
    ·rw [if_pos hq]
     constructor
     ·intro hy
      rcases List.mem_cons.1 hy with rfl|hy
      ·refine .inr (.inl ⟨rfl,fun z hz e=> ?_⟩)
       rcases List.mem_cons.1 hz with rfl|hz
       ·exact hq
       ·exact (hs z hz e).elim
      ·exact .inl ⟨List.mem_cons_of_mem _ hy,hs y hy⟩
     ·rintro (⟨h3,h4⟩|⟨rfl,_⟩|⟨h3,h4,h5⟩)
      ·rcases List.mem_cons.1 h3 with rfl|h3
       ·exact (h4 h2.symm).elim
       ·exact List.mem_cons_of_mem _ h3
      ·simp
      ·rcases List.mem_cons.1 h3 with rfl|h3
       ·exact (h5 hq).elim
       ·exact (hs y h3 h4).elim
    ·rw [if_neg hq]
     constructor
     ·intro hy
      rcases List.mem_cons.1 hy with rfl|hy
      ·exact .inr (.inr ⟨μ,h2.symm,hq⟩)
      ·exact .inl ⟨List.mem_cons_of_mem _ hy,hs y hy⟩
     ·rintro (⟨h3,h4⟩|⟨rfl,h3⟩|⟨h3,h4,h5⟩)
      ·exact h3
      ·exact (hq (h3 a μ h2.symm)).elim
      ·exact h3
   ·rename_i h1 h2
    constructor
    ·intro hy
     rcases List.mem_cons.1 hy with rfl|hy
     ·exact .inl ⟨μ,ω⟩
     ·rcases ih.1 hy with ⟨h3,h4⟩|⟨rfl,h3⟩|⟨h3,h4,h5⟩
      ·exact .inl ⟨List.mem_cons_of_mem _ h3,h4⟩
      ·refine .inr (.inl ⟨rfl,fun z hz e=> ?_⟩)
       rcases List.mem_cons.1 hz with rfl|hz
       ·omega
       ·exact h3 z hz e
      ·exact .inr (.inr ⟨List.mem_cons_of_mem _ h3,h4,h5⟩)
    ·rintro (⟨h3,h4⟩|⟨rfl,h3⟩|⟨h3,h4,h5⟩)
     ·rcases List.mem_cons.1 h3 with rfl|h3
      ·simp
      ·exact List.mem_cons_of_mem _ (ih.2 (.inl ⟨h3,h4⟩))
     ·exact List.mem_cons_of_mem _ (ih.2 (.inr (.inl ⟨rfl,fun z hz=>h3 z (List.mem_cons_of_mem _ hz)⟩)))
     ·rcases List.mem_cons.1 h3 with rfl|h3
      ·simp
      ·exact List.mem_cons_of_mem _ (ih.2 (.inr (.inr ⟨h3,h4,h5⟩)))
theorem N7 {x:IntD} : ∀ {s:List IntD},StS s→StS (newI x s)
 | [],_=>by simp [newI,StS]
 | a :: s,h=>by
  obtain ⟨a1,a2⟩:=List.pairwise_cons.1 h
  unfold newI
  split
  ·rename_i h1
   refine List.pairwise_cons.2 ⟨fun z hz=> ?_,h⟩
   rcases List.mem_cons.1 hz with rfl|hz
   ·exact h1
   ·have:=a1 z hz;omega
  ·split
   ·rename_i h1 h2
    split
    ·exact List.pairwise_cons.2 ⟨fun z hz=>by have:=a1 z hz;omega,a2⟩
    ·exact h
   ·rename_i h1 h2
    refine List.pairwise_cons.2 ⟨fun z hz=> ?_,N7 a2⟩
    rcases (Jy a2 z).1 hz with ⟨h3,_⟩|⟨rfl,_⟩|⟨h3,_⟩
    ·exact a1 z h3
    ·omega
    ·exact a1 z h3
theorem A95 {ml:List IntD} (h:StN ml) (x:IntD) (y:IntD):y∈mlU ml x↔(y∈ml∧y.st≠x.st)∨(y=x∧∀ z∈ml,z.st=x.st→z.sq < x.sq)∨(y∈ml∧y.st=x.st∧¬y.sq < x.sq):=by
 unfold mlU
 cases hf:ml.findIdx? (fun y=>decide (y.st=x.st)) with
 | none =>
  have hno:∀ z∈ml,z.st≠x.st:=fun z hz=>by
   have:=List.findIdx?_eq_none_iff.1 hf z hz
   simpa using this
  simp only [List.mem_append,List.mem_singleton]
  constructor
  ·rintro (h1|rfl)
   ·exact .inl ⟨h1,hno y h1⟩
   ·exact .inr (.inl ⟨rfl,fun z hz e=>(hno z hz e).elim⟩)
  ·rintro (⟨h1,_⟩|⟨rfl,_⟩|⟨h1,_⟩)
   ·exact .inl h1
   ·exact .inr rfl
   ·exact .inl h1
 | some i =>
  obtain ⟨hi,h1,_⟩:=List.findIdx?_eq_some_iff_getElem.1 hf
  have h1:ml[i].st=x.st:=by simpa using h1
  have hget:ml[i]?.getD int0=ml[i]:=by rw [List.getElem?_eq_getElem hi];rfl
  have huniq:∀ z∈ml,z.st=x.st→z=ml[i]:=fun z hz e=>h.inj hz (List.getElem_mem hi) (e.trans h1.symm)
  simp only [hget]
  by_cases hq:ml[i].sq < x.sq
  ·rw [if_pos hq]
   constructor
   ·intro hy
    obtain ⟨j,hj,hjy⟩:=List.mem_iff_getElem.1 hy
    have hj':j < ml.length:=by simpa using hj
    by_cases hji:i=j
    ·subst hji
     rw [List.getElem_set_self] at hjy
     subst hjy
     exact .inr (.inl ⟨rfl,fun z hz e=>by rw [huniq z hz e];exact hq⟩)
    ·rw [List.getElem_set_ne hji] at hjy
     subst hjy
     exact .inl ⟨List.getElem_mem hj',fun e=>hji (h.idx hi hj' (h1.trans e.symm))⟩
   ·rintro (⟨h3,h4⟩|⟨rfl,_⟩|⟨h3,h4,h5⟩)
    ·obtain ⟨j,hj,rfl⟩:=List.mem_iff_getElem.1 h3
     have hne:i≠j:=fun e=>by subst e;exact h4 h1
     exact List.mem_iff_getElem.2 ⟨j,by simpa using hj,by rw [List.getElem_set_ne hne]⟩
    ·exact List.mem_iff_getElem.2 ⟨i,by simpa using hi,μ⟩
    ·rw [huniq y h3 h4] at h5;exact (h5 hq).elim
  ·rw [if_neg hq]
   constructor
   ·intro hy
    by_cases e:y.st=x.st
    ·exact .inr (.inr ⟨hy,e,by rw [huniq y hy e];exact hq⟩)
    ·exact .inl ⟨hy,e⟩
   ·rintro (⟨h3,h4⟩|⟨rfl,h3⟩|⟨h3,h4,h5⟩)
    ·exact h3
    ·exact (hq (h3 _ (List.getElem_mem hi) h1)).elim
    ·exact h3
theorem A06 {ml:List IntD} (h:StN ml) (x:IntD):StN (mlU ml x):=by
 unfold mlU
 cases hf:ml.findIdx? (fun y=>decide (y.st=x.st)) with
 | none =>
  have hno:∀ z∈ml,z.st≠x.st:=fun z hz=>by
   have:=List.findIdx?_eq_none_iff.1 hf z hz
   simpa using this
  show ((ml ++ [x]).map (·.st)).Nodup
  rw [List.map_append,List.nodup_append]
  refine ⟨h,μ,fun a ha b hb=> ?_⟩
  obtain ⟨z,hz,rfl⟩:=List.mem_map.1 ha
  simp at hb
  subst hb
  exact hno z hz
 | some i =>
  obtain ⟨hi,h1,_⟩:=List.findIdx?_eq_some_iff_getElem.1 hf
  have h1:ml[i].st=x.st:=by simpa using h1
  simp only
  split
  ·have:(ml.set i x).map (·.st)=ml.map (·.st):=by
    rw [List.map_set]
    apply List.ext_getElem μ
    intro j h2 h3
    rw [List.getElem_set]
    split
    ·rename_i e;subst e;simp [h1]
    ·rfl
   show ((ml.set i x).map (·.st)).Nodup
   rw [this];exact h
  ·exact h
theorem MlS.step {ml s:List IntD} (h:MlS ml s) (x:IntD):MlS (mlU ml x) (newI x s):=by
 refine ⟨A06 h.nd x,N7 h.so,fun y=> ?_⟩
 rw [A95 h.nd x y,Jy h.so y]
 have hm:=h.me
 simp only [hm]
theorem MlS.fold:∀ (l:List IntD) {ml s:List IntD},MlS ml s→MlS (l.foldl mlU ml) (l.foldl (fun acc x=>newI x acc) s)
 | [],_,_,h=>h
 | x :: l,_,_,h=>MlS.fold l (h.step x)
theorem mlS (l:List IntD):MlS (mlR l) (G6 l):=MlS.fold l ⟨List.nodup_nil,List.Pairwise.nil,fun _=>Iff.rfl⟩
theorem Srt.strict {l:List IntD} (h:Srt l l.length) (hn:StN l):StS l:=by
 rw [StS,List.pairwise_iff_getElem]
 intro i j hi hj hij
 have h1:=h i j hij hj
 rw [A22 hi,A22 hj] at h1
 by_cases e:l[i].st=l[j].st
 ·have:=hn.idx hi hj e;omega
 ·omega
theorem Yj {l l':List IntD} (hs:Srt l' l'.length) (hn:StN l') (hm:∀ x,x∈l'↔x∈mlR l):l'=G6 l :=
 Q9 (hs.strict hn) (mlS l).so fun x=>(hm x).trans ((mlS l).me x)
def esO (off:Nat) (ml:List IntD):List (AV×AV×Nat):=(ml.zipIdx off).map fun p=>(AV.int .i64 p.1.st,AV.agg (intC p.1),p.2)
theorem Xp (off:Nat) (a:IntD) (ml:List IntD):esO off (a :: ml)=(AV.int .i64 a.st,AV.agg (intC a),off) :: esO (off+1) ml:=rfl
theorem A23 (off:Nat) (ml:List IntD):(esO off ml).length=ml.length:=by simp [esO]
theorem Uy {ml:List IntD} {i:Nat} (hi:i < ml.length):(esO 0 ml)[i]? = some (AV.int .i64 ml[i].st,AV.agg (intC ml[i]),i):=by
 simp [esO,hi]
theorem A96 {ml:List IntD} {e:AV×AV×Nat} (he:e∈esO 0 ml):∃ i,∃ hi:i < ml.length,e=(AV.int .i64 ml[i].st,AV.agg (intC ml[i]),i):=by
 obtain ⟨i,hi⟩:=List.getElem?_of_mem he
 have hl:i < ml.length:=by have:=(List.getElem?_eq_some_iff.1 hi).1;rwa [A23] at this
 rw [Uy hl] at hi
 exact ⟨i,hl,(Option.some.inj hi).symm⟩
theorem A4p (k:Int):∀ (ml:List IntD) (off n:Nat),Nq 1 (.int .i64 k) (esO off ml) n=some (match ml.findIdx? (fun y=>decide (y.st=k)) with
  | some i=>some (n+i,.agg (intC (ml[i]?.getD int0)))
  | none=>none)
 | [],off,n=>rfl
 | a :: ml,off,n=>by
  rw [Xp,Nq,List.findIdx?_cons]
  by_cases h:a.st=k
  ·simp [eq1,h]
  ·have h2:¬k=a.st:=fun e=>h e.symm
   simp only [eq1,if_true,beq_eq_false_iff_ne.2 h2,decide_eq_false h]
   rw [A4p k ml (off+1) (n+1)]
   cases ml.findIdx? (fun y=>decide (y.st=k)) with
   | none=>rfl
   | some i=>simp;omega
theorem A4q {ml:List IntD} (x:IntD):Nr (esO 0 ml) ml.length (.int .i64 x.st) (.agg (intC x)) none = .map (esO 0 (ml ++ [x])) (ml ++ [x]).length:=by
 simp [Nr,esO,List.zipIdx_append]
theorem A4r {ml:List IntD} {i:Nat} (hi:i < ml.length) (x:IntD) (v:AV):Nr (esO 0 ml) ml.length (.int .i64 x.st) (.agg (intC x)) (some (i,v)) = .map (esO 0 (ml.set i x)) (ml.set i x).length:=by
 simp only [Nr,List.length_set]
 congr 1
 apply List.ext_getElem?
 intro j
 rw [List.getElem?_modify]
 by_cases hj:j < ml.length
 ·rw [Uy hj,Uy (by simpa using hj)]
  by_cases hij:i=j
  ·subst hij;simp
  ·simp [hij,List.getElem_set_ne hij]
 ·rw [List.getElem?_eq_none (by rw [A23];omega),List.getElem?_eq_none (by rw [A23];simp;omega)]
  rfl
theorem A4s:∀ (ml:List IntD) (off i:Nat) (hi:i < ml.length),(esO off ml).find? (fun e=>e.2.2 == off+i)=some (AV.int .i64 ml[i].st,AV.agg (intC ml[i]),off+i)
 | a :: ml,off,0,hi=>by rw [Xp];simp
 | a :: ml,off,i+1,hi=>by
  have h1:(off == off+(i+1))=false:=by simp
  have:=A4s ml (off+1) i (by simpa using hi)
  rw [show off+1+i=off+(i+1) by omega] at this
  rw [Xp,List.find?_cons]
  simp only [h1]
  exact this
theorem A7m (M:Nat) (h:Heap):CSem Tryz.prog 99 [.gmp M] h fun x h'=>x = .fn 135 [] [.ptr h.next 0]∧h'=h.alloc [.gmp M]:=by
 refine CSem.body hm Tryz.func99 rfl κ κ (by simp [Tryz.ntmps99]) ?_
 simp [Tryz.f99,show (AV.gmp M).cells=[.gmp M] from rfl,show (AV.gmp M).atom=true from rfl]
theorem A4t {id mb M:Nat} {ml:List IntD} (J:List Nat→Heap→Prop)
  (hJ:∀ is h,J is h→h.get mb=some [.gmp M]∧h.gh M=some (.map (esO 0 ml) ml.length)) (hJa:∀ is h cs,J is h→J is (h.alloc cs)) (hJp:∀ is h n cs cs',J is h→h.next=n→J is ((h.alloc cs).put n cs')) (hJg:∀ is h B g,B≠M→J is h→J is (h.setG B g))
  (hstep:∀ is h i (hi:i < ml.length),i ∉ is→is.length < ml.length→J is h→YSem Tryz.prog id [.agg (intC ml[i])] h fun v h'=>v = .bool true∧J (is ++ [i]) h'∧h'.gh=h.gh) {h:Heap} (h0:J [] h) :
  CSem Tryz.prog 135 [.yld id,.ptr mb 0] h fun _ h'=> ∃ is:List Nat,J is h'∧is.Nodup∧∀ i,i∈is↔i < ml.length:=by
 refine CSem.body hm Tryz.func135 rfl κ κ (by simp [Tryz.ntmps135]) ?_
 obtain ⟨k1,k2⟩:=hJ _ _ h0
 have hmt:(mapT Tryz.prog 147).isSome=true:=by kernel_rfl
 have hzI:B7 Tryz.prog 93=some (.agg [.int .i64 0,.int .i64 0,S []]):=by kernel_rfl
 have hz3:szT Tryz.prog 93=some 3:=by kernel_rfl
 have hagg:aggT Tryz.prog 93=some true:=by kernel_rfl
 simp [Tryz.f135,k1]
 refine A7k ⟨M,_,_,μ,hmt,k2,fun B hB=> ?_⟩
 have hBM:B≠M:=fun e=>by rw [e,k2] at hB;cases hB
 have hJ0:=hJg [] h B (.iter M ml.length [] ml.length) hBM h0
 simp
 refine Ar (fun (k:Nat) r hp=>rg r 0 = .yld id∧rg r 6 = .gpt B∧∃ is:List Nat,k=ml.length - is.length∧J is hp∧is.Nodup∧(∀ i∈is,i < ml.length)∧hp.gh B=some (.iter M ml.length is ml.length)) (fun k=>k) ?_ ml.length ?_
 ·rintro k r hp ⟨g0,g6,is,hk,hj,hnd,hin,hgB⟩
  obtain ⟨j1,j2⟩:=hJ _ _ hj
  simp
  refine Abm ⟨B,M,_,is,_,_,_,by simpa using g6,hgB,j2,?_,rfl,?_,?_⟩
  ·intro e he
   obtain ⟨i,hi,rfl⟩:=A96 he
   exact hi
  ·intro hall
   have hfull:∀ i,i < ml.length→i∈is:=fun i hi=>hall _ (List.mem_of_getElem? (Uy hi))
   simp
   exact ⟨is,hj,hnd,fun i=>⟨hin i,hfull i⟩⟩
  ·intro e he hns
   obtain ⟨i,hi,rfl⟩:=A96 he
   have hns:i ∉ is:=hns
   have hj2:=hJg is hp B (.iter M ml.length (is ++ [i]) ml.length) hBM hj
   obtain ⟨q1,q2⟩:=hJ _ _ hj2
   simp [g6]
   rw [Abn]
   refine ⟨B,M,ml.length,is ++ [i],ml.length,esO 0 ml,i,(AV.int .i64 ml[i].st,AV.agg (intC ml[i]),i),by simpa using g6,μ,by simpa using q2,μ,?_,?_⟩
   ·have:=A4s ml 0 i hi;simpa using this
   ·generalize hH:hp.setG B (.iter M ml.length (is ++ [i]) ml.length)=H at hj2 ⊢
    have hnx:hp.next=H.next:=by rw [←hH];rfl
    have hgH:H.gh B=some (.iter M ml.length (is ++ [i]) ml.length):=by rw [←hH];simp
    have ea:(H.alloc [AV.int IntKind.i64 0,AV.int IntKind.i64 0,S []]).get H.next=some [AV.int IntKind.i64 0,AV.int IntKind.i64 0,S []]:=Heap.A9 _ _
    simp [hzI,AV.cells,Aj,hz3,hnx,ea,intC,putN]
    have ea2:((H.alloc [AV.int IntKind.i64 0,AV.int IntKind.i64 0,S []]).put H.next (intC ml[i])).get H.next=some (intC ml[i]):=Heap.Ak ea
    have hj3:=hJp is H H.next [AV.int IntKind.i64 0,AV.int IntKind.i64 0,S []] (intC ml[i]) hj2 rfl
    have hg3:((H.alloc [AV.int IntKind.i64 0,AV.int IntKind.i64 0,S []]).put H.next (intC ml[i])).gh B=some (.iter M ml.length (is ++ [i]) ml.length):=hgH
    simp only [intC] at ea2 hj3 hg3
    generalize Heap.put (Heap.alloc H _) _ _=H2 at ea2 hj3 hg3 ⊢
    simp [g0,Ac hagg,hz3,ea2,takeN]
    have hle:(is ++ [i]).length≤ml.length:=by
     have hnd2:(is ++ [i]).Nodup:=by
      rw [List.nodup_append]
      exact ⟨hnd,μ,fun a ha b hb=>by simp at hb;subst hb;exact fun e=>hns (e ▸ ha)⟩
     have hsub:(is ++ [i]) ⊆ List.range ml.length:=by
      intro j hj
      rcases List.mem_append.1 hj with hj|hj
      ·exact List.mem_range.2 (hin j hj)
      ·simp at hj;subst hj;exact List.mem_range.2 hi
     have:=hnd2.length_le_of_subset hsub
     simpa using this
    simp at hle
    refine YSem.mono (hstep is H2 i hi hns ω hj3) ?_
    rintro _ h4 ⟨rfl,hj4,hg4⟩
    simp
    refine ⟨ml.length - (is.length+1),?_,by simpa using g0,by simpa using g6,is ++ [i],μ,hj4,?_,?_,by rw [hg4];exact hg3⟩
    ·omega
    ·rw [List.nodup_append]
     exact ⟨hnd,μ,fun a ha b hb=>by simp at hb;subst hb;exact fun e=>hns (e ▸ ha)⟩
    ·intro j hj
     rcases List.mem_append.1 hj with hj|hj
     ·exact hin j hj
     ·simp at hj;omega
 ·exact ⟨μ,μ,[],μ,hJ0,List.nodup_nil,μ,μ⟩
def mlA (ml:List IntD) (is:List Nat):List IntD:=is.map fun i=>ml[i]?.getD int0
theorem Af7 {ml:List IntD} {is:List Nat} {i:Nat} (hi:i < ml.length):mlA ml (is ++ [i])=mlA ml is ++ [ml[i]]:=by
 simp [mlA,hi]
structure AsJ (ml:List IntD) (L0:Option Lp) (mb b2 M:Nat) (is:List Nat) (h:Heap):Prop where
 lp:h.lp=L0
 k1:h.get mb=some [.gmp M]
 k2:h.gh M=some (.map (esO 0 ml) ml.length)
 ne:mb≠b2
 ex:∃ x G,h.get b2=some [x]∧CapR intC 3 x (mlA ml is) h G∧∀ b,G b→b≠mb∧b≠b2
 ln:is.length≤2 ^ 30
theorem AsJ.ext {ml:List IntD} {L0:Option Lp} {mb b2 M:Nat} {is:List Nat} {h h':Heap} (J:AsJ ml L0 mb b2 M is h) (hl:h'.lp=h.lp) (hg:h'.gh M=h.gh M) (he:∀ b,b < h.next→h'.get b=h.get b):AsJ ml L0 mb b2 M is h':=by
 obtain ⟨lp,k1,k2,ne,⟨x,G,e1,e2,e3⟩,ln⟩:=J
 exact ⟨hl.trans lp,(he mb (Heap.Ah k1)).trans k1,hg.trans k2,ne,⟨x,G,(he b2 (Heap.Ah e1)).trans e1,e2.keep fun b hb=>he b (e2.live hb),e3⟩,ln⟩
theorem Af8 {mb M:Nat} {ml:List IntD} {h:Heap} (hn:ml.length < 2 ^ 30) (hlp:h.lp=none) (k1:h.get mb=some [.gmp M]) (k2:h.gh M=some (.map (esO 0 ml) ml.length)) :
  CSem Tryz.prog 156 [.nilSl,.fn 135 [] [.ptr mb 0]] h fun x h'=>h'.lp=none∧∃ is G,CapR intC 3 x (mlA ml is) h' G∧is.Nodup∧∀ i,i∈is↔i < ml.length:=by
 refine CSem.body hm Tryz.func156 rfl κ κ (by simp [Tryz.ntmps156]) ?_
 have hzI:B7 Tryz.prog 93=some (.agg [.int .i64 0,.int .i64 0,S []]):=by kernel_rfl
 have hz3:szT Tryz.prog 93=some 3:=by kernel_rfl
 have hagg:aggT Tryz.prog 93=some true:=by kernel_rfl
 have hbs:∀ (h:Heap) (i:IntD),C8 Tryz.prog h 87 1 [(0,.agg (intC i))]=some (.sl h.next 0 1 1 3,h.alloc (intC i)):=fun h i=>by kernel_rfl
 simp [Tryz.f156,AV.cells]
 have hnl:=Heap.Ah k1
 refine M6 (gf:=135) (a:=[]) (b:=[.ptr mb 0]) (fun r hp=>rg r 2 = .ptr h.next 0∧hp=h.alloc [.nilSl]) (by simpa using hlp) μ μ ?_
 rintro id r _ hlp2 ⟨g2,rfl⟩
 generalize hH:Heap.Bp (h.alloc [.nilSl]) _=H0
 have e1:H0.get mb=some [.gmp M]:=by rw [←hH];exact Heap.Ag k1
 have e2:H0.get h.next=some [.nilSl]:=by rw [←hH];exact Heap.A9 _ _
 have e3:H0.gh M=some (.map (esO 0 ml) ml.length):=by rw [←hH];exact k2
 refine (A4t (id:=id) (mb:=mb) (M:=M) (ml:=ml) (AsJ ml H0.lp mb h.next M) ?_ ?_ ?_ ?_ ?_ ⟨rfl,e1,e3,ω,⟨.nilSl,fun _=>False,e2,.inl ⟨rfl,rfl,fun _ h=>h⟩,fun _ h=>h.elim⟩,μ⟩).mono ?_
 ·exact fun is h1 J=>⟨J.k1,J.k2⟩
 ·exact fun is h1 cs J=>J.ext rfl rfl fun b hb=>by rw [Heap.Aa,if_neg ω]
 ·exact fun is h1 n cs cs' J hn=>J.ext rfl rfl fun b hb=>by rw [Heap.Ad _ _ _ _ (by simp;omega),if_neg ω,Heap.Aa,if_neg ω]
 ·exact fun is h1 B g hB J=>J.ext rfl (by simp [Ne.symm hB]) fun b hb=>rfl
 ·intro is h1 i hi hns hil J
  obtain ⟨lp,j1,j2,ne,⟨x,G,x1,x2,x3⟩,ln⟩:=J
  have lp0:=lp
  rw [←hH] at lp
  refine YSem.of hm lp rfl ?_
  have ea:(h1.alloc [AV.int IntKind.i64 0,AV.int IntKind.i64 0,S []]).get h1.next=some [AV.int IntKind.i64 0,AV.int IntKind.i64 0,S []]:=Heap.A9 _ _
  have ln2:(is ++ [i]).length≤2 ^ 30:=by simp;omega
  have hJn:∀ b,b < h1.next→((h1.alloc [AV.int IntKind.i64 0,AV.int IntKind.i64 0,S []]).put h1.next (intC ml[i])).get b=h1.get b:=fun b hb=>by rw [Heap.Ad _ _ _ _ μ,if_neg ω,Heap.Aa,if_neg ω]
  have ea2:((h1.alloc [AV.int IntKind.i64 0,AV.int IntKind.i64 0,S []]).put h1.next (intC ml[i])).get h1.next=some (intC ml[i]):=Heap.Ak ea
  have hn2:((h1.alloc [AV.int IntKind.i64 0,AV.int IntKind.i64 0,S []]).put h1.next (intC ml[i])).next=h1.next+1:=rfl
  have hgh2:((h1.alloc [AV.int IntKind.i64 0,AV.int IntKind.i64 0,S []]).put h1.next (intC ml[i])).gh=h1.gh:=rfl
  simp [g2,hzI,AV.cells,Aj,hz3,ea,intC,putN,lp]
  simp only [intC] at hJn ea2 hn2 hgh2
  generalize Heap.put (Heap.alloc h1 _) _ _=H2 at hJn ea2 hn2 hgh2 ⊢
  have x1':=(hJn _ (Heap.Ah x1)).trans x1
  have hbs2:=fun H=>hbs H ml[i]
  simp only [intC] at hbs2
  simp [g2,x1',Ac hagg,hz3,ea2,takeN,hbs2]
  generalize hH3:Heap.Bp (Heap.alloc H2 _) _=H3
  have hJ3:∀ b,b < H2.next→H3.get b=H2.get b:=fun b hb=>by rw [←hH3,Ha,Heap.Aa,if_neg ω]
  have eb3:H3.get H2.next=some (intC ml[i]):=by rw [←hH3,Ha];exact Heap.A9 _ _
  have hn3:H3.next=H2.next+1:=by rw [←hH3];rfl
  have hlp3:=congrArg Heap.lp hH3
  simp only [Jf] at hlp3
  have hgh3:H3.gh=h1.gh:=by rw [←hgh2,←hH3];rfl
  clear hH3
  obtain ⟨x',h',G',ap,q1,q2,q3,q4,q5,q6⟩:=Np (P:=Tryz.prog) (t:=87) (xt:=87) (z:=3) (g:=intC) (h:=H3) (x:= .sl H2.next 0 1 1 3) (l2:=[ml[i]]) (ws:=x) (l:=mlA ml is) (G:=G) C0 Fk κ (x2.keep (fun b hb=>by have:=x2.live hb;rw [hJ3 b ω,hJn b this])) (by simp [mlA];simp at ln2;omega) rfl (by simp [Ca,eb3,takeN,intC])
  have hxb:H3.get h.next=some [x]:=(hJ3 _ (by have:=Heap.Ah x1;omega)).trans x1'
  have hxb':h'.get h.next=some [x]:=by rw [q3 h.next (by have:=Heap.Ah hxb;omega) (fun hg=>(x3 _ hg).2 rfl)];exact hxb
  have hxl:=Heap.Ah hxb'
  simp [ap,g2,hxb',q1.atom,q5,←hlp3]
  refine ⟨⟨by rw [←hH];rfl,?_,?_,ne,⟨x',G',?_,?_,?_⟩,ln2⟩,q6.trans hgh3⟩
  ·rw [Ha,Heap.Aq hxb' ne,q3 mb (by have:=Heap.Ah j1;omega) (fun hg=>(x3 _ hg).1 rfl),hJ3 mb (by have:=Heap.Ah j1;omega),hJn mb (Heap.Ah j1)];exact j1
  ·show h'.gh M=_
   rw [q6,hgh3];exact j2
  ·rw [Ha];exact Heap.Ak hxb'
  ·rw [Af7 hi]
   refine q1.keep fun b hb=> ?_
   rw [Ha,Heap.Aq hxb' ?_]
   rcases q2 b hb with hb|hb
   ·exact (x3 b hb).2
   ·have:=Heap.Ah hxb;omega
  ·intro b hb
   rcases q2 b hb with hb|hb
   ·exact x3 b hb
   ·have h1':=Heap.Ah j1;have h2':=Heap.Ah hxb;omega
 ·rintro x h' ⟨is,J,hnd,hall⟩
  obtain ⟨lp,j1,j2,ne,⟨x1,G,x2,x3,x4⟩,ln⟩:=J
  refine ⟨_,lp.trans (by rw [←hH];rfl),?_⟩
  simp [g2,show Heap.get ⟨h'.next,h'.tr,none,h'.gh⟩ h.next=some [x1] from x2]
  exact ⟨is,⟨G,x3.keep fun b hb=>rfl⟩,hnd,hall⟩
theorem A4u {mb M:Nat} {ml:List IntD} {h:Heap} (hn:ml.length < 2 ^ 30) (hlp:h.lp=none) (k1:h.get mb=some [.gmp M]) (k2:h.gh M=some (.map (esO 0 ml) ml.length)) :
  CSem Tryz.prog 133 [.fn 135 [] [.ptr mb 0]] h fun x h'=>h'.lp=none∧∃ is G,CapR intC 3 x (mlA ml is) h' G∧is.Nodup∧∀ i,i∈is↔i < ml.length:=by
 refine CSem.body hm Tryz.func133 rfl κ κ (by simp [Tryz.ntmps133]) ?_
 simp [Tryz.f133]
 refine (Af8 hn hlp k1 k2).then ?_
 rintro x h' hq
 simp
 simpa using hq
theorem Abr (n:Nat) (hn:n≤12) (h:Heap):CSem Tryz.prog 187 [.int .u64 n] h fun x h'=>(∃ y,x = .int .i64 y)∧h'=h:=by
 refine CSem.body hm Tryz.func187 rfl κ κ (by simp [Tryz.ntmps187]) ?_
 have h1:¬(4294967296:Int)≤n:=by omega
 have h2:¬(65536:Int)≤n:=by omega
 have h3:¬(256:Int)≤n:=by omega
 have h13:n=0∨n=1∨n=2∨n=3∨n=4∨n=5∨n=6∨n=7∨n=8∨n=9∨n=10∨n=11∨n=12:=by omega
 have hw:IntKind.u8.wrap (n:Int)=n:=by
  rcases h13 with rfl|rfl|rfl|rfl|rfl|rfl|rfl|rfl|rfl|rfl|rfl|rfl|rfl<;>decide
 simp [Tryz.f187,h1,h2,h3,hw]
 have key:∀ (L:List UInt8) (K:UInt8→Prop),13≤L.length→(∀ c,K c)→Has (L[n]?) K:=fun L K hL hK=>by
  rw [List.getElem?_eq_getElem ω,Cy];exact hK _
 refine key _ _ μ ?_
 intro c
 simp [B8]
theorem Af9 (n:Nat) (hn:n≤12) (h:Heap):CSem Tryz.prog 158 [.int .u64 n] h fun x h'=>(∃ y,x = .int .i64 y)∧h'=h:=by
 refine CSem.body hm Tryz.func158 rfl κ κ (by simp [Tryz.ntmps158]) ?_
 simp [Tryz.f158]
 refine (Abr n hn h).then ?_
 rintro _ h' ⟨⟨y,rfl⟩,rfl⟩
 simp
theorem Abs (h:Heap):CSem Tryz.prog 178 [.nilSl,.int .i64 0,.int .i64 0,.fn 100 [] []] h fun x h'=>x = .tup []∧h'=h:=by
 refine CSem.body hm Tryz.func178 rfl κ κ (by simp [Tryz.ntmps178]) ?_
 simp [Tryz.f178]
 refine Ar (fun (i:Nat) r hp=>i=1∧rg r 8 = .int .i64 1∧rg r 2 = .int .i64 0∧hp=h) (fun _=>0) ?_ 1 ?_
 ·rintro i r hp ⟨_,r8,r2,rfl⟩
  simp [r8,r2]
 ·exact ⟨rfl,by simp [show IntKind.i64.wrap 1=1 from by decide],μ,rfl⟩
theorem Aj2 {x:AV} {l:List IntD} {h:Heap} {G:Nat→Prop} (hx:CapR intC 3 x l h G) (hl:l.length≤12) (y:Int) :
  CSem Tryz.prog 157 [x,.int .i64 0,.int .i64 l.length,.int .i64 y,.fn 100 [] []] h fun y h'=> ∃ l':List IntD,l'.Perm l∧Srt l' l.length∧CapR intC 3 x l' h' G∧h'.lp=h.lp:=by
 refine CSem.body hm Tryz.func157 rfl κ κ (by simp [Tryz.ntmps157]) ?_
 have hw:IntKind.i64.wrap ((l.length:Int) - 0)=l.length:=by rw [Int.sub_zero];exact wrap64 ω ω
 have hw0:IntKind.i64.wrap (l.length:Int)=l.length:=wrap64 ω ω
 have h12:(l.length:Int)≤12:=by omega
 simp [Tryz.f157]
 refine Ar (fun (i:Nat) r hp=>rg r 0=x∧rg r 1 = .int .i64 0∧rg r 2 = .int .i64 l.length∧rg r 4 = .fn 100 [] []∧hp=h) (fun _=>0) ?_ 0 ?_
 ·rintro i r hp ⟨r0,r1,r2,r4,rfl⟩
  simp [r0,r1,r2,r4,hw,hw0,h12]
  rcases hx with ⟨rfl,rfl,h0⟩|⟨wb,c,cells,rfl,hg,hcl,hle,htk,hG⟩
  ·refine (Abs hp).then ?_
   rintro _ h' ⟨rfl,rfl⟩
   simp
   exact ⟨fun p q h1 h2=>by simp at h2,.inl ⟨rfl,rfl,h0⟩⟩
  ·have hsp:cells=(l.map intC).flatten ++ cells.drop (l.length * 3):=by rw [←htk,List.take_append_drop]
   rw [hsp] at hg
   refine (Abq (l:=l) (c:=c) ω hg).then ?_
   rintro _ h' ⟨rfl,⟨l',p1,p2,p3⟩,oth,nx,lp,gh⟩
   simp
   refine ⟨l',p1,p2,.inr ⟨wb,c,_,by rw [p1.length_eq],p3,?_,by rw [p1.length_eq];exact hle,?_,hG⟩,lp⟩
   ·have:=Es (g:=intC) (z:=3) C0 l'
    have hl3:l.length * 3≤cells.length:=by rw [hcl];exact Nat.mul_le_mul_right _ hle
    rw [List.length_append,this,List.length_drop,p1.length_eq];omega
   ·have:=Es (g:=intC) (z:=3) C0 l'
    rw [←this,List.take_left]
 ·exact ⟨μ,μ,μ,μ,rfl⟩
theorem Abt {x:AV} {l:List IntD} {h:Heap} {G:Nat→Prop} (hx:CapR intC 3 x l h G) (hl:l.length≤12) :
  CSem Tryz.prog 134 [x,.fn 100 [] []] h fun y h'=> ∃ l':List IntD,l'.Perm l∧Srt l' l.length∧CapR intC 3 x l' h' G∧h'.lp=h.lp:=by
 refine CSem.body hm Tryz.func134 rfl κ κ (by simp [Tryz.ntmps134]) ?_
 have hln:=hx.len (P:=Tryz.prog) (t:=87) κ
 have hw:IntKind.u64.wrap (l.length:Int)=l.length:=by
  have:l.length=0∨l.length=1∨l.length=2∨l.length=3∨l.length=4∨l.length=5∨l.length=6∨l.length=7∨l.length=8∨l.length=9∨l.length=10∨l.length=11∨l.length=12:=by omega
  rcases this with e|e|e|e|e|e|e|e|e|e|e|e|e<;>rw [e]<;>decide
 simp [Tryz.f134,hln,hw]
 refine (Af9 l.length hl h).then ?_
 rintro _ h1 ⟨⟨y,rfl⟩,rfl⟩
 simp
 refine (Aj2 hx hl y).then ?_
 rintro z h' hq
 simp
 exact hq
theorem Aj3 {ml:List IntD} {is:List Nat} (hall:∀ i,i∈is↔i < ml.length) (x:IntD):x∈mlA ml is↔x∈ml:=by
 constructor
 ·intro hx
  obtain ⟨i,hi,rfl⟩:=List.mem_map.1 hx
  have hl:=(hall i).1 hi
  rw [List.getElem?_eq_getElem hl]
  exact List.getElem_mem hl
 ·intro hx
  obtain ⟨i,hi,rfl⟩:=List.mem_iff_getElem.1 hx
  exact List.mem_map.2 ⟨i,(hall i).2 hi,by rw [List.getElem?_eq_getElem hi];rfl⟩
theorem Abu {ml:List IntD} {is:List Nat} (hn:StN ml) (hnd:is.Nodup) (hall:∀ i,i∈is↔i < ml.length):StN (mlA ml is):=by
 unfold StN mlA
 rw [List.map_map,List.Nodup,List.pairwise_map]
 refine List.Pairwise.imp_of_mem ?_ hnd
 intro i j hi hj hne e
 have h1:=(hall i).1 hi
 have h2:=(hall j).1 hj
 simp only [Function.comp,List.getElem?_eq_getElem h1,List.getElem?_eq_getElem h2,Option.getD_some] at e
 exact hne (hn.idx h1 h2 e)
theorem Aj4 {ml:List IntD} {is:List Nat} (hnd:is.Nodup) (hall:∀ i,i∈is↔i < ml.length):(mlA ml is).length≤ml.length:=by
 have hsub:is ⊆ List.range ml.length:=fun i hi=>List.mem_range.2 ((hall i).1 hi)
 have:=hnd.length_le_of_subset hsub
 simpa [mlA] using this
theorem A4v {mb M:Nat} {ml:List IntD} {h:Heap} (hn:ml.length≤12) (hst:StN ml) (hlp:h.lp=none) (k1:h.get mb=some [.gmp M]) (k2:h.gh M=some (.map (esO 0 ml) ml.length)) :
  CSem Tryz.prog 98 [.fn 135 [] [.ptr mb 0],.fn 100 [] []] h fun x h'=> ∃ l' G,CapR intC 3 x l' h' G∧Srt l' l'.length∧StN l'∧∀ x,x∈l'↔x∈ml:=by
 refine CSem.body hm Tryz.func98 rfl κ κ (by simp [Tryz.ntmps98]) ?_
 simp [Tryz.f98]
 refine (A4u ω hlp k1 k2).then ?_
 rintro x h1 ⟨lp1,is,G,hx,hnd,hall⟩
 simp
 have hl:=Aj4 hnd hall
 refine (Abt hx ω).then ?_
 rintro y h2 ⟨l',p1,p2,p3,p4⟩
 simp
 refine ⟨l',⟨G,p3⟩,by rw [p1.length_eq];exact p2,?_,fun x=>p1.mem_iff.trans (Aj3 hall x)⟩
 unfold StN
 exact (p1.map (fun x:IntD=>x.st)).nodup_iff.2 (Abu hst hnd hall)
theorem A4w (l:List IntD) (hl:l.length < 2 ^ 30) (hm12:(mlR l).length≤12):As Tryz.prog 70 [NL l] (NL (G6 l)):=by
 refine As.Ba (k:=3) ?_
 refine CSem.body hm Tryz.func70 rfl κ κ (by simp [Tryz.ntmps70]) ?_
 have hzI:B7 Tryz.prog 93=some (.agg [.int .i64 0,.int .i64 0,S []]):=by kernel_rfl
 have hz3:szT Tryz.prog 93=some 3:=by kernel_rfl
 have hagg:aggT Tryz.prog 93=some true:=by kernel_rfl
 have hel:(elT Tryz.prog 87).isSome=true:=by kernel_rfl
 have hez:(elT Tryz.prog 87).bind (szT Tryz.prog)=some 3:=by kernel_rfl
 have hmt:mapT Tryz.prog 147=some (1,93):=by kernel_rfl
 simp [Tryz.f70]
 rw [A4m]
 refine ⟨rfl,by rw [hmt];rfl,fun M _=> ?_⟩
 simp [Ed hel]
 refine Ar (fun (i:Nat) r hp=>i≤l.length∧rg r 3 = .gmp M∧rg r 9=NL l∧rg r 10 = .int .i64 l.length∧rg r 11 = .int .i64 i∧hp.lp=none∧hp.gh M=some (.map (esO 0 ((l.take i).foldl mlU [])) ((l.take i).foldl mlU []).length)) (l.length - ·) ?_ 0 ?_
 ·rintro i r hp ⟨le,r3,r9,r10,r11,lp,hg⟩
  rcases Nat.lt_or_eq_of_le le with hlt|heq
  ·have hlt':(i:Int) < l.length:=by omega
   have hw1:IntKind.i64.wrap ((i:Int)+1)=(i:Int)+1:=wrap64 ω ω
   have hfold:(l.take (i+1)).foldl mlU []=mlU ((l.take i).foldl mlU []) l[i]:=by rw [List.take_succ_eq_append_getElem hlt,List.foldl_append];rfl
   have hat:takeN ((l.map intC).flatten.drop (i * 3)) 0 3=some (intC l[i]):=by
    have:=Hz (g:=intC) (z:=3) C0 (rest:=[]) hlt
    rwa [List.append_nil] at this
   simp [r9,r10,r11,hlt',hlt,Et hez,Hk hagg hz3,hat,hzI,AV.cells,Aj,hz3,Heap.A9]
   generalize l[i]=v at hfold ⊢
   generalize (l.take i).foldl mlU []=ml at hg hfold
   refine ⟨⟨C0 v,List.all_eq_true.1 (Fk v)⟩,?_⟩
   have ea:(hp.alloc [AV.int IntKind.i64 0,AV.int IntKind.i64 0,S []]).get hp.next=some [AV.int IntKind.i64 0,AV.int IntKind.i64 0,S []]:=Heap.A9 _ _
   have ea2:((hp.alloc [AV.int IntKind.i64 0,AV.int IntKind.i64 0,S []]).put hp.next (intC v)).get hp.next=some (intC v):=Heap.Ak ea
   have lp2:((hp.alloc [AV.int IntKind.i64 0,AV.int IntKind.i64 0,S []]).put hp.next (intC v)).lp=none:=lp
   have hg2:((hp.alloc [AV.int IntKind.i64 0,AV.int IntKind.i64 0,S []]).put hp.next (intC v)).gh M=some (.map (esO 0 ml) ml.length):=hg
   simp only [show putN [AV.int IntKind.i64 0,AV.int IntKind.i64 0,S []] 0 (intC v)=some (intC v) from rfl,Cy]
   generalize Heap.put (Heap.alloc hp _) _ _=H at ea2 lp2 hg2 ⊢
   simp [r3,A8,ea2,intC]
   have hfx:=A4p v.st ml 0 0
   have hpl:=Heap.Ah ea2
   have upd:∀ (r5:Regs) (H5:Heap) (q:Option (Nat×AV)) (ml':List IntD),Nq 1 (.int .i64 v.st) (esO 0 ml) 0=some q→Nr (esO 0 ml) ml.length (.int .i64 v.st) (.agg (intC v)) q = .map (esO 0 ml') ml'.length→H5.gh M=some (.map (esO 0 ml) ml.length)→rg r5 31 = .gmp M→rg r5 33 = .int .i64 v.st→rg r5 34 = .agg (intC v) →
     ∀ (K:Regs→Heap→Prop),K r5 (H5.setG M (.map (esO 0 ml') ml'.length))→wpI Tryz.prog (.mapUpdate 147 (.tmp 31) (.tmp 33) (.tmp 34)) none K r5 H5:=by
    intro r5 H5 q ml' h1 h2 h3 h4 h5 h6 K hK
    rw [Yh]
    exact ⟨M,.int .i64 v.st,.agg (intC v),_,_,_,_,q,by simp [h4],by simp [h5],by simp [h6],h3,hmt,h1,by rw [h2];exact hK⟩
   cases hf:ml.findIdx? (fun y=>decide (y.st=v.st)) with
   | none =>
    rw [hf] at hfx
    have hu:mlU ml v=ml ++ [v]:=by simp [mlU,hf]
    refine Xn (by simp [r3]) μ hg2 hmt hfx (fun j w hq=>by cases hq) ?_
    intro _
    refine ⟨_,hzI,?_⟩
    have ea3:(H.alloc [AV.int IntKind.i64 0,AV.int IntKind.i64 0,S []]).get H.next=some [AV.int IntKind.i64 0,AV.int IntKind.i64 0,S []]:=Heap.A9 _ _
    have hpn:¬hp.next=H.next:=by omega
    simp [AV.cells,Aj,hz3,ea3,putN,r3,A8,Heap.Ad,Heap.Aa,hpn,ea2,intC,Ac hagg,takeN]
    refine upd _ _ none (ml ++ [v]) hfx (A4q v) (by simpa using hg2) μ μ (by simp [intC]) _ ?_
    simp [r11,hw1]
    exact ⟨i+1,ω,ω,by simpa using r3,by simpa using r9,by simpa using r10,μ,lp2,by simp [hfold,hu]⟩
   | some j =>
    rw [hf] at hfx
    obtain ⟨hj,hjst,_⟩:=List.findIdx?_eq_some_iff_getElem.1 hf
    have hget:ml[j]?.getD int0=ml[j]:=by rw [List.getElem?_eq_getElem hj];rfl
    simp only [hget,Nat.zero_add] at hfx
    have hu:mlU ml v=if ml[j].sq < v.sq then ml.set j v else ml:=by simp [mlU,hf,hj]
    have hms:=A4r hj v (.agg (intC ml[j]))
    generalize ml[j]=y at hfx hu hms
    refine Xn (by simp [r3]) μ hg2 hmt hfx ?_ (fun hq=>by cases hq)
    intro j' w hq
    cases hq
    have ea3:(H.alloc [AV.int IntKind.i64 0,AV.int IntKind.i64 0,S []]).get H.next=some [AV.int IntKind.i64 0,AV.int IntKind.i64 0,S []]:=Heap.A9 _ _
    have hpn:¬hp.next=H.next:=by omega
    by_cases hq:y.sq < v.sq
    ·rw [if_pos hq] at hu
     simp [AV.cells,Aj,hz3,ea3,putN,r3,A8,Heap.Ad,Heap.Aa,hpn,ea2,intC,Ac hagg,takeN,hq]
     refine upd _ _ (some (j,.agg (intC y))) (ml.set j v) hfx hms (by simpa using hg2) μ μ (by simp [intC]) _ ?_
     simp [r11,hw1]
     exact ⟨i+1,ω,ω,by simpa using r3,by simpa using r9,by simpa using r10,μ,lp2,by simp [hfold,hu]⟩
    ·rw [if_neg hq] at hu
     simp [AV.cells,Aj,hz3,ea3,putN,r3,A8,Heap.Ad,Heap.Aa,hpn,ea2,intC,Ac hagg,takeN,hq,r11,hw1]
     exact ⟨i+1,ω,ω,r9,r10,by push_cast;rfl,lp2,by rw [hfold,hu];exact hg2⟩
  ·subst heq
   rw [List.take_length] at hg
   have hg:hp.gh M=some (.map (esO 0 (mlR l)) (mlR l).length):=hg
   simp [r3,r9,r10,r11]
   refine (A7m M hp).then ?_
   rintro _ h1 ⟨rfl,rfl⟩
   simp
   refine (A4v (h:=hp.alloc [.gmp M]) (mb:=hp.next) (M:=M) (ml:=mlR l) hm12 (mlS l).nd lp (Heap.A9 _ _) hg).then ?_
   rintro x h2 ⟨l',G,q1,q2,q3,q4⟩
   have he:=Yj q2 q3 q4
   subst he
   simp
   exact q1.snap (k:=2) (fun x c hc=>by simp [intC] at hc;rcases hc with rfl|rfl|rfl<;>rfl) C0 (fun b cs _ hg=>hg)
 ·exact ⟨ω,μ,μ,μ,μ,μ,by simp [esO]⟩
theorem Xq (c:Cfg) (id d:Int) (secs:Tab) (k:Nat):Jz c id d secs (k+1)=Jz c id d secs k ++ Kx c id d secs k:=by
 unfold Jz
 rw [List.range_succ,List.map_append,List.flatten_append]
 simp
theorem Abv (c:Cfg) (id d:Int) (secs:Tab) (k:Nat):(Kx c id d secs k).length≤1:=by
 unfold Kx
 dsimp only
 split<;>simp
theorem Tp (c:Cfg) (id d:Int) (secs:Tab):∀ k,(Jz c id d secs k).length≤k
 | 0=>by simp [Jz]
 | k+1=>by
  have h1:=Tp c id d secs k
  have h2:=Abv c id d secs k
  rw [Xq,List.length_append];omega
theorem A4x (s:Txt):0≤(Dd s).1.sq∧(Dd s).1.sq < 2 ^ 60∧0≤(Dd s).1.st:=by
 unfold Dd
 split
 ·have h1:=Rg (s.drop 3) 7
  have h2:=Rg (irA s).2.1 2
  exact ⟨h1.1,by have:=h1.2;show (irA s).1 < 2 ^ 60;unfold irA;omega,h2.1⟩
 ·exact ⟨ν,ν,ν⟩
structure GtI (c:Cfg) (id d:Int) (secs:Tab) (k:Nat) (r:Regs) (h:Heap):Prop where
 le:k≤c.sl.toNat
 le2:k≤secs.length - 1
 r1:rg r 1 = .int .i64 id
 r2:rg r 2 = .int .i64 d
 r3:rg r 3=SL secs
 r4:rg r 4 = .ptr 0 0
 r19:rg r 19 = .int .i64 c.sl
 r20:rg r 20 = .int .i64 k
 g0:h.get 0=some [.int .i64 c.k,.int .i64 c.m,.int .i64 c.sh,.int .i64 c.st,.int .i64 c.sl]
 own:∃ G,CapR intC 3 (rg r 9) (Jz c id d secs k) h G∧¬G 0
theorem A7n (c:Cfg) (hc:Ax c) (id d:Int) (secs:Tab) (hs:secs.length < 2 ^ 40) (hs2:∀ s∈secs,s.length < 2 ^ 40):As Tryz.prog 69 [CfA c,.int .i64 id,.int .i64 d,SL secs] (NL (Dq c id d secs)):=by
 refine As.Ba (k:=3) ?_
 refine CSem.body hm Tryz.func69 rfl κ κ (by simp [Tryz.ntmps69]) ?_
 have hzI:B7 Tryz.prog 93=some (.agg [.int .i64 0,.int .i64 0,S []]):=by kernel_rfl
 have hz3:szT Tryz.prog 93=some 3:=by kernel_rfl
 have hagg:aggT Tryz.prog 93=some true:=by kernel_rfl
 have hzB:B7 Tryz.prog 113=some (.agg [.int .i64 0,.int .i64 0,.int .i64 0,.int .i64 0,S []]):=by kernel_rfl
 have hz5:szT Tryz.prog 113=some 5:=by kernel_rfl
 have haggC:aggT Tryz.prog 23=some true:=by kernel_rfl
 have hzC:szT Tryz.prog 23=some 5:=by kernel_rfl
 have hbs:∀ (h:Heap) (i:IntD),C8 Tryz.prog h 87 1 [(0,.agg (intC i))]=some (.sl h.next 0 1 1 3,h.alloc (intC i)):=fun h i=>by kernel_rfl
 have e0:(Heap.empty.alloc [.int .i64 c.k,.int .i64 c.m,.int .i64 c.sh,.int .i64 c.st,.int .i64 c.sl]).get 0=some [.int .i64 c.k,.int .i64 c.m,.int .i64 c.sh,.int .i64 c.st,.int .i64 c.sl]:=Heap.A9 Heap.empty _
 simp [Tryz.f69,CfA,AV.cells,e0,Ac haggC,hzC,takeN]
 refine (Cw c _).use ?_
 simp [hc,e0,A8]
 refine Ar (GtI c id d secs) (c.sl.toNat - ·) ?_ 0 ?_
 ·rintro k r hp ⟨le,le2,r1,r2,r3,r4,r19,r20,g0,G,w,nG⟩
  have hsl:=hc.2.2.2.2.1
  have hgl:=Tp c id d secs k
  rcases Nat.lt_or_eq_of_le le with hlt|heq
  ·have hlt':(k:Int) < c.sl:=by omega
   have hw1:IntKind.i64.wrap ((k:Int)+1)=(k:Int)+1:=wrap64 ω ω
   have hmod:(1:Int)+(k:Int) % c.sl=(k:Int)+1:=by rw [Int.emod_eq_of_lt ω hlt'];omega
   simp [r4,r19,r20,hlt',g0,Ac haggC,hzC,takeN]
   refine (Tk hc k ω hp).use ?_
   simp [hmod]
   by_cases hbr:(secs.length:Int)≤(k:Int)+1
   ·have he:Dq c id d secs=Jz c id d secs k:=by
     unfold Dq
     congr 1
     omega
    simp [r3,hbr,he]
    exact w.snap (k:=2) (fun x c hc=>by simp [intC] at hc;rcases hc with rfl|rfl|rfl<;>rfl) C0 (fun b cs _ hg=>hg)
   have hks:k+1 < secs.length:=by omega
   have hk1:(k:Int)+1 < secs.length:=by omega
   have htn:((k:Int)+1).toNat=k+1:=by omega
   have hsm:=hs2 secs[k+1] (List.getElem_mem hks)
   simp [r1,r2,r3,hbr,hk1,htn,hks,List.getElem?_eq_getElem hks,show (0:Int)≤(k:Int)+1 by omega]
   refine (A44 secs[k+1] ω id d ((k:Int)+1) hp).use ?_
   have hg1:Kx c id d secs k=if (Cm secs[k+1] id d ((k:Int)+1)).2=0∧(Dd (Cm secs[k+1] id d ((k:Int)+1)).1.tx).2=0∧1+(Dd (Cm secs[k+1] id d ((k:Int)+1)).1.tx).1.sq % c.sl=k+1∧0≤Au c (Dd (Cm secs[k+1] id d ((k:Int)+1)).1.tx).1.st then [(Dd (Cm secs[k+1] id d ((k:Int)+1)).1.tx).1] else []:=by
    unfold Kx
    rw [List.getElem?_eq_getElem hks]
    rfl
   have hbl:=Tm secs[k+1] id d ((k:Int)+1)
   have hsuc:=Xq c id d secs k
   rw [hg1] at hsuc
   simp only [A43]
   generalize Cm secs[k+1] id d ((k:Int)+1)=g at hsuc hbl
   obtain ⟨b,e⟩:=g
   simp only at hsuc hbl
   simp [BlkA,hzB,AV.cells,Aj,hz5,putN,Heap.Aa,Heap.Ad]
   generalize hH1:Heap.put (Heap.alloc hp _) _ _=H1
   have E1:Ext hp H1:=by rw [←hH1];exact ((Ext.refl hp).alloc _).put (Nat.le_refl _) _
   have m1:H1.get hp.next=some [.int .i64 b.ar,.int .i64 b.dk,.int .i64 b.pl,.int .i64 b.ep,S b.tx]:=by rw [←hH1,Heap.Ad _ _ _ _ μ,if_pos rfl]
   clear hH1
   have w1:=w.keep fun b hb=>E1.get b (w.live hb)
   by_cases he:e=0
   rotate_left
   ·rw [if_neg (fun h=>he h.1),List.append_nil] at hsuc
    simp [he,r20,hw1]
    exact ⟨k+1,ω,ω,ω,by simpa using r1,by simpa using r2,by simpa using r3,by simpa using r4,by simpa using r19,μ,E1.got g0,G,by rw [hsuc];simpa using w1,nG⟩
   subst he
   simp [m1,A8]
   refine (A7b b.tx ω H1).use ?_
   have hsq:=A4x b.tx
   simp only [Qm,IntA]
   generalize Dd b.tx=g at hsuc hsq
   obtain ⟨x,e2⟩:=g
   simp only at hsuc hsq
   simp [hzI,AV.cells,Aj,hz3,putN,Heap.Aa,Heap.Ad]
   generalize hH2:Heap.put (Heap.alloc H1 _) _ _=H2
   have E2:Ext H1 H2:=by rw [←hH2];exact ((Ext.refl H1).alloc _).put (Nat.le_refl _) _
   have m2:H2.get H1.next=some (intC x):=by rw [←hH2,Heap.Ad _ _ _ _ μ,if_pos rfl];rfl
   clear hH2
   have w2:=w1.keep fun b hb=>E2.get b (w1.live hb)
   have g02:=E2.got (E1.got g0)
   have cont:∀ r3:Regs,rg r3 1 = .int .i64 id→True:=fun _ _=>trivial
   by_cases he2:e2=0
   rotate_left
   ·rw [if_neg (fun h=>he2 h.2.1),List.append_nil] at hsuc
    simp [he2,r20,hw1]
    exact ⟨k+1,ω,ω,ω,by simpa using r1,by simpa using r2,by simpa using r3,by simpa using r4,by simpa using r19,μ,g02,G,by rw [hsuc];simpa using w2,nG⟩
   subst he2
   simp [r4,g02,Ac haggC,hzC,takeN,A8,m2,intC]
   refine (Tk hc x.sq hsq.1 H2).use ?_
   by_cases hsl2:1+x.sq % c.sl=(k:Int)+1
   rotate_left
   ·rw [if_neg (fun h=>hsl2 h.2.2.1),List.append_nil] at hsuc
    simp [hsl2,r20,hw1]
    exact ⟨k+1,ω,ω,ω,by simpa using r1,by simpa using r2,by simpa using r3,by simpa using r4,by simpa using r19,μ,g02,G,by rw [hsuc];simpa using w2,nG⟩
   simp [hsl2,r4,g02,Ac haggC,hzC,takeN,A8,m2,intC]
   refine (L6 hc x.st H2).use ?_
   by_cases hst:0≤Au c x.st
   rotate_left
   ·rw [if_neg (fun h=>hst h.2.2.2),List.append_nil] at hsuc
    simp [hst,r20,hw1]
    exact ⟨k+1,ω,ω,ω,by simpa using r1,by simpa using r2,by simpa using r3,by simpa using r4,by simpa using r19,μ,g02,G,by rw [hsuc];simpa using w2,nG⟩
   rw [if_pos ⟨by trivial,by trivial,hsl2,hst⟩] at hsuc
   have hbs2:=fun H=>hbs H x
   have eb3:(H2.alloc (intC x)).get H2.next=some (intC x):=Heap.A9 _ _
   obtain ⟨x',h',G',ap,q1,q2,q3,q4,q5,q6⟩:=Np (P:=Tryz.prog) (t:=87) (xt:=87) (z:=3) (g:=intC) (h:=H2.alloc (intC x)) (x:= .sl H2.next 0 1 1 3) (l2:=[x]) (ws:=rg r 9) (l:=Jz c id d secs k) (G:=G) C0 Fk κ (w2.keep (fun b hb=>by have:=w2.live hb;rw [Heap.Aa,if_neg ω])) (by simp;omega) rfl (by simp only [Ca,eb3];rfl)
   simp only [intC] at hbs2 ap
   simp [hst,m2,intC,Ac hagg,hz3,takeN,hbs2,ap,r20,hw1]
   have g03:(H2.alloc (intC x)).get 0=some [.int .i64 c.k,.int .i64 c.m,.int .i64 c.sh,.int .i64 c.st,.int .i64 c.sl]:=Heap.Ag g02
   refine ⟨k+1,ω,ω,ω,by simpa using r1,by simpa using r2,by simpa using r3,by simpa using r4,by simpa using r19,μ,?_,G',by rw [hsuc];simpa using q1,fun h0=> ?_⟩
   ·rw [q3 0 (by have:=Heap.Ah g03;omega) nG];exact g03
   ·rcases q2 0 h0 with h0|h0
    ·exact nG h0
    ·have:=Heap.Ah g03;omega
  ·have he:Dq c id d secs=Jz c id d secs k:=by
    unfold Dq
    congr 1
    omega
   have hnl:¬(k:Int) < c.sl:=by omega
   simp [r19,r20,hnl,he]
   exact w.snap (k:=2) (fun x c hc=>by simp [intC] at hc;rcases hc with rfl|rfl|rfl<;>rfl) C0 (fun b cs _ hg=>hg)
 ·exact ⟨ω,ω,μ,μ,μ,μ,μ,μ,e0,fun _=>False,.inl ⟨μ,by simp [Jz],fun _ h=>h⟩,fun h=>h⟩
theorem A24:∀ (l:List IntD) {ml:List IntD},StN ml→∀ y∈l.foldl mlU ml,y∈ml∨y∈l
 | [],ml,_,y,hy=> .inl hy
 | x :: l,ml,h,y,hy=>by
  rcases A24 l (A06 h x) y hy with h1|h1
  ·rcases (A95 h x y).1 h1 with ⟨h2,_⟩|⟨rfl,_⟩|⟨h2,_⟩
   ·exact .inl h2
   ·exact .inr (List.mem_cons_self ..)
   ·exact .inl h2
  ·exact .inr (List.mem_cons_of_mem _ h1)
theorem Afa {c:Cfg} {id d:Int} {secs:Tab} {k:Nat} : ∀ x∈Kx c id d secs k,0≤x.st∧x.st < c.st∧0≤x.sq∧x.sq < 2 ^ 60:=by
 intro x hx
 unfold Kx at hx
 dsimp only at hx
 split at hx
 ·rename_i h
  simp at hx
  subst hx
  have h4:=h.2.2.2
  have hs:=A4x (Cm (secs[k+1]?.getD []) id d (k+1)).1.tx
  unfold Au at h4
  split at h4
  ·rename_i h5;exact ⟨h5.1,h5.2,hs.1,hs.2.1⟩
  ·omega
 ·cases hx
theorem Xr {a:Arr} {id:Int} {c:Cfg} {ds:List Int} : ∀ x∈Dz a id c ds,0≤x.st∧x.st < c.st∧0≤x.sq∧x.sq < 2 ^ 60:=by
 intro x hx
 obtain ⟨l,hl,hx⟩:=List.mem_flatten.1 hx
 obtain ⟨d,_,rfl⟩:=List.mem_map.1 hl
 obtain ⟨l,hl,hx⟩:=List.mem_flatten.1 hx
 obtain ⟨k,_,rfl⟩:=List.mem_map.1 hl
 exact Afa x hx
theorem Abw {l:List IntD} {n:Nat} (h:∀ x∈l,0≤x.st∧x.st < n):(mlR l).length≤n:=by
 have hm:∀ x∈mlR l,0≤x.st∧x.st < n:=fun x hx=>by
  rcases A24 l (show StN [] from List.nodup_nil) x hx with h1|h1
  ·cases h1
  ·exact h x h1
 have hnd:((mlR l).map fun x=>x.st.toNat).Nodup:=by
  rw [List.Nodup,List.pairwise_map]
  have:=(mlS l).nd
  unfold StN at this
  rw [List.Nodup,List.pairwise_map] at this
  refine List.Pairwise.imp_of_mem ?_ this
  intro a b ha hb hne e
  have h1:=hm a ha
  have h2:=hm b hb
  omega
 have hsub:((mlR l).map fun x=>x.st.toNat) ⊆ List.range n:=by
  intro y hy
  obtain ⟨x,hx,rfl⟩:=List.mem_map.1 hy
  have:=hm x hx
  exact List.mem_range.2 ω
 have:=hnd.length_le_of_subset hsub
 simpa using this
theorem A7p (a:Arr) (id:Int) (c:Cfg) (ds:List Int) {i:Nat} (hi:i < ds.length):Dz a id c (ds.take (i+1))=Dz a id c (ds.take i) ++ Dq c id ds[i] (Gr a ds[i] (1+c.sl+c.st).toNat):=by
 unfold Dz
 rw [List.take_succ_eq_append_getElem hi,List.map_append,List.flatten_append]
 simp
theorem U7 {c:Cfg} (hc:Ax c) (id d:Int) (secs:Tab):(Dq c id d secs).length≤16:=by
 have:=Tp c id d secs (min c.sl.toNat (secs.length - 1))
 have h2:=hc.2.2.2.2.1
 unfold Dq
 omega
theorem A07 {a:Arr} {id:Int} {c:Cfg} (hc:Ax c):∀ ds:List Int,(Dz a id c ds).length≤16 * ds.length
 | []=>by simp [Dz]
 | d :: ds=>by
  have h1:=A07 (a:=a) (id:=id) hc ds
  have h2:=U7 hc id d (Gr a d (1+c.sl+c.st).toNat)
  unfold Dz at h1 ⊢
  rw [List.map_cons,List.flatten_cons,List.length_append,List.length_cons];omega
theorem Lk (a:Arr) (d:Int) (n:Nat):(Gr a d n).length=n:=by simp [Gr]
structure InO (pv:Nat) (a:Arr) (id:Int) (c:Cfg) (jn:List Int) (h:Heap) (i:Nat) (r:Regs) (hp:Heap):Prop where
 le:i≤jn.length
 r0:rg r 0 = .ptr pv 0
 r15:rg r 15=IL jn
 r16:rg r 16 = .int .i64 jn.length
 r17:rg r 17 = .int .i64 i
 E:Ext h hp
 own:∃ G,CapR intC 3 (rg r 3) (Dz a id c (jn.take i)) hp G∧∀ b,G b→h.next≤b
structure InI (pv:Nat) (a:Arr) (id:Int) (c:Cfg) (jn:List Int) (h:Heap) (i:Nat) (d:Int) (n sb:Nat) (x3:AV) (G:Nat→Prop) (h1:Heap) (p:Nat) (r:Regs) (hp:Heap):Prop where
 le:p≤n
 r0:rg r 0 = .ptr pv 0
 r15:rg r 15=IL jn
 r16:rg r 16 = .int .i64 jn.length
 r17:rg r 17 = .int .i64 i
 r3:rg r 3=x3
 r5:rg r 5 = .int .i64 d
 r6:rg r 6 = .sl sb 0 n n 1
 r28:rg r 28 = .int .i64 n
 r29:rg r 29 = .int .i64 p
 g:hp.get sb=some ((mid (Gr a d n) (List.replicate n ([]:Txt)) p).map S)
 oth:∀ b,b≠sb→hp.get b=h1.get b
 nx:hp.next=h1.next
 lp:hp.lp=h1.lp
 gh:hp.gh=h1.gh
section
variable {pa q n:Nat} {cells:List AV} {ps:List Nat} {a:Arr} {R:Nat→Prop} {h:Heap} {pv:Nat} {c:Cfg} {id sq:Int} {k:Nat}
theorem A25 (B:VolB k a c) (hst:c.st≤12) (hv:h.get pv=some (volC pa c id sq)) (A:At (ArrI pa q n cells ps a) R h) (hlp:h.lp=none) :
  CSem Tryz.prog 44 [.ptr pv 0] h fun x h'=>x=NL (C4 a id c)∧h'=h:=by
 refine CSem.frz (k:=3) (Q:=fun x=>x=NL (C4 a id c)) ?_
 refine CSem.body hm Tryz.func44 rfl κ κ (by simp [Tryz.ntmps44]) ?_
 have hfew:=B.arr.few
 have hW:∀ d∈a.disks,d.waits.length < 2 ^ 40:=fun d hd=>by have:=(B.arr.disks d hd).few;have:=B.few;omega
 have haggC:aggT Tryz.prog 23=some true:=by kernel_rfl
 have hzC:szT Tryz.prog 23=some 5:=by kernel_rfl
 have hm0:=B.cf.1.1
 have hm1:=B.cf.1.2.1
 have hm2:=B.cf.1.2.2
 have hsl:=B.cf.2.2.2.2.1
 have hst1:=B.cf.2.2.2.1
 have hw1:IntKind.i64.wrap (c.m+1)=c.m+1:=wrap64 ω ω
 simp [Tryz.f44,A8,hv,volC,hw1]
 refine (S0 hv A (c.m+1) ω ω).use ?_
 simp
 have hjl:=D5 a (c.m+1).toNat
 have hI:C4 a id c=G6 (Dz a id c (Ab a (c.m+1).toNat)):=rfl
 rw [hI]
 generalize Ab a (c.m+1).toNat=jn at hjl
 refine Ar (InO pv a id c jn h) (jn.length - ·) ?_ 0 ?_
 ·rintro i r hp ⟨le,r0,r15,r16,r17,E,G,w,hG⟩
  have hvp:=E.got hv
  have hil:=A07 (a:=a) (id:=id) B.cf (jn.take i)
  rcases Nat.lt_or_eq_of_le le with hlt|heq
  ·have hlt':(i:Int) < jn.length:=by omega
   have hw2:IntKind.i64.wrap ((i:Int)+1)=(i:Int)+1:=wrap64 ω ω
   have hsuc:=A7p a id c jn hlt
   simp [r0,r15,r16,r17,hlt',hlt,List.getElem?_eq_getElem hlt,show I64 jn[i]=AV.int .i64 jn[i] from rfl,A8,hvp,volC,Ac haggC,hzC,takeN]
   generalize jn[i]=d at hsuc ⊢
   refine (A20 B.cf hp).use ?_
   obtain ⟨N,hN⟩:∃ N:Nat,(1+c.sl+c.st).toNat=N:=⟨_,rfl⟩
   have hNi:1+c.sl+c.st=(N:Int):=by omega
   rw [hN] at hsuc
   simp [hNi]
   refine ⟨ω,?_⟩
   have hnn:(List.replicate N (S []))=(List.replicate N ([]:Txt)).map S:=by rw [List.map_replicate]
   have e1:(hp.alloc (List.replicate N (S []))).get hp.next=some (List.replicate N (S [])):=Heap.A9 _ _
   have E1:Ext hp (hp.alloc (List.replicate N (S []))):=(Ext.refl hp).alloc _
   have hn1:(hp.alloc (List.replicate N (S []))).next=hp.next+1:=rfl
   generalize hp.alloc (List.replicate N (S []))=H1 at e1 E1 hn1 ⊢
   have hsl2:=Lk a d N
   have hsl3:(Gr a d N).length=(List.replicate N ([]:Txt)).length:=by simp [hsl2]
   refine Ar (InI pv a id c jn h i d N hp.next (rg r 3) G H1) (N - ·) ?_ 0 ?_
   ·rintro p r2 h2 ⟨le,r0,r15,r16,r17,r3,r5,r6,r28,r29,g,oth,nx,lp,gh⟩
    have E2:Ext h h2:=⟨by have:=E.next;omega,lp.trans (E1.lp.trans E.lp),gh.trans (E1.gh.trans E.gh),fun b hb=>by rw [oth b (by have:=E.next;omega),E1.get b (by have:=E.next;omega)];exact E.get b hb⟩
    have hv2:=E2.got hv
    have A2:=A.ext (ArrI.loc pa q n cells ps a) E2
    rcases Nat.lt_or_eq_of_le le with hlt2|heq2
    ·have hlt2':(p:Int) < N:=by omega
     have hw3:IntKind.i64.wrap ((p:Int)+1)=(p:Int)+1:=wrap64 ω ω
     simp [r0,r5,r6,r28,r29,hlt2',A8,hv2,volC]
     refine (Zr A2 hW (by rw [E2.lp];exact hlp) d p).use ?_
     have hz:(Gr a d N)[p]? = some (a.read d p).1:=by simp [Gr,hlt2]
     have hms:=Gm hsl3 (i:=p) (by simpa using hlt2) hz
     have hml:=H8 hsl3 (i:=p) (by simpa using le)
     simp [rdA,g,r6,r29,hw3,hlt2,hlt2',hml,←List.map_set,hms]
     refine ⟨p+1,ω,ω,by simpa using r0,by simpa using r15,by simpa using r16,by simpa using r17,by simpa using r3,by simpa using r5,by simpa using r6,by simpa using r28,μ,?_,fun b hb=> ?_,nx,lp,gh⟩
     ·exact Heap.Ak g
     ·rw [Heap.Aq g hb];exact oth b hb
    ·have hpN:p=N:=heq2
     subst hpN
     have hmf:=F7 hsl3
     rw [List.length_replicate] at hmf
     rw [hmf] at g
     simp [r28,r29]
     refine Br 12 κ ?_
     have hss:∀ s∈Gr a d p,s.length < 2 ^ 40:=fun s hs=>by
      obtain ⟨j,_,rfl⟩:=List.mem_map.1 hs
      have:=B.q.short d j;omega
     simp [r0,r3,r5,r6,A8,hv2,volC,Ac haggC,hzC,takeN]
     refine D7.use (x:=NL (Dq c id d (Gr a d p))) ((A7n c B.cf id d (Gr a d p) (by rw [hsl2];omega) hss).call (k:=3) (by
      have:=F8 (h:=h2) (al:=true) (k:=2) (f:=S) (b:=hp.next) (n:=p) (c:=p) (l:=Gr a d p) g hsl2.symm (fun _=>rfl)
      simp [this,CfA])) ?_
     have hgl:=U7 B.cf id d (Gr a d p)
     have w2:CapR intC 3 (rg r 3) (Dz a id c (jn.take i)) h2 G:=w.keep fun b hb=>by
      have:=w.live hb
      rw [oth b ω,E1.get b this]
     obtain ⟨x',h',G',ap,q1,q2,q3,q4,q5,q6⟩:=Np (P:=Tryz.prog) (t:=87) (xt:=87) (z:=3) (g:=intC) (h:=h2) (x:=NL (Dq c id d (Gr a d p))) (l2:=Dq c id d (Gr a d p)) (ws:=rg r 3) (l:=Dz a id c (jn.take i)) (G:=G) C0 Fk κ w2 (by simp at hil;omega) rfl (by
      have:=Es (g:=intC) (z:=3) C0 (Dq c id d (Gr a d p))
      simp only [Ca,TR,takeN,Nat.zero_add,this]
      rw [if_pos (Nat.le_refl _),List.drop_zero,List.take_of_length_le (by rw [this];exact Nat.le_refl _)])
     simp [r3,ap,r17,hw2]
     refine ⟨i+1,ω,ω,by simpa using r0,by simpa using r15,by simpa using r16,μ,⟨?_,q5.trans E2.lp,q6.trans E2.gh,fun b hb=> ?_⟩,G',by rw [hsuc];simpa using q1,fun b hb=> ?_⟩
     ·have:=E2.next;omega
     ·rw [q3 b (by have:=E2.next;omega) (fun hg=>by have:=hG b hg;omega)];exact E2.get b hb
     ·rcases q2 b hb with hb|hb
      ·exact hG b hb
      ·have:=E2.next;omega
   ·exact ⟨ω,by simp [r0],by simp [r15],by simp [r16],by simp [r17],μ,μ,μ,μ,μ,by rw [e1,Ve,hnn],fun _ _=>rfl,rfl,rfl,rfl⟩
  ·subst heq
   rw [List.take_length] at w hil
   simp [r16,r17]
   refine ((A4w (Dz a id c jn) ω (by
    have:=Abw (l:=Dz a id c jn) (n:=c.st.toNat) (fun x hx=>by have:=Xr x hx;omega)
    omega)).call (k:=3) (by
     have:=w.snap (h':=hp) (k:=2) (al:=true) (fun x=>A04 x) C0 (fun b cs _ hg=>hg)
     simp [this])).use ?_
   simp
   exact E
 ·exact ⟨ω,μ,μ,μ,μ,Ext.refl h,fun _=>False,.inl ⟨μ,by simp [Dz],fun _ h=>h⟩,fun _ h=>h.elim⟩
end
theorem Abx {s:Txt} (h:(Ga s).2=0):Ax (Ga s).1:=by
 unfold Ga at h ⊢
 split
 ·rename_i h1;exact h1.2.2
 ·rename_i h1;rw [if_neg h1] at h;cases h
theorem A4y {a:Arr} {id:Int} {c:Cfg} : ∀ {ds:List Int},N9 a id ds=some c→Ax c∧c.k+c.m=a.disks.length
 | [],h=>by cases h
 | d :: ds,h=>by
  unfold N9 at h
  split at h
  ·rename_i h1
   cases h
   have hc:=Abx h1.2.1
   refine ⟨hc,?_⟩
   have:=h1.2.2
   unfold C7 at this
   rwa [if_pos hc] at this
  ·exact A4y h
theorem A7q (s:Txt):(Dd s).1.tx.length≤s.length:=by
 unfold Dd
 split
 ·show (irC s).1.length≤s.length
  have h1:=A02 (irB s).2.1
  have h2:=Je (irA s).2.1 2
  have h3:=Je (s.drop 3) 7
  have h4:(s.drop 3).length≤s.length:=by simp
  unfold irC irB irA at *
  omega
 ·simp [int0]
theorem Afb {c:Cfg} {id d:Int} {secs:Tab} {k N:Nat} (hs:∀ s∈secs,s.length≤N):∀ x∈Kx c id d secs k,x.tx.length≤N:=by
 intro x hx
 unfold Kx at hx
 dsimp only at hx
 split at hx
 ·simp at hx
  subst hx
  refine Nat.le_trans (A7q _) (Nat.le_trans (Tm _ _ _ _) ?_)
  cases h:secs[k+1]? with
  | none=>simp
  | some s=>exact hs s (List.mem_of_getElem? h)
 ·cases hx
theorem Afc {k:Nat} {a:Arr} (Q:ArrQ k a) {id:Int} {c:Cfg} {ds:List Int} : ∀ x∈Dz a id c ds,x.tx.length≤4096:=by
 intro x hx
 obtain ⟨l,hl,hx⟩:=List.mem_flatten.1 hx
 obtain ⟨d,_,rfl⟩:=List.mem_map.1 hl
 obtain ⟨l,hl,hx⟩:=List.mem_flatten.1 hx
 obtain ⟨j,_,rfl⟩:=List.mem_map.1 hl
 refine Afb (fun s hs=> ?_) x hx
 obtain ⟨p,_,rfl⟩:=List.mem_map.1 hs
 exact Q.short d p
theorem Ns (l:List IntD):∀ x∈G6 l,x∈l:=by
 intro x hx
 have h1:=((mlS l).me x).2 hx
 rcases A24 l (show StN [] from List.nodup_nil) x h1 with h|h
 ·cases h
 ·exact h
theorem StN.short {l:List IntD} (hn:StN l) {n:Nat} (h:∀ x∈l,0≤x.st∧x.st < n):l.length≤n:=by
 have hnd:(l.map fun x=>x.st.toNat).Nodup:=by
  rw [List.Nodup,List.pairwise_map]
  unfold StN at hn
  rw [List.Nodup,List.pairwise_map] at hn
  refine List.Pairwise.imp_of_mem ?_ hn
  intro a b ha hb hne e
  have h1:=h a ha
  have h2:=h b hb
  omega
 have hsub:(l.map fun x=>x.st.toNat) ⊆ List.range n:=by
  intro y hy
  obtain ⟨x,hx,rfl⟩:=List.mem_map.1 hy
  have:=h x hx
  exact List.mem_range.2 ω
 have:=hnd.length_le_of_subset hsub
 simpa using this
theorem Yk {l:List IntD} {n:Nat} (h:∀ x∈l,0≤x.st∧x.st < n):(G6 l).length≤n :=
 (mlS l).so.nodup.short fun x hx=>h x (Ns l x hx)
theorem N8:∀ {l:List Int},l≠[]→maxL l∈l
 | [],h=>(h rfl).elim
 | [a],_=>by simp [maxL]
 | a :: b :: l,_=>by
  have ih:=N8 (l:=b :: l) μ
  show max a (maxL (b :: l))∈_
  by_cases h:a≤maxL (b :: l)
  ·rw [Int.max_eq_right h];exact List.mem_cons_of_mem _ ih
  ·rw [Int.max_eq_left ω];exact List.mem_cons_self ..
theorem Aj5 (a:Arr) (id:Int) (c:Cfg) (n:Int):∀ e∈stE a id c n,-1≤e:=by
 intro e he
 obtain ⟨p,hp,rfl⟩:=List.mem_map.1 he
 obtain ⟨d,_,rfl⟩:=List.mem_map.1 hp
 unfold Cz
 split
 ·show -1≤(Cn a id d (Au c n)).1.ep
  unfold Cn
  split
  ·unfold Cm
   dsimp only
   split
   ·have h3:0≤opVl (a.read d (Au c n)).1 3:=(Rg _ _).1
    unfold Dy
    split
    ·decide
    ·split
     ·decide
     ·split
      ·decide
      ·split
       ·decide
       ·split
        ·decide
        ·show -1≤opVl (a.read d (Au c n)).1 3;omega
   ·show (-1:Int)≤0;decide
  ·decide
 ·decide
theorem A97 (a:Arr) (id:Int) (c:Cfg) (h1:0 < a.disks.length) {s:Int} (hs : -1≤s∧s < 2 ^ 62):∀ n,-1≤seqR a id c n s∧seqR a id c n s < 2 ^ 62
 | 0=>hs
 | n+1=>by
  have ih:=A97 a id c h1 hs n
  have hne:stE a id c n≠[]:=fun e=>by have:=Ry a id c n;rw [e] at this;simp at this;omega
  have hm:=N8 hne
  have h2:=Aj5 a id c n _ hm
  have h3:=Abg a id c n _ hm
  show -1≤max (seqR a id c n s) (maxL (stE a id c n))∧max (seqR a id c n s) (maxL (stE a id c n)) < 2 ^ 62
  omega
theorem Afd {l:List IntD} (h:∀ x∈l,0≤x.sq∧x.sq < 2 ^ 60):0≤Cj l∧Cj l < 2 ^ 61:=by
 unfold Cj
 split
 ·decide
 ·rename_i h0
  have hm:=N8 (l:=l.map (·.sq)) (by simpa using h0)
  obtain ⟨x,hx,e⟩:=List.mem_map.1 hm
  have:=h x hx
  rw [←e]
  omega
theorem A1s {id:Int} {c:Cfg} {all:List Int} : ∀ (l:List IntD) {k:Nat} {a:Arr},ArrQ k a→ArrQ (k+l.length * all.length) (D4 id c all a l).1
 | [],k,a,h=>by simpa [D4] using h
 | x :: l,k,a,h=>by
  have hm:k+all.length+l.length * all.length=k+(x :: l).length * all.length:=by rw [List.length_cons,Nat.add_mul,Nat.one_mul];omega
  rw [D4]
  split
  ·exact (A1s l h).mono ω
  ·dsimp only
   split
   ·exact (A1s l (M9 h id c x.st (x.sq+1) x.tx all)).mono ω
   ·exact (M9 h id c x.st (x.sq+1) x.tx all).mono ω
@[simp] theorem A08 {id:Int} {c:Cfg} {all:List Int} : ∀ (l:List IntD) (a:Arr),(D4 id c all a l).1.disks.length=a.disks.length
 | [],a=>rfl
 | x :: l,a=>by
  rw [D4]
  split
  ·exact A08 l a
  ·dsimp only
   split
   ·rw [A08 l];simp
   ·simp
structure Afe (pa q n:Nat) (cells:List AV) (ps:List Nat) (id:Int) (R:Nat→Prop) (h:Heap) (o:Aey) (x:AV) (h':Heap):Prop where
 keep:Keep R h h'
 at_:At (ArrI pa q n cells ps o.ar) R h'
 none:o.vo=none→x = .tup [.nilPtr,.int .i64 o.er]
 some:∀ c s,o.vo=some (c,s)→∃ pv,x = .tup [.ptr pv 0,.int .i64 o.er]∧h.next≤pv∧h'.get pv=some (volC pa c id s)∧At (ArrI pa q n cells ps o.ar) (fun b=>R b∨b=pv) h'
structure OpS (pa q n:Nat) (cells:List AV) (ps:List Nat) (id:Int) (c:Cfg) (a:Arr) (all:List Int) (nw:List IntD) (s0:Int) (R:Nat→Prop) (h:Heap) (pv:Nat) (i:Nat) (r:Regs) (hp:Heap):Prop where
 le:i≤c.st.toNat
 r0:rg r 0 = .ptr pa 0
 r6:rg r 6 = .ptr pv 0
 r7:rg r 7=IL all
 r8:rg r 8=NL nw
 r46:rg r 46 = .int .i64 c.st
 r47:rg r 47 = .int .i64 i
 gv:hp.get pv=some (volC pa c id (seqR a id c i s0))
 A:At (ArrI pa q n cells ps a) (fun b=>R b∨b=pv) hp
 K:Keep R h hp
structure OpR (pa q n:Nat) (cells:List AV) (ps:List Nat) (id:Int) (c:Cfg) (a0:Arr) (all:List Int) (nw:List IntD) (s:Int) (k:Nat) (R:Nat→Prop) (h:Heap) (pv:Nat) (i:Nat) (r:Regs) (hp:Heap):Prop where
 le:i≤nw.length
 r0:rg r 0 = .ptr pa 0
 r6:rg r 6 = .ptr pv 0
 r7:rg r 7=IL all
 r64:rg r 64=NL nw
 r65:rg r 65 = .int .i64 nw.length
 r66:rg r 66 = .int .i64 i
 gv:hp.get pv=some (volC pa c id s)
 ex:∃ a,D4 id c all a0 nw=D4 id c all a (nw.drop i)∧At (ArrI pa q n cells ps a) (fun b=>R b∨b=pv) hp∧ArrQ (k+i * all.length) a∧a.disks.length=a0.disks.length
 K:Keep R h hp
section
variable {pa q n:Nat} {cells:List AV} {ps:List Nat} {a:Arr} {R:Nat→Prop} {h:Heap} {id:Int} {k:Nat}
theorem Aat (Q:ArrQ k a) (hk:k < 2 ^ 26) (hst:∀ c,Kw a id=some c→c.st≤12) (hid:id < 2 ^ 62) (A:At (ArrI pa q n cells ps a) R h) (hlp:h.lp=none) :
  CSem Tryz.prog 24 [.ptr pa 0,.int .i64 id] h fun x h'=>Afe pa q n cells ps id R h (Bc a id) x h':=by
 refine CSem.body hm Tryz.func24 rfl κ κ (by simp [Tryz.ntmps24]) ?_
 have hfew:=Q.b.few
 have hone:=Q.b.one
 have hRl:∀ b,R b→b < h.next:=fun b hb=>A.lt hb
 have hbv:Ct Tryz.prog 85 [(0,.ptr pa 0),(2,.int .i64 id)]=some (.agg (volC pa cfg0 id 0)):=by kernel_rfl
 have hpx:∀ (l:Tab) (es:List Int),Zq Tryz.prog 74 [SL l,IL es] 1=some (IL es):=fun l es=>by kernel_rfl
 have hel3:(elT Tryz.prog 87).isSome=true:=by kernel_rfl
 have hez3:(elT Tryz.prog 87).bind (szT Tryz.prog)=some 3:=by kernel_rfl
 have hzI:B7 Tryz.prog 93=some (.agg [.int .i64 0,.int .i64 0,S []]):=by kernel_rfl
 have hz3:szT Tryz.prog 93=some 3:=by kernel_rfl
 have hagg3:aggT Tryz.prog 93=some true:=by kernel_rfl
 have hzS:B7 Tryz.prog 76=some (.agg [.nilSl,.nilSl]):=by kernel_rfl
 have hz2:szT Tryz.prog 76=some 2:=by kernel_rfl
 have haggS:aggT Tryz.prog 76=some true:=by kernel_rfl
 simp [Tryz.f24,hbv]
 refine ⟨fun x hx=>List.all_eq_true.1 (show (volC pa cfg0 id 0).all AV.atom=true from rfl) x hx,?_⟩
 have hcl:(AV.agg (volC pa cfg0 id 0)).cells=volC pa cfg0 id 0:=rfl
 rw [hcl]
 have gv0:(h.alloc (volC pa cfg0 id 0)).get h.next=some (volC pa cfg0 id 0):=Heap.A9 _ _
 have E0:Ext h (h.alloc (volC pa cfg0 id 0)):=(Ext.refl h).alloc _
 have A0:At (ArrI pa q n cells ps a) (fun b=>R b∨b=h.next) (h.alloc (volC pa cfg0 id 0)):=A.alloc (ArrI.loc pa q n cells ps a) _
 generalize h.alloc (volC pa cfg0 id 0)=H0 at gv0 E0 A0 ⊢
 refine (Hj A0).use ?_
 by_cases hdn:a.down=true
 ·have ho:Bc a id=⟨a,none,9⟩:=by simp [Bc,hdn]
  simp [hdn,ho]
  exact ⟨E0.keep hRl,A0.mono fun b hb=> .inl hb,fun _=>rfl,fun c s h=>by cases h⟩
 simp [hdn]
 refine (Abj Q ω gv0 A0 (.inr rfl) (by rw [E0.lp];exact hlp)).then ?_
 rintro _ H1 ⟨rfl,A1,K1,gv1⟩
 have K01:Keep R h H1:=(E0.keep hRl).trans (K1.mono fun b hb=>⟨.inl hb,fun e=>by have:=hRl b hb;omega⟩)
 cases hh:Kw a id with
 | none =>
  have ho:Bc a id=⟨a,none,10⟩:=by simp [Bc,hdn,hh]
  simp [ho]
  exact ⟨K01,A1.mono fun b hb=> .inl hb,fun _=>rfl,fun c s h=>by cases h⟩
 | some c =>
  rw [hh] at gv1
  simp only [Option.getD_some] at gv1
  obtain ⟨hc,hcd⟩:=A4y (ds:=Ab a a.disks.length) hh
  have hst':=hst c hh
  have B:VolB k a c:=⟨hc,Q,ω⟩
  have hlp1:H1.lp=none:=by rw [K01.lp];exact hlp
  have hst1:=hc.2.2.2.1
  simp
  refine (Fb A1).use ?_
  simp
  refine (Hy gv1 A1 a.disks.length ω).use ?_
  simp
  refine (A25 B hst' gv1 A1 hlp1).use ?_
  have hall:=D5 a a.disks.length
  have hmem:∀ d∈Ab a a.disks.length,0≤d∧d < c.k+c.m:=fun d hd=>by have:=Mj d hd;omega
  have hnst:∀ x∈C4 a id c,0≤x.st∧x.st < c.st∧0≤x.sq∧x.sq < 2 ^ 60:=fun x hx=>Xr x (Ns _ x hx)
  have hntx:∀ x∈C4 a id c,x.tx.length≤4096:=fun x hx=>Afc Q x (Ns _ x hx)
  have hnlen:(C4 a id c).length≤12:=by
   have:=Yk (l:=Dz a id c (Ab a (c.m+1).toNat)) (n:=c.st.toNat) (fun x hx=>by have:=Xr x hx;omega)
   unfold C4
   omega
  have ho:Bc a id=if (tryR (D4 id c (Ab a a.disks.length) a (C4 a id c)) Bv).2=0 then ⟨(tryR (D4 id c (Ab a a.disks.length) a (C4 a id c)) Bv).1,some (c,seqR a id c c.st.toNat (Cj (C4 a id c))),0⟩
    else ⟨(tryR (D4 id c (Ab a a.disks.length) a (C4 a id c)) Bv).1,none,(tryR (D4 id c (Ab a a.disks.length) a (C4 a id c)) Bv).2⟩:=by
   rw [Bc,if_neg hdn,hh]
  rw [ho]
  clear ho
  generalize Ab a a.disks.length=all at hall hmem ⊢
  generalize C4 a id c=nw at hnst hntx hnlen ⊢
  have hnb:=Afd (l:=nw) fun x hx=>(hnst x hx).2.2
  simp
  refine (Af5 nw ω (fun x hx=>by have:=hnst x hx;omega) H1).use ?_
  have hpl:=Heap.Ah gv1
  have A2:=A1.put (ArrI.loc pa q n cells ps a) (volC pa c id (Cj nw)) (.inr rfl)
  have gv2:(H1.put h.next (volC pa c id (Cj nw))).get h.next=some (volC pa c id (Cj nw)):=Heap.Ak gv1
  have K2:Keep R h (H1.put h.next (volC pa c id (Cj nw))):=K01.put _ (fun hr=>by have:=hRl _ hr;omega)
  have hv7:(volC pa c id 0).set 7 (.int .i64 (Cj nw))=volC pa c id (Cj nw):=rfl
  simp [A8,gv1,show (volC pa c id 0).length=8 from rfl,hv7]
  generalize H1.put h.next (volC pa c id (Cj nw))=H2 at A2 gv2 K2 ⊢
  simp [gv2,A8,show (volC pa c id (Cj nw))[4]? = some (.int .i64 c.st) from rfl]
  refine Ar (OpS pa q n cells ps id c a all nw (Cj nw) R h h.next) (c.st.toNat - ·) ?_ 0 ?_
  rotate_left
  ·exact ⟨ω,μ,μ,μ,μ,μ,μ,gv2,A2,K2⟩
  rintro i r hp ⟨le,r0,r6,r7,r8,r46,r47,gv,Ap,Kp⟩
  have hlpp:hp.lp=none:=by rw [Kp.lp];exact hlp
  have hsb:=A97 a id c hone (s:=Cj nw) ω
  rcases Nat.lt_or_eq_of_le le with hlt|heq
  ·have hlt':(i:Int) < c.st:=by omega
   have hw1:IntKind.i64.wrap ((i:Int)+1)=(i:Int)+1:=wrap64 ω ω
   have hel:=Ry a id c i
   simp [r6,r46,r47,hlt']
   refine Br 13 κ ?_
   simp [r6,gv,A8,show (volC pa c id (seqR a id c i (Cj nw)))[7]? = some (.int .i64 (seqR a id c i (Cj nw))) from rfl]
   refine D7.use (x:= .agg [SL (stS a id c i),IL (stE a id c i)]) (Qp hc gv Ap Q.b ω B.short hlpp i) ?_
   simp [K8,hpx]
   refine D7.use (x:= .int .i64 (maxL (stE a id c i))) ((Af4 (stE a id c i) ω ω).call (k:=2) μ) ?_
   have hpl2:=Heap.Ah gv
   have hseq:(if seqR a id c i (Cj nw) < maxL (stE a id c i) then maxL (stE a id c i) else seqR a id c i (Cj nw))=seqR a id c (i+1) (Cj nw):=by
    show _=max (seqR a id c i (Cj nw)) (maxL (stE a id c i))
    split<;>omega
   have hv7':(volC pa c id (seqR a id c i (Cj nw))).set 7 (.int .i64 (seqR a id c (i+1) (Cj nw)))=volC pa c id (seqR a id c (i+1) (Cj nw)):=rfl
   simp [L7,hseq,r6,gv,A8,show (volC pa c id (seqR a id c i (Cj nw))).length=8 from rfl,hv7',r47,hw1]
   refine ⟨i+1,ω,ω,by simpa using r0,by simpa using r6,by simpa using r7,by simpa using r8,by simpa using r46,μ,Heap.Ak gv,Ap.put (ArrI.loc pa q n cells ps a) _ (.inr rfl),Kp.put _ (fun hr=>by have:=hRl _ hr;omega)⟩
  ·subst heq
   have hcst:((c.st.toNat:Nat):Int)=c.st:=by omega
   rw [hcst] at r47
   simp [r8,r46,r47,Ed hel3]
   generalize seqR a id c c.st.toNat (Cj nw)=sf at gv hsb ⊢
   refine Ar (OpR pa q n cells ps id c a all nw sf k R h h.next) (nw.length - ·) ?_ 0 ?_
   rotate_left
   ·exact ⟨ω,by simpa using r0,by simpa using r6,by simpa using r7,μ,μ,μ,gv,⟨a,rfl,Ap,by simpa using Q,rfl⟩,Kp⟩
   clear r0 r6 r7 r8 r46 r47 gv Ap Kp hlpp le
   rintro i r hp ⟨le,r0,r6,r7,r64,r65,r66,gv,⟨a1,e1,A3,Q3,hl3⟩,Kp⟩
   have hlpp:hp.lp=none:=by rw [Kp.lp];exact hlp
   have hkk:k+i * all.length < 2 ^ 27:=by
    have:i * all.length≤12 * 255:=Nat.mul_le_mul ω ω
    omega
   rcases Nat.lt_or_eq_of_le le with hlt|heq
   ·have hlt':(i:Int) < nw.length:=by omega
    have hw1:IntKind.i64.wrap ((i:Int)+1)=(i:Int)+1:=wrap64 ω ω
    have hdr:nw.drop i=nw[i] :: nw.drop (i+1):=List.drop_eq_getElem_cons hlt
    have hat:takeN ((nw.map intC).flatten.drop (i * 3)) 0 3=some (intC nw[i]):=by
     have:=Hz (g:=intC) (z:=3) C0 (rest:=[]) hlt
     rwa [List.append_nil] at this
    have hxs:=hnst nw[i] (List.getElem_mem hlt)
    have hxt:=hntx nw[i] (List.getElem_mem hlt)
    have ea:∀ zs,(hp.alloc zs).get hp.next=some zs:=fun zs=>Heap.A9 hp zs
    simp [r64,r65,r66,hlt',hlt,Et hez3,Hk hagg3 hz3,hat,hzI,AV.cells,Aj,hz3,ea]
    generalize nw[i]=x at hdr hxs hxt ⊢
    refine ⟨⟨C0 x,List.all_eq_true.1 (Fk x)⟩,?_⟩
    rw [hdr,D4] at e1
    have E4:Ext hp ((hp.alloc [AV.int IntKind.i64 0,AV.int IntKind.i64 0,S []]).put hp.next (intC x)):=((Ext.refl hp).alloc _).put (Nat.le_refl _) _
    have gx4:((hp.alloc [AV.int IntKind.i64 0,AV.int IntKind.i64 0,S []]).put hp.next (intC x)).get hp.next=some (intC x):=Heap.Ak (ea _)
    simp only [show putN [AV.int IntKind.i64 0,AV.int IntKind.i64 0,S []] 0 (intC x)=some (intC x) from rfl,Cy]
    generalize (hp.alloc [AV.int IntKind.i64 0,AV.int IntKind.i64 0,S []]).put hp.next (intC x)=H4 at E4 gx4 ⊢
    have gv4:=E4.got gv
    have A4:=A3.ext (ArrI.loc pa q n cells ps a1) E4
    have hlp4:H4.lp=none:=by rw [E4.lp];exact hlpp
    have S3:ArrS a1:=fun d p=>by have:=Q3.short d p;omega
    simp [r6,A8,gx4,intC]
    refine (Qp hc gv4 A4 Q3.b ω S3 hlp4 x.st).use ?_
    have eb:∀ zs,(H4.alloc zs).get H4.next=some zs:=fun zs=>Heap.A9 H4 zs
    simp [hzS,AV.cells,Aj,hz2,putN,eb]
    generalize hH5:Heap.put (Heap.alloc H4 _) _ _=H5
    have E5:Ext H4 H5:=by rw [←hH5];exact ((Ext.refl H4).alloc _).put (Nat.le_refl _) _
    have gs5:H5.get H4.next=some [SL (stS a1 id c x.st),IL (stE a1 id c x.st)]:=by rw [←hH5];exact Heap.Ak (eb _)
    clear hH5
    have gx5:=E5.got gx4
    have gv5:=E5.got gv4
    have E35:=E4.trans E5
    have A5:=A3.ext (ArrI.loc pa q n cells ps a1) E35
    have hel:=Ry a1 id c x.st
    have hwx:IntKind.i64.wrap (x.sq+1)=x.sq+1:=wrap64 ω ω
    have hl3':0 < a1.disks.length:=by omega
    simp [Ac haggS,hz2,takeN,gs5,A8,gx5,intC,hwx]
    refine (Xh (stS a1 id c x.st) (stE a1 id c x.st) (x.sq+1) ω μ μ).use ?_
    simp
    refine Br 13 κ ?_
    simp [gs5,A8,gx5,intC,hwx]
    refine D7.use (x:= .int .i64 (maxL (stE a1 id c x.st))) ((Af4 (stE a1 id c x.st) ω ω).call (k:=2) μ) ?_
    have K5:Keep R h H5:=Kp.trans (E35.keep fun b hb=>A3.lt (.inl hb))
    by_cases c1:x.sq+1 < maxL (stE a1 id c x.st)
    ·rw [if_pos (.inl c1)] at e1
     simp [c1,gx5,A8,intC,hwx,r66,hw1]
     exact ⟨i+1,ω,ω,by simpa using r0,by simpa using r6,by simpa using r7,by simpa using r64,by simpa using r65,μ,gv5,⟨a1,e1,A5,Q3.mono (by have:i * all.length≤(i+1) * all.length:=Nat.mul_le_mul_right _ ω;omega),hl3⟩,K5⟩
    by_cases c2:ofN (stE a1 id c x.st) (x.sq+1)=all.length
    ·rw [if_pos (.inr c2)] at e1
     simp [c1,c2,gx5,A8,intC,hwx,r7,r66,hw1]
     exact ⟨i+1,ω,ω,by simpa using r0,by simpa using r6,by first|exact r7|simpa using r7|simp,by simpa using r64,by simpa using r65,by first|simp|(push_cast;rfl),gv5,⟨a1,e1,A5,Q3.mono (by have:i * all.length≤(i+1) * all.length:=Nat.mul_le_mul_right _ ω;omega),hl3⟩,K5⟩
    rw [if_neg (fun h=>h.elim c1 c2)] at e1
    simp only at e1
    have c2i:¬((ofN (stE a1 id c x.st) (x.sq+1):Int)=all.length):=by omega
    simp [c1,c2,gx5,A8,intC,hwx,r6,r7]
    refine (Mg hc gv5 A5 (.inr rfl) Q3.b x.st (x.sq+1) x.tx ω hid ω ω hmem).then ?_
    rintro _ H6 ⟨rfl,A6,K6⟩
    have gv6:=K6.got (.inr rfl) gv5
    have K06:Keep R h H6:=K5.trans (K6.mono fun b hb=> .inl hb)
    have Q6:=M9 Q3 id c x.st (x.sq+1) x.tx all
    have hl6:=A4h a1 id c x.st (x.sq+1) x.tx all
    generalize vshR a1 id c x.st (x.sq+1) x.tx all=p6 at e1 A6 Q6 hl6 ⊢
    obtain ⟨a6,e6⟩:=p6
    simp only at e1 A6 Q6 hl6
    by_cases he6:e6=0
    ·rw [if_pos he6] at e1
     simp [he6,r66,hw1]
     exact ⟨i+1,ω,ω,by simpa using r0,by simpa using r6,by simpa using r7,by simpa using r64,by simpa using r65,μ,gv6,⟨a6,e1,A6,Q6.mono (by rw [Nat.add_mul,Nat.one_mul];omega),hl6.trans hl3⟩,K06⟩
    ·rw [if_neg he6] at e1
     simp [he6,e1,tryR]
     exact ⟨K06,A6.mono fun b hb=> .inl hb,fun _=>rfl,fun c s h=>by cases h⟩
   ·subst heq
    rw [List.drop_length,D4] at e1
    simp [r65,r66,r0,r6,e1,tryR,Bv]
    refine (Qk A3 Q3.b ω).then ?_
    rintro _ H6 ⟨rfl,A6,K6⟩
    have gv6:=K6.got (.inr rfl) gv
    have K06:Keep R h H6:=Kp.trans (K6.mono fun b hb=> .inl hb)
    by_cases hd1:a1.down=true
    ·simp [hd1,Arr.Kv]
     exact ⟨K06,A6.mono fun b hb=> .inl hb,fun _=>rfl,fun c s h=>by cases h⟩
    ·simp [hd1,Arr.Kv,r6]
     exact ⟨K06,A6.mono fun b hb=> .inl hb,fun h=>(by cases h),fun c' s' hs=>by cases hs;exact ⟨h.next,rfl,Nat.le_refl _,gv6,A6⟩⟩
end
theorem A8m {id:Int} {c:Cfg} : ∀ (ds:List Int) {k:Nat} {a:Arr},ArrQ k a→ArrQ (k+ds.length) (Gy id c a ds).1
 | [],k,a,h=>h
 | d :: ds,k,a,h=>by
  rw [Gy]
  split
  ·exact (A8m ds (Na h _)).mono (by simp;omega)
  ·exact (Na h _).mono μ
@[simp] theorem Aby {id:Int} {c:Cfg} : ∀ (ds:List Int) (a:Arr),(Gy id c a ds).1.disks.length=a.disks.length
 | [],a=>rfl
 | d :: ds,a=>by
  rw [Gy]
  split
  ·rw [Aby ds];simp
  ·simp
structure MkH (pa q n:Nat) (cells:List AV) (ps:List Nat) (id:Int) (c:Cfg) (a0:Arr) (all:List Int) (k:Nat) (R:Nat→Prop) (h:Heap) (pv pc:Nat) (i:Nat) (r:Regs) (hp:Heap):Prop where
 le:i≤all.length
 r0:rg r 0 = .ptr pa 0
 r4:rg r 4 = .ptr pc 0
 r8:rg r 8 = .ptr pv 0
 r9:rg r 9=IL all
 r10:rg r 10=S (Gx c)
 r63:rg r 63=IL all
 r64:rg r 64 = .int .i64 all.length
 r65:rg r 65 = .int .i64 i
 gv:hp.get pv=some (volC pa c id 0)
 gc:hp.get pc=some [.int .i64 c.k,.int .i64 c.m,.int .i64 c.sh,.int .i64 c.st,.int .i64 c.sl]
 ex:∃ a,Gy id c a0 all=Gy id c a (all.drop i)∧At (ArrI pa q n cells ps a) (fun b=>R b∨b=pv∨b=pc) hp∧ArrQ (k+i) a∧a.disks.length=a0.disks.length
 K:Keep R h hp
structure MkS (pa q n:Nat) (cells:List AV) (ps:List Nat) (id:Int) (c:Cfg) (a0:Arr) (all:List Int) (k:Nat) (R:Nat→Prop) (h:Heap) (pv pc:Nat) (i:Nat) (r:Regs) (hp:Heap):Prop where
 le:i≤c.st.toNat
 r0:rg r 0 = .ptr pa 0
 r8:rg r 8 = .ptr pv 0
 r9:rg r 9=IL all
 r78:rg r 78 = .int .i64 c.st
 r79:rg r 79 = .int .i64 i
 gv:hp.get pv=some (volC pa c id 0)
 ex:∃ a,Hv id c all a0 (List.range c.st.toNat)=Hv id c all a ((List.range c.st.toNat).drop i)∧At (ArrI pa q n cells ps a) (fun b=>R b∨b=pv∨b=pc) hp∧ArrQ (k+i * all.length) a∧a.disks.length=a0.disks.length
 K:Keep R h hp
theorem Nd {P:Program} (K:Regs→Heap→Prop) {id:Nat} {l:List Oper} {b:Code} {Q:Out→Regs→Heap→Prop} {r:Regs} {h:Heap} (hK:∀ r h,K r h→wpc P b Q r h) (hw:wpOs P l.toArray K l r h):wpc P (.seq (.region id l.toArray false) b) Q r h:=by
 rw [Eb]
 refine Ru (.region id l.toArray false) (fun o r h=>o = .norm∧K r h) _ ?_ r h ?_
 ·rintro o r h ⟨rfl,k⟩
  exact hK r h k
 ·rw [X5]
  exact Ps (fun r h k=>⟨rfl,k⟩) _ r h hw
section
variable {pa q n:Nat} {cells:List AV} {ps:List Nat} {a:Arr} {R:Nat→Prop} {h:Heap} {id:Int} {k:Nat} {c:Cfg}
theorem Aar (Q:ArrQ k a) (hk:k < 2 ^ 26) (A:At (ArrI pa q n cells ps a) R h) (hlp:h.lp=none) :
  CSem Tryz.prog 31 [.ptr pa 0,CfA c,.int .i64 id] h fun x h'=>Afe pa q n cells ps id R h (Cf a c id) x h':=by
 refine CSem.body hm Tryz.func31 rfl κ κ (by simp [Tryz.ntmps31]) ?_
 have hfew:=Q.b.few
 have hone:=Q.b.one
 have hRl:∀ b,R b→b < h.next:=fun b hb=>A.lt hb
 have haggC:aggT Tryz.prog 23=some true:=by kernel_rfl
 have hzC:szT Tryz.prog 23=some 5:=by kernel_rfl
 have hbv:Ct Tryz.prog 85 [(0,.ptr pa 0),(1,.agg [.int .i64 c.k,.int .i64 c.m,.int .i64 c.sh,.int .i64 c.st,.int .i64 c.sl]),(2,.int .i64 id)]=some (.agg (volC pa c id 0)):=by kernel_rfl
 have hcC:(CfA c).cells=[.int .i64 c.k,.int .i64 c.m,.int .i64 c.sh,.int .i64 c.st,.int .i64 c.sl]:=rfl
 refine Nd (fun r1 h1=>rg r1 0 = .ptr pa 0∧rg r1 2 = .int .i64 id∧rg r1 4 = .ptr h.next 0∧h1=h.alloc [.int .i64 c.k,.int .i64 c.m,.int .i64 c.sh,.int .i64 c.st,.int .i64 c.sl]) ?_ (by simp [hcC])
 rintro r1 _ ⟨r0,r2,r4,rfl⟩
 have gc0:(h.alloc [.int .i64 c.k,.int .i64 c.m,.int .i64 c.sh,.int .i64 c.st,.int .i64 c.sl]).get h.next=some [.int .i64 c.k,.int .i64 c.m,.int .i64 c.sh,.int .i64 c.st,.int .i64 c.sl]:=Heap.A9 _ _
 have E0:Ext h (h.alloc [.int .i64 c.k,.int .i64 c.m,.int .i64 c.sh,.int .i64 c.st,.int .i64 c.sl]):=(Ext.refl h).alloc _
 have A0:At (ArrI pa q n cells ps a) (fun b=>R b∨b=h.next) (h.alloc [.int .i64 c.k,.int .i64 c.m,.int .i64 c.sh,.int .i64 c.st,.int .i64 c.sl]):=A.alloc (ArrI.loc pa q n cells ps a) _
 generalize h.alloc [.int .i64 c.k,.int .i64 c.m,.int .i64 c.sh,.int .i64 c.st,.int .i64 c.sl]=H0 at gc0 E0 A0 ⊢
 have bad:∀ (H:Heap) (e:Int),Ext h H→At (ArrI pa q n cells ps a) R H→Afe pa q n cells ps id R h ⟨a,none,e⟩ (.tup [.nilPtr,.int .i64 e]) H:=fun H e E AH=>⟨E.keep hRl,AH,fun _=>rfl,fun c s h=>by cases h⟩
 rw [Eb,Eb]
 refine Br 22 κ ?_
 simp [r0,r2,r4,gc0,Ac haggC,hzC,takeN]
 refine D7.use (x:= .int .i64 (if Ax c then 0 else 1)) (Cw c H0) ?_
 by_cases hc:Ax c
 rotate_left
 ·have ho:Cf a c id=⟨a,none,1⟩:=by simp [Cf,hc]
  simp [hc,ho]
  exact bad H0 1 E0 (A0.mono fun b hb=> .inl hb)
 simp [hc,r0]
 refine D7.use (x:= .int .i64 a.disks.length) (Fb A0) ?_
 simp [r4,gc0,Ac haggC,hzC,takeN]
 refine D7.use (x:= .int .i64 (C7 c)) (Jp c H0) ?_
 have hcd:C7 c=c.k+c.m:=by simp [C7,hc]
 by_cases hd:(a.disks.length:Int)=C7 c
 rotate_left
 ·have ho:Cf a c id=⟨a,none,1⟩:=by simp [Cf,hc,hd]
  simp [hd,ho]
  exact bad H0 1 E0 (A0.mono fun b hb=> .inl hb)
 by_cases hi0:id < 0
 ·have ho:Cf a c id=⟨a,none,1⟩:=by simp [Cf,hi0]
  simp [hd,r2,hi0,ho]
  exact bad H0 1 E0 (A0.mono fun b hb=> .inl hb)
 by_cases hi1:4294967295 < id
 ·have ho:Cf a c id=⟨a,none,1⟩:=by simp [Cf,hi1]
  simp [hd,r2,hi0,hi1,ho]
  exact bad H0 1 E0 (A0.mono fun b hb=> .inl hb)
 simp [hd,r0,r2,r4,hi0,hi1,gc0,Ac haggC,hzC,takeN,hbv]
 refine ⟨fun x hx=>List.all_eq_true.1 (show (volC pa c id 0).all AV.atom=true from rfl) x hx,?_⟩
 have hcl:(AV.agg (volC pa c id 0)).cells=volC pa c id 0:=rfl
 rw [hcl]
 have gv1:(H0.alloc (volC pa c id 0)).get H0.next=some (volC pa c id 0):=Heap.A9 _ _
 have E1:Ext H0 (H0.alloc (volC pa c id 0)):=(Ext.refl H0).alloc _
 have A1:At (ArrI pa q n cells ps a) (fun b=>R b∨b=H0.next∨b=h.next) (H0.alloc (volC pa c id 0)):=(A0.alloc (ArrI.loc pa q n cells ps a) _).mono fun b hb=>by
  rcases hb with hb|hb|hb
  ·exact .inl (.inl hb)
  ·exact .inr hb
  ·exact .inl (.inr hb)
 have gc1:=E1.got gc0
 have E01:=E0.trans E1
 generalize H0.alloc (volC pa c id 0)=H1 at gv1 E1 A1 gc1 E01 ⊢
 refine (Fb A1).use ?_
 simp
 refine (Hy gv1 A1 a.disks.length ω).use ?_
 simp [r0]
 refine (Hj A1).use ?_
 by_cases hdn:a.down=true
 ·have ho:Cf a c id=⟨a,none,9⟩:=by simp [Cf,hc,hd,hi0,hi1,hdn]
  simp [hdn,ho]
  exact bad H1 9 E01 (A1.mono fun b hb=> .inl hb)
 simp [hdn,r0]
 refine (Fb A1).use ?_
 have hall:=D5 a a.disks.length
 have hmem:∀ d∈Ab a a.disks.length,0≤d∧d < c.k+c.m:=fun d hd'=>by have:=Mj d hd';omega
 have ho:Cf a c id=if (Ab a a.disks.length).length < a.disks.length then ⟨a,none,8⟩ else
   if (tryR (tryR (Gy id c a (Ab a a.disks.length)) fun a'=>Hv id c (Ab a a.disks.length) a' (List.range c.st.toNat)) Bv).2=0 then ⟨(tryR (tryR (Gy id c a (Ab a a.disks.length)) fun a'=>Hv id c (Ab a a.disks.length) a' (List.range c.st.toNat)) Bv).1,some (c,0),0⟩
   else ⟨(tryR (tryR (Gy id c a (Ab a a.disks.length)) fun a'=>Hv id c (Ab a a.disks.length) a' (List.range c.st.toNat)) Bv).1,none,(tryR (tryR (Gy id c a (Ab a a.disks.length)) fun a'=>Hv id c (Ab a a.disks.length) a' (List.range c.st.toNat)) Bv).2⟩:=by
  rw [Cf,if_neg (by intro h;rcases h with h|h|h|h;exact h hc;exact h hd;omega;omega),if_neg hdn]
 rw [ho]
 clear ho
 generalize Ab a a.disks.length=all at hall hmem ⊢
 by_cases h8:all.length < a.disks.length
 ·simp [h8]
  exact bad H1 8 E01 (A1.mono fun b hb=> .inl hb)
 have hcnf:=Abh c
 simp [h8,r4,gc1,Ac haggC,hzC,takeN]
 refine (Xc hc H1).use ?_
 simp
 have hst1:=hc.2.2.2.1
 have K1:Keep R h H1:=E01.keep hRl
 have hpvl:=Heap.Ah gv1
 have hne1:H0.next≠h.next:=by have:=Heap.Ah gc0;omega
 refine Ar (MkH pa q n cells ps id c a all k R h H0.next h.next) (all.length - ·) ?_ 0 ?_
 rotate_left
 ·exact ⟨ω,by simpa using r0,by simpa using r4,μ,μ,μ,μ,μ,μ,gv1,gc1,⟨a,rfl,A1,Q,rfl⟩,K1⟩
 clear r0 r2 r4
 rintro i r hp ⟨le,r0,r4,r8,r9,r10,r63,r64,r65,gv,gc,⟨a1,e1,A2,Q2,hl2⟩,Kp⟩
 rcases Nat.lt_or_eq_of_le le with hlt|heq
 ·have hlt':(i:Int) < all.length:=by omega
  have hw1:IntKind.i64.wrap ((i:Int)+1)=(i:Int)+1:=wrap64 ω ω
  have hdr:all.drop i=all[i] :: all.drop (i+1):=List.drop_eq_getElem_cons hlt
  have hdm:=hmem all[i] (List.getElem_mem hlt)
  simp [r8,r10,r63,r64,r65,hlt',hlt,List.getElem?_eq_getElem hlt,show I64 all[i]=AV.int .i64 all[i] from rfl]
  generalize all[i]=d at hdr hdm
  rw [hdr,Gy] at e1
  have hkm:=hc.1.2.2
  refine (Rx (b:=hdB id d c) gv A2 (.inr (.inl rfl)) Q2.b ω ⟨by show id < 2 ^ 62;omega,by show d < 2 ^ 62;omega,by show (0:Int) < 2 ^ 62;decide,by show (0:Int) < 2 ^ 62;decide,hcnf⟩ rfl).then ?_
  rintro _ h5 ⟨rfl,A5,K5⟩
  have Kp5:Keep R h h5:=Kp.trans (K5.mono fun b hb=> .inl hb)
  by_cases hv0:F0 a1 (hdB id d c)=0
  ·rw [if_pos hv0] at e1
   simp [hv0,r65,hw1]
   exact ⟨i+1,ω,ω,by simpa using r0,by simpa using r4,by simpa using r8,by simpa using r9,by simpa using r10,by simpa using r63,by simpa using r64,μ,K5.got (.inr (.inl rfl)) gv,K5.got (.inr (.inr rfl)) gc,⟨_,e1,A5,(Na Q2 _).mono ω,by simpa using hl2⟩,Kp5⟩
  ·rw [if_neg hv0] at e1
   simp [hv0,e1,tryR]
   exact ⟨Kp5,A5.mono fun b hb=> .inl hb,fun _=>rfl,fun c s h=>by cases h⟩
 ·subst heq
  rw [List.drop_length,Gy] at e1
  rw [e1]
  clear e1
  simp [r4,r64,r65,A8,gc]
  refine Ar (MkS pa q n cells ps id c a1 all (k+all.length) R h H0.next h.next) (c.st.toNat - ·) ?_ 0 ?_
  rotate_left
  ·exact ⟨ω,by simpa using r0,by simpa using r8,by simpa using r9,μ,μ,gv,⟨a1,rfl,A2,by simpa using Q2,rfl⟩,Kp⟩
  clear r0 r4 r8 r9 r10 r63 r64 r65 gv gc A2 Kp le
  rintro i r hp ⟨le,r0,r8,r9,r78,r79,gv,⟨a2,e2,A3,Q3,hl3⟩,Kp⟩
  have hkk:k+all.length+i * all.length < 2 ^ 27:=by
   have:i * all.length≤1000 * 255:=Nat.mul_le_mul ω ω
   omega
  rcases Nat.lt_or_eq_of_le le with hlt|heq
  ·have hlt':(i:Int) < c.st:=by omega
   have hw1:IntKind.i64.wrap ((i:Int)+1)=(i:Int)+1:=wrap64 ω ω
   have hdr:(List.range c.st.toNat).drop i=i :: (List.range c.st.toNat).drop (i+1):=by
    rw [List.drop_eq_getElem_cons (by simpa using hlt)];simp
   simp [r8,r9,r78,r79,hlt']
   rw [hdr,Hv] at e2
   refine (Mg hc gv A3 (.inr (.inl rfl)) Q3.b i 0 [] ω ω ν ν hmem).then ?_
   rintro _ h5 ⟨rfl,A5,K5⟩
   have Kp5:Keep R h h5:=Kp.trans (K5.mono fun b hb=> .inl hb)
   have Q5:=M9 Q3 id c i 0 [] all
   have hl5:=A4h a2 id c i 0 [] all
   generalize vshR a2 id c i 0 [] all=p5 at e2 A5 Q5 hl5 ⊢
   obtain ⟨a5,e5⟩:=p5
   simp only at e2 A5 Q5 hl5
   by_cases hv0:e5=0
   ·rw [if_pos hv0] at e2
    simp [hv0,r79,hw1]
    exact ⟨i+1,ω,ω,by simpa using r0,by simpa using r8,by simpa using r9,by simpa using r78,μ,K5.got (.inr (.inl rfl)) gv,⟨_,e2,A5,Q5.mono (by rw [Nat.add_mul,Nat.one_mul];omega),hl5.trans hl3⟩,Kp5⟩
   ·rw [if_neg hv0] at e2
    simp [hv0,e2,tryR]
    exact ⟨Kp5,A5.mono fun b hb=> .inl hb,fun _=>rfl,fun c s h=>by cases h⟩
  ·subst heq
   have hcst:((c.st.toNat:Nat):Int)=c.st:=by omega
   rw [hcst] at r79
   have hdr:(List.range c.st.toNat).drop c.st.toNat=[]:=by simp
   rw [hdr,Hv] at e2
   simp [r0,r8,r78,r79,tryR,e2,Bv]
   refine (Qk A3 Q3.b ω).then ?_
   rintro _ H6 ⟨rfl,A6,K6⟩
   have gv6:=K6.got (.inr (.inl rfl)) gv
   have K06:Keep R h H6:=Kp.trans (K6.mono fun b hb=> .inl hb)
   by_cases hd1:a2.down=true
   ·simp [hd1,Arr.Kv]
    exact ⟨K06,A6.mono fun b hb=> .inl hb,fun _=>rfl,fun c s h=>by cases h⟩
   ·simp [hd1,Arr.Kv,r8]
    exact ⟨K06,A6.mono fun b hb=> .inl hb,fun h=>(by cases h),fun c' s' hs=>by cases hs;exact ⟨H0.next,rfl,E0.next,gv6,A6.mono fun b hb=>hb.imp (fun h=>h) .inl⟩⟩
end
end Go.Proofs.YtmbndhciflilbaaGreatDoor.X
