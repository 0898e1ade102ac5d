/-
  Texts of a proof, as one: C22, C23, C24, C25, C20, C26, C21, D04, D05, C27, D06, F3.
-/
import Derived.Test.YtpabfpccpbakfaaGreatDoorCA
import Derived.Test.YtpabfpccpbakfaaGreatDoorXB
import Derived.Test.YtpabfpccpbakfaaGreatDoorXRow
import Derived.Test.YtpabfpccpbakfaaGreatDoorFA
namespace Go.Proofs.YtpabfpccpbakfaaGreatDoor.X
open Go.RowKit F
set_option maxRecDepth 100000
set_option linter.unusedSimpArgs false
set_option linter.unusedVariables false
theorem A1m (l:List UInt8) (a b:Nat):(⟨l.toArray⟩:ByteArray).extract a b=⟨((l.take b).drop a).toArray⟩:=by
 apply ByteArray.ext
 apply Array.ext'
 rw [ByteArray.data_extract,Array.toList_extract]
 simp [List.drop_take]
@[simp] theorem Ct {P:Program} {t:TypeId} (ht:strT P t=true) {l:List UInt8} {lo hi:Option AV} :
  Fj P t (S l) lo hi none=(Bt l.length hi l.length).bind fun b=>(Bt b lo 0).map fun a=>S ((l.take b).drop a):=by
 simp only [Fj,M6 ht,S]
 simp [ByteArray.size]
 cases Bt l.length hi l.length with
 | none=>rfl
 | some b =>
  simp only [Option.bind_some]
  cases Bt b lo 0 with
  | none=>rfl
  | some a =>
   simp
   exact A1m l a b
def Fy (l:Tab):Prop:= ∀ x∈l,x.length=(l[0]?.getD []).length
instance (l:Tab):Decidable (Fy l):=by unfold Fy;exact inferInstance
theorem Aj8 (s:List UInt8) (l:Tab) (b:Nat) (h:Heap) (hg:h.get b=some [SL l]) (hp:0 < l.length):CSem Tryz.prog 172 [S s,.ptr b 0] h fun x h'=>x = .bool (decide (s.length≠(l[0]?.getD []).length))∧h'=h:=by
 refine CSem.body hm Tryz.func172 rfl (by kernel_rfl) (by kernel_rfl) (by simp [Tryz.ntmps172]) ?_
 have h0:l[0]? = some l[0]:=List.getElem?_eq_getElem hp
 simp [Tryz.f172,hg,hp,h0]
def IfInv (l:Tab) (b:Nat) (h0:Heap) (i:Nat) (r:Regs) (h:Heap):Prop :=
 i≤l.length∧h=h0∧rg r 0=SL l∧rg r 1 = .fn 172 [] [.ptr b 0]∧rg r 7 = .int .i64 l.length∧rg r 8 = .int .i64 i∧∀ x∈l.take i,x.length=(l[0]?.getD []).length
theorem Ab4 (l:Tab) (b:Nat) (h:Heap) (hg:h.get b=some [SL l]) (hl:l.length < 2 ^ 60):CSem Tryz.prog 198 [SL l,.fn 172 [] [.ptr b 0]] h fun x h'=>(∃ n:Int,x = .int .i64 n∧(0≤n↔¬Fy l))∧h'=h:=by
 refine CSem.body hm Tryz.func198 rfl (by kernel_rfl) (by kernel_rfl) (by simp [Tryz.ntmps198]) ?_
 simp [Tryz.f198]
 refine Am (IfInv l b h) (l.length - ·) ?_ 0 ?_
 ·rintro i r h ⟨hi,rfl,g0,g1,g7,g8,ha⟩
  rcases Nat.lt_or_eq_of_le hi with hlt|heq
  ·have hr:l[i]? = some l[i]:=List.getElem?_eq_getElem hlt
   have hp:0 < l.length:=by omega
   have h0:l[0]? = some l[0]:=List.getElem?_eq_getElem hp
   simp [g0,g1,g7,g8,hlt,hr]
   refine (Aj8 l[i] l b h hg hp).use ?_
   by_cases he:l[i].length=l[0].length
   ·simp [h0,he,g8]
    exact ⟨i+1,by omega,by omega,rfl,by simp [g0],by simp [g1],by simp [g7],by simp [wrap64 (n:=(i:Int)+1) (by omega) (by omega)],Qz ha hr (by rw [h0];exact he)⟩
   ·have:¬Fy l:=fun hE=>he (by have:=hE _ (List.getElem_mem hlt);rw [h0] at this;exact this)
    simp [h0,he,this]
  ·have:Fy l:=fun x hx=>ha x (by rw [heq,List.take_length];exact hx)
   simp [g0,g1,g7,g8,heq,this]
 ·exact ⟨Nat.zero_le _,rfl,by simp,by simp,by simp,by simp,by simp⟩
theorem A1n (l:Tab) (b:Nat) (h:Heap) (hg:h.get b=some [SL l]) (hl:l.length < 2 ^ 60):CSem Tryz.prog 171 [SL l,.fn 172 [] [.ptr b 0]] h fun x h'=>x = .bool (decide (¬Fy l))∧h'=h:=by
 refine CSem.body hm Tryz.func171 rfl (by kernel_rfl) (by kernel_rfl) (by simp [Tryz.ntmps171]) ?_
 simp [Tryz.f171]
 refine (Ab4 l b h hg hl).then ?_
 rintro x h' ⟨⟨n,rfl,hn⟩,rfl⟩
 simp [hn]
theorem Ab5 (l:Tab) (hl:l.length < 2 ^ 60):Aq Tryz.prog 146 [SL l] (.bool (decide (Fy l))):=by
 refine Aq.Az (k:=1) ?_
 refine CSem.body hm Tryz.func146 rfl (by kernel_rfl) (by kernel_rfl) (by simp [Tryz.ntmps146]) ?_
 have hg:(Heap.empty.alloc [SL l]).get 0=some [SL l]:=Heap.A9 _ _
 simp [Tryz.f146,hg]
 refine (A1n l 0 _ hg hl).use ?_
 simp
theorem W9 (l:Tab) (hl:l.length < 2 ^ 60) {h:Heap} {x:AV} (hx:snap h true 2 x=some (SL l)):CSem Tryz.prog 146 [x] h fun x' h'=>x' = .bool (decide (Fy l))∧h'=h:=(Ab5 l hl).call (k:=2) (by simp [hx])
def FtQ (l:Tab) (x:AV) (h:Heap):Prop:=(∃ b,x = .sl b 0 l.length l.length 1∧h.get b=some (l.map S))∨(l=[]∧(x = .nilSl∨x = .vec 0 []))
def Nh (P:Program) (f:FuncId) (args:List AV) (l:Tab):Prop:=CSem P f args Heap.empty (FtQ l)
section
variable {P:Program} {f:FuncId} {args args':List AV} {l:Tab} {h:Heap}
theorem FtQ.own {x:AV} (ho:Own h x (l.map S)):FtQ l x h:=by
 rcases ho with ⟨rfl,h0⟩|⟨b,rfl,hg⟩
 ·exact .inr ⟨by simpa using h0,.inl rfl⟩
 ·exact .inl ⟨b,by simp,hg⟩
theorem Nh.of_own (hf:CSem P f args Heap.empty fun x h=>Own h x (l.map S)):Nh P f args l:=hf.mono fun x h=>FtQ.own
theorem FtQ.snap {x:AV} (hq:FtQ l x h) {al:Bool} {k:Nat} : X.snap h al (k+2) x=some (SL l):=by
 rcases hq with ⟨b,rfl,hg⟩|⟨rfl,rfl|rfl⟩
 ·exact Fh hg rfl (fun _=>rfl)
 ·rfl
 ·rfl
theorem FtQ.tup {x:AV} {e:Int} (hq:FtQ l x h):FrQ l e (.tup [x,.int .i64 e]) h:=by
 rcases hq with ⟨b,rfl,hg⟩|⟨rfl,rfl|rfl⟩
 ·exact .sl rfl hg
 ·exact .nil
 ·exact .vec
theorem Nh.pure (hf:Nh P f args l):Aq P f args (SL l):=Aq.Az (k:=2) (hf.mono fun x h hq=>hq.snap)
theorem Nh.call (hf:Nh P f args' l) {k:Nat} (hs:mapL (X.snap h true k) args=some args') :
  CSem P f args h fun x' h'=>FtQ l x' h'∧h'=ownH h l:=by
 by_cases hl:l=[]
 ·subst hl
  exact (hf.pure.call hs).mono (by rintro x h' ⟨rfl,rfl⟩;exact ⟨.inr ⟨rfl,.inr rfl⟩,rfl⟩)
 ·refine (CSem.fresh (n:=1) (F:=fun b=> .sl b 0 l.length l.length 1) hs (R5.sl _ _ _) (A9a l) (hf.mono ?_)).mono ?_
  ·rintro x h (⟨b,rfl,hg⟩|⟨h0,_⟩)
   ·exact ⟨b,rfl,hg⟩
   ·exact (hl h0).elim
  ·rintro x h' ⟨rfl,rfl⟩
   exact ⟨.inl ⟨h.next,rfl,Heap.A9 _ _⟩,by simp [ownH,hl]⟩
end
def Ee (rows data:Tab):Tab:=rows.map fun row=>(Fu row data).getD []
def SpInv (rows data:Tab) (i:Nat) (r:Regs) (h:Heap):Prop :=
 i≤rows.length∧rg r 1=SL data∧rg r 10=SL rows∧rg r 11 = .int .i64 rows.length∧rg r 12 = .int .i64 i∧Own h (rg r 5) ((Ee (rows.take i) data).map S)
theorem A1p (rows data:Tab) (hr:rows.length < 2 ^ 40) (hrr:∀ x∈rows,x.length < 2 ^ 40) (hd:data.length < 2 ^ 40) (hdd:∀ x∈data,x.length < 2 ^ 40):Nh Tryz.prog 147 [SL rows,SL data] (Ee rows data):=by
 refine Nh.of_own ?_
 refine CSem.body hm Tryz.func147 rfl (by kernel_rfl) (by kernel_rfl) (by simp [Tryz.ntmps147]) ?_
 simp [Tryz.f147]
 refine Am (SpInv rows data) (rows.length - ·) ?_ 0 ?_
 ·rintro i r h ⟨hi,g1,g10,g11,g12,ho⟩
  rcases Nat.lt_or_eq_of_le hi with hlt|heq
  ·have hx:rows[i]? = some rows[i]:=List.getElem?_eq_getElem hlt
   simp [g1,g10,g11,g12,hlt,hx]
   have hs:snap (h.alloc (rows[i].map B8)) true 2 (.sl h.next 0 rows[i].length rows[i].length 1)=some (BL rows[i]):=Fh (Heap.A9 _ _) rfl (fun _=>rfl)
   refine (A3g rows[i] data hd hdd hs).use ?_
   obtain ⟨n,hn⟩:=Aav (Fu rows[i] data) 1
   have ho1:Own (h.alloc (rows[i].map B8)) (rg r 5) ((Ee (rows.take i) data).map S):=ho.old fun b cs hb=>Heap.Af hb
   obtain ⟨x',h',e,ho',hnx,hat,hk⟩:=Hj (P:=Tryz.prog) (t:=24) (xt:=24) (by kernel_rfl) ho1 (by simp [Ee];omega) (Mr ((Fu rows[i] data).getD []))
   simp at e
   simp [hn,C0 (P:=Tryz.prog) (t:=24) (xt:=24) (by kernel_rfl),e,g1,g10,g11,g12]
   refine ⟨i+1,by omega,by omega,by simp [g1],by simp [g10],by simp [g11],by simp [wrap64 (n:=(i:Int)+1) (by omega) (by omega)],?_⟩
   rw [List.take_succ_eq_append_getElem hlt,Ee,List.map_append]
   simpa [Ee] using ho'
  ·rw [heq,List.take_length] at ho
   simp [g1,g10,g11,g12,heq]
   exact ho
 ·simp [SpInv,Own,Ee]
def Sm (l:Tab):Prop:=l.length < 2 ^ 40∧∀ x∈l,x.length < 2 ^ 40
theorem Wa (rows data:Tab) (h1:Sm rows) (h2:Sm data) {h:Heap} {x y:AV} (hx:snap h true 2 x=some (SL rows)) (hy:snap h true 2 y=some (SL data)) :
  CSem Tryz.prog 147 [x,y] h fun x' h'=>FtQ (Ee rows data) x' h'∧h'=ownH h (Ee rows data):=(A1p rows data h1.1 h1.2 h2.1 h2.2).call (k:=2) (by simp [hx,hy])
theorem gen_sm {k m:Int} (hM:GMay k m):Sm (genL k.toNat m.toNat):=by
 obtain ⟨h1,h2,h3,h4⟩:=hM
 exact ⟨by rw [J4];omega,fun x hx=>by rw [W4 hx];omega⟩
def EncP (data:Tab) (m:Int):Prop:=GMay data.length m∧Fy data
instance (data:Tab) (m:Int):Decidable (EncP data m):=by unfold EncP;exact inferInstance
def encL (data:Tab) (m:Nat):Tab:=Ee (genL data.length m) data
def encR (data:Tab) (m:Int):Tab×Int:=if EncP data m then (encL data m.toNat,0) else ([],1)
theorem Ab6 (data:Tab) (m:Int) (h:Sm data):Jx Tryz.prog 123 [SL data,.int .i64 m] (encR data m).1 (encR data m).2:=by
 refine CSem.body hm Tryz.func123 rfl (by kernel_rfl) (by kernel_rfl) (by simp [Tryz.ntmps123]) ?_
 simp [Tryz.f123]
 refine (A3k _ _ _).use ?_
 by_cases hM:GMay data.length m
 rotate_left
 ·have:¬EncP data m:=fun h=>hM h.1
  simp [rL,genR,hM,encR,this,FrQ.nil]
 have hs:=gen_sm hM
 simp [rL,genR,hM]
 refine (W9 data (by have:=h.1;omega) (by simp)).use ?_
 by_cases hE:Fy data
 rotate_left
 ·have:¬EncP data m:=fun h=>hE h.2
  simp [rL,hE,encR,this,FrQ.nil]
 have hP:EncP data m:=⟨hM,hE⟩
 simp [hE]
 refine (Wa (genL data.length m.toNat) data hs h (by simp) (by simp)).then ?_
 rintro x h' ⟨hq,rfl⟩
 simp [encR,hP]
 exact hq.tup
def IsP (k:Int) (l:Tab):Prop:=1≤k∧k≤l.length∧Fy l∧encR (l.take k.toNat) (l.length - k)=(l,0)
instance (k:Int) (l:Tab):Decidable (IsP k l):=by unfold IsP;exact inferInstance
theorem Sm.take {l:Tab} (h:Sm l) (n:Nat):Sm (l.take n):=⟨by have:=h.1;simp;omega,fun x hx=>h.2 x (List.mem_of_mem_take hx)⟩
theorem IsP.may {k:Int} {l:Tab} (h:IsP k l):GMay k (l.length - k):=by
 have h1:=h.1
 have h2:=h.2.1
 have:=h.2.2.2
 unfold encR at this
 split at this
 ·rename_i hP
  have hM:=hP.1
  have e:((l.take k.toNat).length:Int)=k:=by simp;omega
  rwa [e] at hM
 ·cases this
@[simp] theorem str_S (l:List UInt8):AV.str { data:=l.toArray } = S l:=id rfl
theorem Ab7 (k m:Int) (l:List Int) (hl:l.length < 2 ^ 60) {h:Heap} {x:AV} (hx:snap h true 2 x=some (IL l)):CSem Tryz.prog 154 [.int .i64 k,.int .i64 m,x] h fun x' h'=>x'=rL (decR k m l).1 (decR k m l).2∧h'=h :=
 (Ab0 k m l hl).pure.call (k:=2) (by simp [hx])
theorem M7 {P:Program} {t:TypeId} {b off n c z:Nat} {lo hi:Option AV} (hz:(elT P t).bind (szT P)=some z) :
  Fj P t (.sl b off n c z) lo hi none=(Bt c hi n).bind fun h=>(Bt h lo 0).map fun l=> .sl b (off+l * z) (h - l) (c - l) z:=by
 obtain ⟨e,he,hz⟩:=Option.bind_eq_some_iff.1 hz
 simp only [Fj,Br he,hz]
 simp
 cases Bt c hi n with
 | none=>rfl
 | some h =>
  simp only [Option.bind_some]
  cases Bt h lo 0<;>rfl
def Fz:Nat→List Bool→List Int
 | _,[]=>[]
 | i,b :: l=>if b=true then (i:Int) :: Fz (i+1) l else Fz (i+1) l
def nums (have_:List Bool):List Int:=Fz 0 have_
def left (l:Tab) (have_:List Bool):Tab:=((l.zip have_).filter fun p=>p.2).map (·.1)
theorem Wb:∀ (l:List Bool) (i:Nat) (b:Bool),Fz i (l ++ [b])=Fz i l ++ (if b=true then [((i+l.length:Nat):Int)] else [])
 | [],i,b=>by cases b<;>simp [Fz]
 | c :: l,i,b=>by
  have:=Wb l (i+1) b
  cases c<;>simp only [List.cons_append,Fz,this,List.length_cons]<;>cases b<;>simp<;>omega
theorem Ab8 {l:Tab} {have_:List Bool} (he:l.length=have_.length) (x:List UInt8) (b:Bool):left (l ++ [x]) (have_ ++ [b])=left l have_ ++ (if b=true then [x] else []):=by
 unfold left
 rw [List.zip_append he,List.filter_append,List.map_append]
 cases b<;>simp
theorem Vf {l:Tab} {have_:List Bool} (h:Sm l):Sm (left l have_):=by
 have hm:∀ x∈left l have_,x∈l:=by
  intro x hx
  obtain ⟨p,hp,rfl⟩:=List.mem_map.1 hx
  exact (List.of_mem_zip (List.mem_filter.1 hp).1).1
 refine ⟨?_,fun x hx=>h.2 x (hm x hx)⟩
 have h1:=h.1
 have:(left l have_).length≤l.length:=by
  unfold left
  rw [List.length_map]
  exact Nat.le_trans (List.length_filter_le _ _) (by simp;omega)
 omega
theorem Nj {l:Tab} {have_:List Bool} (he:have_.length=l.length):(left l have_).length=(nums have_).length:=by
 unfold nums
 suffices H:∀ (i:Nat) (l:Tab) (b:List Bool),b.length=l.length→(left l b).length=(Fz i b).length from H 0 l have_ he
 intro i l b
 induction b generalizing i l with
 | nil=>intro he;simp [left,Fz]
 | cons c b ih =>
  intro he
  cases l with
  | nil=>simp at he
  | cons x l =>
   have:=ih (i+1) l (by simpa using he)
   simp only [left] at this
   cases c<;>simp [left,Fz,this]
def DkP (k:Int) (l:Tab) (have_:List Bool):Prop:=have_.length=l.length∧1≤k∧GMay k (l.length - k)
instance (k:Int) (l:Tab) (have_:List Bool):Decidable (DkP k l have_):=by unfold DkP;exact inferInstance
def decE (k:Int) (l:Tab) (have_:List Bool):Int:=if ¬DkP k l have_ then 1 else if ¬Fy (left l have_) then 1 else if ((left l have_).length:Int) < k then 3 else 0
def decD (k:Int) (l:Tab) (have_:List Bool):Tab×Int :=
 if decE k l have_=0 then if (decR k (l.length - k) (nums have_)).2=0 then (Ee (decR k (l.length - k) (nums have_)).1 ((left l have_).take k.toNat),0) else ([],(decR k (l.length - k) (nums have_)).2)
 else ([],decE k l have_)
def DdInv (k:Int) (l:Tab) (have_:List Bool) (i:Nat) (r:Regs) (h:Heap):Prop :=
 i≤l.length∧rg r 0 = .int .i64 k∧rg r 1=SL l∧rg r 2=OL have_∧rg r 32=SL l∧rg r 33 = .int .i64 l.length∧rg r 34 = .int .i64 i∧Own h (rg r 8) ((left (l.take i) (have_.take i)).map S)∧Own h (rg r 9) ((nums (have_.take i)).map I64) ∧
 ∀ b1 b2 o1 n1 c1 z1 o2 n2 c2 z2,rg r 8 = .sl b1 o1 n1 c1 z1→rg r 9 = .sl b2 o2 n2 c2 z2→b1≠b2
theorem A9c {k m:Int} {l:List Int} : Sm (decR k m l).1:=by
 by_cases hc:Mt k m l=0
 ·obtain ⟨s,hM,ho,hkl,hs,hsq,hsr,hdec⟩:=A1k hc
  have hk:=hM.2.2.1
  rw [hdec]
  refine ⟨by rw [hsr.len];omega,fun x hx=> ?_⟩
  obtain ⟨j,hj,rfl⟩:=List.getElem_of_mem hx
  have:=hsr.row j (by rw [←hsr.len];exact hj)
  rw [rowN,List.getElem?_eq_getElem hj] at this
  rw [show s.2[j].length=k.toNat from this]
  omega
 ·rw [(Ae5 (k:=k) (m:=m) (l:=l)).2 hc]
  exact ⟨by simp,by simp⟩
theorem A1q (k:Int) (l:Tab) (have_:List Bool) (h:Sm l) (hk:(Lit.int .i64 k).wf=true) (hh:have_.length < 2 ^ 48):Jx Tryz.prog 135 [.int .i64 k,SL l,OL have_] (decD k l have_).1 (decD k l have_).2:=by
 refine CSem.body hm Tryz.func135 rfl (by kernel_rfl) (by kernel_rfl) (by simp [Tryz.ntmps135]) ?_
 have bad:¬DkP k l have_→decD k l have_=([],1):=fun h=>by
  have:decE k l have_=1:=by rw [decE,if_pos h]
  rw [decD,this];rfl
 by_cases h1:have_.length=l.length
 rotate_left
 ·simp [Tryz.f135,h1,bad (fun h=>h1 h.1),FrQ.nil]
 by_cases h2:k < 1
 ·simp [Tryz.f135,h1,h2,bad (fun h=>by have:=h.2.1;omega),FrQ.nil]
 have hl1:=h.1
 have hkb:=i64_of hk
 have hw:IntKind.i64.wrap ((l.length:Int) - k)=(l.length:Int) - k:=wrap64 (by omega) (by omega)
 simp [Tryz.f135,h1,h2,hw]
 refine (Ts _ _ _).use ?_
 by_cases hM:GMay k (l.length - k)
 rotate_left
 ·simp [hM,bad (fun h=>hM h.2.2),FrQ.nil]
 have hD:DkP k l have_:=⟨h1,by omega,hM⟩
 simp [hM]
 refine Am (DdInv k l have_) (l.length - ·) ?_ 0 ?_
 ·rintro i r hp ⟨hi,g0,g1,g2,g32,g33,g34,ho8,ho9,hne⟩
  rcases Nat.lt_or_eq_of_le hi with hlt|heq
  ·have hx:l[i]? = some l[i]:=List.getElem?_eq_getElem hlt
   have hlh:i < have_.length:=by omega
   have hy:have_[i]? = some have_[i]:=List.getElem?_eq_getElem hlh
   have htl:(l.take i).length=(have_.take i).length:=by simp [h1]
   have e1:left (l.take (i+1)) (have_.take (i+1))=left (l.take i) (have_.take i) ++ (if have_[i]=true then [l[i]] else []):=by
    rw [List.take_succ_eq_append_getElem hlt,List.take_succ_eq_append_getElem hlh,Ab8 htl]
   have e2:nums (have_.take (i+1))=nums (have_.take i) ++ (if have_[i]=true then [(i:Int)] else []):=by
    rw [List.take_succ_eq_append_getElem hlh,nums,Wb]
    have:0+(have_.take i).length=i:=by simp;omega
    rw [this]
    rfl
   cases hb:have_[i] with
   | false =>
    simp [g0,g1,g2,g32,g33,g34,hlt,hx,hlh,hy,hb]
    refine ⟨i+1,by omega,by omega,by simp [g0],by simp [g1],by simp [g2],by simp [g32],by simp [g33],by simp [wrap64 (n:=(i:Int)+1) (by omega) (by omega)],?_,?_,?_⟩
    ·rw [e1,hb];simpa using ho8
    ·rw [e2,hb];simpa using ho9
    ·simpa using hne
   | true =>
    have hlen8:((left (l.take i) (have_.take i)).map S).length < 2 ^ 40:=by
     rw [List.length_map];exact (Vf (h.take i)).1
    have hlen9:((nums (have_.take i)).map I64).length < 2 ^ 40:=by
     rw [List.length_map,←Nj (l:=l.take i) (by simp [h1])];exact (Vf (h.take i)).1
    obtain ⟨x',h',e,ho',hnx,hat,hk2⟩:=Hj (P:=Tryz.prog) (t:=24) (xt:=24) (by kernel_rfl) ho8 hlen8 (Mr l[i])
    have ho9':Own h' (rg r 9) ((nums (have_.take i)).map I64):=by
     rcases ho9 with h|⟨b,hb2,hg⟩
     ·exact .inl h
     ·exact .inr ⟨b,hb2,hk2 _ _ hg fun off n c z e8=>hne _ _ _ _ _ _ _ _ _ _ e8 hb2 rfl⟩
    obtain ⟨y',h'',e',ho'',hnx',hat',hk2'⟩:=Hj (P:=Tryz.prog) (t:=26) (xt:=26) (by kernel_rfl) ho9' hlen9 (Ae6 (i:Int))
    simp only [I64] at e'
    simp [g0,g1,g2,g32,g33,g34,hlt,hx,hlh,hy,hb,C0 (P:=Tryz.prog) (t:=24) (xt:=24) (by kernel_rfl),C0 (P:=Tryz.prog) (t:=26) (xt:=26) (by kernel_rfl),e,e']
    refine ⟨i+1,by omega,by omega,by simp [g0],by simp [g1],by simp [g2],by simp [g32],by simp [g33],by simp [wrap64 (n:=(i:Int)+1) (by omega) (by omega)],?_,?_,?_⟩
    ·rw [e1,hb]
     simp
     have ho3:Own h' x' (left (l.take i) (have_.take i) |>.map S |>.append [S l[i]]):=ho'
     rcases ho' with ⟨q1,q2⟩|⟨b,q1,q2⟩
     ·simp at q2
     ·refine .inr ⟨b,by simpa using q1,?_⟩
      have:=hk2' b _ q2 fun off n c z e9=> ?_
      ·simpa using this
      ·have a1:=hat.2 _ _ _ _ _ q1
       rcases ho9 with ⟨p1,_⟩|⟨b9,p1,p2⟩
       ·rw [p1] at e9;cases e9
       ·rw [p1] at e9
        cases e9
        have:=Heap.Ah p2
        omega
    ·rw [e2,hb]
     simpa using ho''
    ·intro b1 b2 o1 n1 c1 z1 o2 n2 c2 z2 q1 q2
     simp at q1 q2
     have a2:=hat'.2 _ _ _ _ _ q2
     rcases ho' with ⟨p1,_⟩|⟨b8,p1,p2⟩
     ·rw [p1] at q1;cases q1
     ·rw [p1] at q1
      cases q1
      have:=Heap.Ah p2
      omega
  ·have hth:have_.take l.length=have_:=by rw [←h1,List.take_length]
   rw [heq,List.take_length,hth] at ho8
   rw [heq,hth] at ho9
   have hsn8:∀ k,snap hp true (k+2) (rg r 8)=some (SL (left l have_)):=fun k=>ho8.snap (fun _=>rfl)
   have hsn9:snap hp true 2 (rg r 9)=some (IL (nums have_)):=ho9.snap (fun _=>rfl)
   have hlsm:=Vf (have_:=have_) h
   have hnl:=Nj h1
   simp [g0,g1,g2,g32,g33,g34,heq]
   refine (W9 (left l have_) (by have:=hlsm.1;omega) (hsn8 0)).use ?_
   by_cases hE:Fy (left l have_)
   rotate_left
   ·have:decE k l have_=1:=by rw [decE,if_neg (fun h=>h hD),if_pos hE]
    simp [hE,decD,this,FrQ.nil]
   have hlen:lenX Tryz.prog 24 (rg r 8)=some (.int .i64 ((left l have_).length:Int)):=by
    rcases ho8 with ⟨p1,p2⟩|⟨b,p1,p2⟩
    ·have:left l have_=[]:=by simpa using p2
     rw [p1,this];rfl
    ·rw [p1];simp
   simp [hE,hlen,g0]
   by_cases hf:((left l have_).length:Int) < k
   ·have:decE k l have_=3:=by rw [decE,if_neg (fun h=>h hD),if_neg (fun h=>h hE),if_pos hf]
    simp [hf,decD,this,FrQ.nil]
   have hz:decE k l have_=0:=by rw [decE,if_neg (fun h=>h hD),if_neg (fun h=>h hE),if_neg hf]
   simp [hf,g0,g1,hw]
   refine (Ab7 k _ (nums have_) (by have:=hlsm.1;omega) hsn9).use ?_
   by_cases hr:(decR k (l.length - k) (nums have_)).2=0
   rotate_left
   ·simp [rL,hr,decD,hz,FrQ.nil]
   simp [rL,hr,g0]
   rcases ho8 with ⟨p1,p2⟩|⟨b,p1,p2⟩
   ·exfalso
    have:left l have_=[]:=by simpa using p2
    rw [this] at hf
    simp at hf
    omega
   have hk0:0≤k:=by omega
   have hkl:k≤((left l have_).length:Int):=by omega
   have hsl:Fj Tryz.prog 24 (.sl b 0 (left l have_).length (left l have_).length 1) none (some (.int .i64 k)) none=some (.sl b 0 k.toNat (left l have_).length 1):=by
    rw [M7 (z:=1) (by kernel_rfl)]
    simp [hk0,hkl]
   simp [p1,p2,hsl]
   have hs9:snap hp true 2 (.sl b 0 k.toNat (left l have_).length 1)=some (SL ((left l have_).take k.toNat)):=by
    refine S7 (f:=S) p2 ?_ (by simp;omega) (fun _ _=>rfl)
    simp [takeN]
    omega
   refine (Wa (decR k (l.length - k) (nums have_)).1 ((left l have_).take k.toNat) A9c (hlsm.take _) (by simp) hs9).then ?_
   rintro x h' ⟨hq,rfl⟩
   simp [decD,hz,hr]
   exact hq.tup
 ·exact ⟨Nat.zero_le _,by simp,by simp,by simp,by simp,by simp,by simp,.inl ⟨by simp,by simp [left]⟩,.inl ⟨by simp,by simp [nums,Fz]⟩,by simp⟩
section
variable {h:Heap} {x y:AV}
end
theorem Gp {c:List UInt8} {l:Tab} {j:Nat} (hj:j < (row0 l).length):(C6 c l)[j]?.getD 0=sm l.length fun k=>gm (c[k]?.getD 0) (ent l k j):=by
 rw [C6,List.getElem?_map,List.getElem?_range hj]
 rfl
theorem Ae7 {b:Tab} (hb:0 < b.length) (f:List UInt8→List UInt8):row0 (b.map f)=f (row0 b):=by
 simp [row0,List.getElem?_eq_getElem hb]
theorem Sc {r:List UInt8} {b c:Tab} (hb:0 < b.length) (hc:(row0 b).length=c.length):C6 (C6 r b) c=C6 r (b.map fun row=>C6 row c):=by
 apply List.ext_getElem?
 intro j
 have h0:(row0 (b.map fun row=>C6 row c)).length=(row0 c).length:=by rw [Ae7 hb,Fv]
 by_cases hj:j < (row0 c).length
 ·have h1:(C6 (C6 r b) c)[j]? = some ((C6 (C6 r b) c)[j]?.getD 0):=by
   rw [List.getElem?_eq_getElem (by rw [Fv];exact hj)];rfl
  have h2:(C6 r (b.map fun row=>C6 row c))[j]? = some ((C6 r (b.map fun row=>C6 row c))[j]?.getD 0):=by
   rw [List.getElem?_eq_getElem (by rw [Fv,h0];exact hj)];rfl
  rw [h1,h2,Gp hj,Gp (by rw [h0];exact hj),List.length_map]
  congr 1
  have e1:∀ l,l < c.length→gm ((C6 r b)[l]?.getD 0) (ent c l j)=sm b.length fun k=>gm (gm (r[k]?.getD 0) (ent b k l)) (ent c l j):=by
   intro l hl
   rw [Gp (by rw [hc];exact hl),Nk]
  have e2:∀ k,k < b.length→gm (r[k]?.getD 0) (ent (b.map fun row=>C6 row c) k j)=sm c.length fun l=>gm (r[k]?.getD 0) (gm (ent b k l) (ent c l j)):=by
   intro k hk
   rw [A1r]
   congr 1
   have:ent (b.map fun row=>C6 row c) k j=(C6 (rowN b k) c)[j]?.getD 0:=by
    simp [ent,rowN,List.getElem?_eq_getElem hk]
   rw [this,Gp hj]
   rfl
  rw [Bp e1,Bp e2,Qf]
  exact Bp fun k _=>Bp fun l _=>D2 _ _ _
 ·rw [List.getElem?_eq_none (by rw [Fv];omega),List.getElem?_eq_none (by rw [Fv,h0];omega)]
theorem Amg {a:Tab} (ha:MayP a) {i:Nat} (hi:i < a.length):C6 (Cx a.length i) a=a[i]:=by
 have hl:a[i].length=(row0 a).length:=ha.2.2.2.2 _ (List.getElem_mem hi)
 apply List.ext_getElem?
 intro j
 by_cases hj:j < (row0 a).length
 ·have h1:(C6 (Cx a.length i) a)[j]? = some ((C6 (Cx a.length i) a)[j]?.getD 0):=by
   rw [List.getElem?_eq_getElem (by rw [Fv];exact hj)];rfl
  rw [h1,Gp hj,List.getElem?_eq_getElem (by rw [hl];exact hj)]
  congr 1
  have e:∀ k,k < a.length→gm ((Cx a.length i)[k]?.getD 0) (ent a k j)=gm (i1 i k) (ent a k j):=by
   intro k hk
   have:=Hm (n:=a.length) hi hk
   rw [ent,rowN,Bu,List.getElem?_map,List.getElem?_range hi] at this
   rw [←this]
   rfl
  rw [Bp e,Za hi,ent,rowN,List.getElem?_eq_getElem hi]
  simp [List.getElem?_eq_getElem (show j < a[i].length by omega)]
 ·rw [List.getElem?_eq_none (by rw [Fv];omega),List.getElem?_eq_none (by omega)]
theorem A1s (k:Int) (l:Tab) (have_:List Bool) (h:Sm l) (hk:(Lit.int .i64 k).wf=true) (hh:have_.length < 2 ^ 48) {hp:Heap} {x y:AV} (hx:snap hp true 2 x=some (SL l)) (hy:snap hp true 2 y=some (OL have_)) :
  CSem Tryz.prog 135 [.int .i64 k,x,y] hp fun x' h'=>x'=rL (decD k l have_).1 (decD k l have_).2∧h'=hp:=(A1q k l have_ h hk hh).pure.call (k:=2) (by simp [hx,hy])
def cnt (have_:List Bool):Nat:=(have_.filter id).length
theorem A3r {data:Tab} {m:Nat} : (encL data m).length=data.length+m:=by simp [encL,Ee,J4]
theorem A6w {rows data:Tab} (hr:Sm rows) (hd:Sm data):Sm (Ee rows data):=by
 refine ⟨by simp [Ee];exact hr.1,fun x hx=> ?_⟩
 obtain ⟨row,_,rfl⟩:=List.mem_map.1 hx
 unfold Fu
 split
 ·rename_i h
  obtain ⟨h1,h2,h3⟩:=h
  have hp:0 < data.length:=List.length_pos_iff.2 h2
  have h0:data[0]? = some data[0]:=List.getElem?_eq_getElem hp
  simp only [Option.getD_some]
  rw [La]
  ·rw [h0];exact hd.2 _ (List.getElem_mem hp)
  ·intro y hy
   obtain ⟨j,hj,rfl⟩:=List.getElem_of_mem hy
   have hjl:j < data.length:=by simp [scaled] at hj;omega
   have:=h3 data[j] (List.getElem_mem _)
   rw [←this]
   simp [scaled,List.getElem_zipWith,Cv]
 ·simp
theorem Aj9 {k:Int} {l:Tab} {have_:List Bool} (h:Sm l):Sm (decD k l have_).1:=by
 unfold decD
 split
 ·split
  ·exact A6w A9c ((Vf h).take _)
  ·exact ⟨by simp,by simp⟩
 ·exact ⟨by simp,by simp⟩
theorem Sd {a:Tab} (ha:Fy a) {i:Nat} (hi:i < a.length):C6 (Cx a.length i) a=a[i]:=by
 have hl:a[i].length=(row0 a).length:=ha _ (List.getElem_mem hi)
 apply List.ext_getElem?
 intro j
 by_cases hj:j < (row0 a).length
 ·have h1:(C6 (Cx a.length i) a)[j]? = some ((C6 (Cx a.length i) a)[j]?.getD 0):=by
   rw [List.getElem?_eq_getElem (by rw [Fv];exact hj)];rfl
  rw [h1,Gp hj,List.getElem?_eq_getElem (by rw [hl];exact hj)]
  congr 1
  have e:∀ k,k < a.length→gm ((Cx a.length i)[k]?.getD 0) (ent a k j)=gm (i1 i k) (ent a k j):=by
   intro k hk
   have:=Hm (n:=a.length) hi hk
   rw [ent,rowN,Bu,List.getElem?_map,List.getElem?_range hi] at this
   rw [←this]
   rfl
  rw [Bp e,Za hi,ent,rowN,List.getElem?_eq_getElem hi]
  simp [List.getElem?_eq_getElem (show j < a[i].length by omega)]
 ·rw [List.getElem?_eq_none (by rw [Fv];omega),List.getElem?_eq_none (by omega)]
theorem Nn {rows data:Tab} (hr:∀ x∈rows,x.length=data.length) (hd:data≠[]) (he:Fy data):Ee rows data=rows.map fun r=>C6 r data:=by
 apply List.map_congr_left
 intro r hm
 rw [Yt (hr r hm) hd he]
 rfl
theorem Zc {k m:Nat} {data:Tab} (hk:data.length=k):∀ x∈genL k m,x.length=data.length:=fun x hx=>by rw [W4 hx,hk]
theorem Ae8 {data:Tab} {m i:Nat} (hd:data≠[]) (he:Fy data) (hi:i < data.length+m):(encL data m)[i]? = some (C6 (rowN (genL data.length m) i) data):=by
 rw [encL,Nn (Zc rfl) hd he,List.getElem?_map,rowN,List.getElem?_eq_getElem (by rw [J4];exact hi)]
 rfl
theorem A3s {data:Tab} {m:Nat} (hd:data≠[]) (he:Fy data):∀ x∈encL data m,x.length=(row0 data).length:=by
 intro x hx
 rw [encL,Nn (Zc rfl) hd he] at hx
 obtain ⟨r,_,rfl⟩:=List.mem_map.1 hx
 exact Fv
theorem A1t {l:Tab} {w:Nat} (h:∀ x∈l,x.length=w):Fy l:=by
 intro x hx
 cases l with
 | nil=>cases hx
 | cons y l=>simp;rw [h x hx,h y (by simp)]
theorem GMay.ne {data:Tab} {m:Int} (h:GMay data.length m):data≠[]:=by
 intro e
 have:=h.1
 rw [e] at this
 simp at this
theorem Qg:∀ {l:List Bool} {i:Nat} {x:Int},x∈Fz i l→∃ j:Nat,x=((i+j:Nat):Int)∧l[j]? = some true
 | b :: l,i,x,h=>by
  unfold Fz at h
  split at h
  ·rename_i hb
   rcases List.mem_cons.1 h with rfl|h
   ·exact ⟨0,by simp,by simp [hb]⟩
   ·obtain ⟨j,h1,h2⟩:=Qg h
    exact ⟨j+1,by rw [h1];congr 1;omega,by simpa using h2⟩
  ·obtain ⟨j,h1,h2⟩:=Qg h
   exact ⟨j+1,by rw [h1];congr 1;omega,by simpa using h2⟩
theorem Mu:∀ (l:List Bool) (i:Nat),(Fz i l).Pairwise (· < ·)
 | [],i=> .nil
 | b :: l,i=>by
  unfold Fz
  split
  ·refine .cons (fun x hx=> ?_) (Mu l (i+1))
   obtain ⟨j,h1,_⟩:=Qg hx
   omega
  ·exact Mu l (i+1)
theorem Aja {have_:List Bool} {n:Int} (hn:(have_.length:Int)≤n):okH n (-1) (nums have_)=true:=by
 refine Ae3 (fun x hx=> ?_) (Mu _ _)
 obtain ⟨j,h1,h2⟩:=Qg hx
 have:=(List.getElem?_eq_some_iff.1 h2).1
 omega
theorem Wc:∀ {l:Tab} {have_:List Bool} {i j:Nat},have_.length=l.length→(Fz i have_)[j]? ≠ none→∃ q,(Fz i have_)[j]? = some ((i+q:Nat):Int)∧q < l.length∧have_[q]? = some true∧(left l have_)[j]? = l[q]? ∧ cnt (have_.take q)=j
 | l,[],i,j,he,h=>by simp [Fz] at h
 | [],b :: have_,i,j,he,h=>by simp at he
 | x :: l,b :: have_,i,j,he,h=>by
  have he':have_.length=l.length:=by simpa using he
  have hcons:left (x :: l) (b :: have_)=(if b=true then [x] else []) ++ left l have_:=by cases b<;>simp [left]
  cases b with
  | false =>
   simp only [Fz] at h ⊢
   obtain ⟨q,h1,h2,h3,h4,h5⟩:=Wc he' h
   refine ⟨q+1,by rw [if_neg (by simp),h1];congr 2;omega,by simp;omega,by simpa using h3,?_,by simp [cnt] at h5 ⊢;exact h5⟩
   rw [hcons];simpa using h4
  | true =>
   simp only [Fz,if_true] at h ⊢
   cases j with
   | zero=>exact ⟨0,by simp,by simp,by simp,by rw [hcons];simp,by simp [cnt]⟩
   | succ j =>
    obtain ⟨q,h1,h2,h3,h4,h5⟩:=Wc (i:=i+1) he' (by simpa using h)
    refine ⟨q+1,by simp only [List.getElem?_cons_succ];rw [h1];congr 2;omega,by simp;omega,by simpa using h3,?_,by simp [cnt] at h5 ⊢;exact h5⟩
    rw [hcons];simpa using h4
theorem A3t:∀ (l:List Bool) (i:Nat),(Fz i l).length=cnt l
 | [],i=>rfl
 | b :: l,i=>by
  have:=A3t l (i+1)
  cases b<;>simp [Fz,cnt] at this ⊢<;>exact this
structure Dec (k:Int) (l:Tab) (have_:List Bool) (d:Tab):Prop where
 ok:decD k l have_=(d,0)
 may:GMay k (l.length - k)
 len:d.length=k.toNat
 few:k≤((left l have_).length:Int)
 row:∀ x∈d,x.length=(row0 ((left l have_).take k.toNat)).length

 back:∀ j,j < k.toNat→∃ q:Nat,(nums have_)[j]? = some (q:Int)∧q < l.length∧have_[q]? = some true∧cnt (have_.take q)=j∧(left l have_)[j]? = l[q]? ∧ some (C6 (rowN (genL k.toNat (l.length - k).toNat) q) d)=l[q]?
 turn:∃ R:Tab,d=R.map (fun r=>C6 r ((left l have_).take k.toNat))∧Sq k.toNat R∧∀ i,i < k.toNat→C6 (rowN R i) (Dr k.toNat (l.length - k).toNat (nums have_))=Cx k.toNat i
theorem A3u {n:Nat} {a b:Tab} (ha:Sq n a) (hb:Sq n b) (h1:1≤n) (hm:∀ i j,i < n→j < n→mm n (ent a) (ent b) i j=i1 i j) {i:Nat} (hi:i < n):C6 (rowN a i) b=Cx n i:=by
 have hb0:(row0 b).length=n:=hb.row 0 h1
 apply List.ext_getElem?
 intro j
 by_cases hj:j < n
 ·have e1:(C6 (rowN a i) b)[j]? = some ((C6 (rowN a i) b)[j]?.getD 0):=by
   rw [List.getElem?_eq_getElem (by rw [Fv,hb0];exact hj)];rfl
  have e2:(Cx n i)[j]? = some (i1 i j):=by
   have:=Hm (n:=n) hi hj
   rw [ent,rowN,Bu,List.getElem?_map,List.getElem?_range hi] at this
   simp only [Option.map_some,Option.getD_some] at this
   rw [←this,List.getElem?_eq_getElem (by simp [Cx];exact hj)]
   rfl
  rw [e1,e2,Gp (by rw [hb0];exact hj),hb.len]
  congr 1
  exact hm i j hi hj
 ·rw [List.getElem?_eq_none (by rw [Fv,hb0];omega),List.getElem?_eq_none (by simp [Cx];omega)]
theorem A1u {k:Int} {l:Tab} {have_:List Bool} (hz:decE k l have_=0):∃ d,Dec k l have_ d:=by
 have hD:DkP k l have_:=by
  by_cases hD:DkP k l have_
  ·exact hD
  ·rw [decE,if_pos hD] at hz;cases hz
 have hE:Fy (left l have_):=by
  by_cases hE:Fy (left l have_)
  ·exact hE
  ·rw [decE,if_neg (fun h=>h hD),if_pos hE] at hz;cases hz
 have hf:¬((left l have_).length:Int) < k:=by
  intro hf
  rw [decE,if_neg (fun h=>h hD),if_neg (fun h=>h hE),if_pos hf] at hz;cases hz
 have hM:=hD.2.2
 have hnl:=Nj hD.1
 have hc:Mt k (l.length - k) (nums have_)=0:=by
  rw [Mt,if_neg (fun h=>h hM),if_neg (by rw [Aja (by rw [hD.1];omega)];simp),if_neg (by rw [←hnl];exact hf)]
 obtain ⟨s,_,ho,hkl,hs,hsq,hsr,hdec⟩:=A1k hc
 have n1:1≤k.toNat:=by have:=hM.1;omega
 have hLl:((left l have_).take k.toNat).length=k.toNat:=by simp;omega
 have hLe:Fy ((left l have_).take k.toNat):=A1t (w:=(row0 (left l have_)).length) fun x hx=>hE x (List.mem_of_mem_take hx)
 have hLn:(left l have_).take k.toNat≠[]:=by intro e;rw [e] at hLl;simp at hLl;omega
 have hRr:∀ x∈s.2,x.length=((left l have_).take k.toNat).length:=fun x hx=>by
  obtain ⟨j,hj,rfl⟩:=List.getElem_of_mem hx
  have:=hsr.row j (by rw [←hsr.len];exact hj)
  rw [rowN,List.getElem?_eq_getElem hj] at this
  rw [hLl];exact this
 have hsp:=Nn hRr hLn hLe
 refine ⟨s.2.map (fun r=>C6 r ((left l have_).take k.toNat)),?_,hM,by simp [hsr.len],by omega,?_,?_,s.2,rfl,hsr,fun i hi=>A3u hsr hsq n1 (A9d hsq hs) hi⟩
 ·rw [decD,if_pos hz,hdec]
  simp [hsp]
 ·intro x hx
  obtain ⟨r,_,rfl⟩:=List.mem_map.1 hx
  exact Fv
 ·intro j hj
  have hjn:(nums have_)[j]? ≠ none:=by
   have:j < (nums have_).length:=by rw [←hnl];omega
   rw [List.getElem?_eq_getElem this];simp
  obtain ⟨q,q1,q2,q3,q4,q5⟩:=Wc (i:=0) hD.1 hjn
  rw [Nat.zero_add] at q1
  refine ⟨q,q1,q2,q3,q5,q4,?_⟩
  rw [←Sc (by rw [hsr.len];exact n1) (by rw [show (row0 s.2).length=k.toNat from hsr.row 0 n1,hLl])]
  have hp:rowN (genL k.toNat (l.length - k).toNat) q=rowN (Dr k.toNat (l.length - k).toNat (nums have_)) j:=by
   have hjt:((nums have_).take k.toNat)[j]? = some (q:Int):=by rw [List.getElem?_take,if_pos hj];exact q1
   rw [Dr,rowN,rowN,List.getElem?_map,hjt]
   rfl
  rw [hp,A3u hsq hsr n1 (Ae9 hsq hs) hj]
  have hjl:j < ((left l have_).take k.toNat).length:=by omega
  have hu:=Sd hLe hjl
  rw [hLl] at hu
  rw [hu,←q4]
  have:((left l have_).take k.toNat)[j]? = (left l have_)[j]? := by rw [List.getElem?_take,if_pos hj]
  rw [←this,List.getElem?_eq_getElem hjl]
theorem Aea {k:Int} {l:Tab} {have_:List Bool} : (decD k l have_).2=decE k l have_∧(decE k l have_≠0→(decD k l have_).1=[]):=by
 by_cases hz:decE k l have_=0
 ·obtain ⟨d,hd⟩:=A1u hz
  exact ⟨by rw [hd.ok,hz],fun h=>(h hz).elim⟩
 ·rw [decD,if_neg hz]
  exact ⟨rfl,fun _=>rfl⟩
theorem Dec.Aeb {data:Tab} {m:Nat} {l:Tab} {have_:List Bool} {d:Tab} (h:Dec data.length l have_ d) (hP:EncP data m) (hl:l.length=data.length+m) (hh:have_.length=l.length) (he:∀ i:Nat,have_[i]? = some true→l[i]? = (encL data m)[i]?):d=data:=by
 obtain ⟨R,hd,hR,hu⟩:=h.turn
 have hE:=hP.2
 have hdn:=hP.1.ne
 have hk:((data.length:Int)).toNat=data.length:=by simp
 have hm:((l.length:Int) - data.length).toNat=m:=by omega
 rw [hk,hm] at hu
 rw [hk] at hd hR
 have n1:1≤data.length:=List.length_pos_iff.2 hdn
 have hfew:=h.few
 have hL:(left l have_).take data.length=(Dr data.length m (nums have_)).map fun r=>C6 r data:=by
  apply List.ext_getElem?
  intro j
  by_cases hj:j < data.length
  ·obtain ⟨q,q1,q2,q3,q4,q5,q6⟩:=h.back j (by rw [hk];exact hj)
   rw [List.getElem?_take,if_pos hj,q5,he q q3,Ae8 hdn hE (by omega),List.getElem?_map,Dr,List.getElem?_map]
   have hjt:((nums have_).take data.length)[j]? = some (q:Int):=by rw [List.getElem?_take,if_pos hj];exact q1
   rw [hjt]
   rfl
  ·rw [List.getElem?_eq_none (by simp;omega),List.getElem?_eq_none (by simp [Dr];omega)]
 have hnl:=Nj hh
 have hpl:(Dr data.length m (nums have_)).length=data.length:=by simp [Dr];omega
 rw [hd]
 apply List.ext_getElem?
 intro i
 rw [List.getElem?_map]
 by_cases hi:i < data.length
 ·have hiR:i < R.length:=by rw [hR.len];exact hi
  rw [List.getElem?_eq_getElem hiR,Option.map_some,hL]
  have hRi:R[i]=rowN R i:=by rw [rowN,List.getElem?_eq_getElem hiR];rfl
  have hp0:(row0 (Dr data.length m (nums have_))).length=data.length:=by
   obtain ⟨q,q1,q2,q3,q4,q5,q6⟩:=h.back 0 (by rw [hk];exact n1)
   have hjt:((nums have_).take data.length)[0]? = some (q:Int):=by rw [List.getElem?_take,if_pos (show 0 < data.length from n1)];exact q1
   rw [row0,Dr,List.getElem?_map,hjt]
   exact S9 (by omega)
  rw [←Sc (by rw [hpl];exact n1) hp0,hRi,hu i hi,Sd hE hi,List.getElem?_eq_getElem hi]
 ·rw [List.getElem?_eq_none (by rw [hR.len];omega),List.getElem?_eq_none (by omega)]
  rfl
theorem Mv {a b:Tab} {k j:Nat} (hl:a.length=b.length) (hk:k < a.length) (hr:(rowN a k).length=(rowN b k).length):ent (List.zipWith xorL a b) k j=ent a k j ^^^ ent b k j:=by
 have h1:rowN (List.zipWith xorL a b) k=xorL (rowN a k) (rowN b k):=by
  simp [rowN,List.getElem?_zipWith,List.getElem?_eq_getElem hk,List.getElem?_eq_getElem (show k < b.length by omega)]
 unfold ent
 rw [h1]
 by_cases hj:j < (rowN a k).length
 ·simp [xorL,List.getElem?_zipWith,List.getElem?_eq_getElem hj,List.getElem?_eq_getElem (show j < (rowN b k).length by omega)]
 ·rw [List.getElem?_eq_none (by simp [xorL];omega),List.getElem?_eq_none (by omega),List.getElem?_eq_none (by omega)]
  rfl
end Go.Proofs.YtpabfpccpbakfaaGreatDoor.X
namespace Go.Proofs.YtpabfpccpbakfaaGreatDoor.F
def le (n:Nat):Nat→List UInt8
 | 0=>[]
 | k+1=>UInt8.ofNat (n % 256) :: le (n / 256) k
def unle:List UInt8→Nat
 | []=>0
 | b :: l=>b.toNat+256 * unle l
@[simp] theorem Qh:∀ (k n:Nat),(le n k).length=k
 | 0,_=>rfl
 | k+1,n=>by simp [le,Qh k]
theorem A9e:∀ l:List UInt8,unle l < 256 ^ l.length
 | []=>by simp [unle]
 | b :: l=>by
  have h1:=A9e l
  have h2:b.toNat < 256:=b.toNat_lt
  simp only [unle,List.length_cons,Nat.pow_succ]
  omega
theorem A1v:∀ (k n:Nat),n < 256 ^ k→unle (le n k)=n
 | 0,n,h=>by simp at h;simp [le,unle,h]
 | k+1,n,h=>by
  have h1:n / 256 < 256 ^ k:=by
   rw [Nat.pow_succ] at h
   omega
  simp only [le,unle,A1v k _ h1,UInt8.toNat_ofNat']
  omega
theorem le_get (k n i:Nat) (hi:i < k):(le n k)[i]? = some (UInt8.ofNat (n / 256 ^ i % 256)):=by
 induction k generalizing n i with
 | zero=>omega
 | succ k ih =>
  cases i with
  | zero=>simp [le]
  | succ i =>
   simp only [le,List.getElem?_cons_succ]
   rw [ih _ _ (by omega),Nat.div_div_eq_div_mul,Nat.pow_succ,Nat.mul_comm]
def dv (n i:Nat):Nat:=n / 256 ^ i
theorem Ajb (n:Nat):dv n 0=n:=by simp [dv]
theorem Ajc (n i:Nat):dv n i / 256=dv n (i+1):=by simp only [dv];rw [Nat.div_div_eq_div_mul,←Nat.pow_succ]
theorem dv_le (n i:Nat):dv n i≤n:=Nat.div_le_self _ _
theorem Aec {n i:Nat} : 0 < dv n i↔256 ^ i≤n:=by
 have hp:0 < 256 ^ i:=Nat.pow_pos (by omega)
 simp only [dv]
 constructor
 ·intro h
  rcases Nat.lt_or_ge n (256 ^ i) with h1|h1
  ·rw [Nat.div_eq_of_lt h1] at h;omega
  ·exact h1
 ·intro h;exact Nat.div_pos h hp
end Go.Proofs.YtpabfpccpbakfaaGreatDoor.F
